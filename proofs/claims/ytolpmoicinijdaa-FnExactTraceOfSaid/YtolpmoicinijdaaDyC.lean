/- Dyadic numbers: the reference's sum and difference. -/
import Derived.Test.YtolpmoicinijdaaDyB
namespace Go.Proofs.Ytolpmoicinijdaa
open Go.RowKit Go.Lib
set_option linter.unusedVariables false
set_option linter.unusedSimpArgs false

def adOk (X : R4) (e : Int) (Y : R4) (j : Int) : Bool := GD X e && GD Y j && !dyBad X e.toNat Y j.toNat
def adX (X : R4) (e : Int) (Y : R4) (j : Int) : R4 := if adOk X e Y j then dyX X e.toNat Y j.toNat else R4.zero
def adE (X : R4) (e : Int) (Y : R4) (j : Int) : Int := if adOk X e Y j then (dyE X e.toNat Y j.toNat : Int) else 0

theorem out_any (bc : Nat) (β : Bool) (a b c d e : Int) (w : World) (hb : w.heap[bc]? = some (.cells #[.bool β] 49 (0, 0))) :
    Calls Try.prog 20 #[.pointer (some ⟨bc, 0, none⟩), .agg #[.int .i64 a, .int .i64 b, .int .i64 c, .int .i64 d, .int .i64 e]] w fun en w' =>
      en = .returned (.tuple #[.agg #[.int .i64 (ifZ (!β) a), .int .i64 (ifZ (!β) b), .int .i64 (ifZ (!β) c), .int .i64 (ifZ (!β) d), .int .i64 (ifZ (!β) e)], .bool (!β)]) ∧ Ext w w' := by
  have hlt : bc < w.heap.size := (Array.getElem?_eq_some_iff.1 hb).1
  have hc : ∀ j, w.cell? ⟨bc, j, none⟩ = (#[.bool β] : Array Value)[j]? := fun j => cell_of_row _ _ _ _ _ _ hb
  cases β
  · go_enter Try.func20, Try.ntmps20
    go_wp2
    refine bodyPost_ret (v := .tuple #[.agg #[.int .i64 a, .int .i64 b, .int .i64 c, .int .i64 d, .int .i64 e], .bool true]) (by simp [results, Try.results20, go_sem, *]) rfl ⟨rfl, ?_⟩
    exact (by repeat (first | (with_reducible refine Ext.setCell ?_ (by first | (simp; done) | (simp; omega)) _) | with_reducible refine Ext.alloc ?_ _ | with_reducible refine Ext.drew ?_ | with_reducible refine Ext.drewN ?_ _ | with_reducible assumption | with_reducible exact Ext.refl _ | with_reducible refine Ext.trans ?_ (by with_reducible assumption)))
  · go_enter Try.func20, Try.ntmps20
    go_wp2
    refine bodyPost_ret (v := .tuple #[.agg #[.int .i64 0, .int .i64 0, .int .i64 0, .int .i64 0, .int .i64 0], .bool false]) (by simp [results, Try.results20, go_sem, *]) rfl ⟨rfl, ?_⟩
    exact (by repeat (first | (with_reducible refine Ext.setCell ?_ (by first | (simp; done) | (simp; omega)) _) | with_reducible refine Ext.alloc ?_ _ | with_reducible refine Ext.drew ?_ | with_reducible refine Ext.drewN ?_ _ | with_reducible assumption | with_reducible exact Ext.refl _ | with_reducible refine Ext.trans ?_ (by with_reducible assumption)))

theorem ad_false {X : R4} {e : Int} {Y : R4} {j : Int} (h : adOk X e Y j = false) : adX X e Y j = R4.zero ∧ adE X e Y j = 0 := by
  unfold adX adE
  rw [h]
  exact ⟨rfl, rfl⟩
theorem ad_true {X : R4} {e : Int} {Y : R4} {j : Int} (h : GD X e = true) (h2 : GD Y j = true) :
    adOk X e Y j = !dyBad X e.toNat Y j.toNat ∧ (adX X e Y j).a = ifZ (!dyBad X e.toNat Y j.toNat) ((dyX X e.toNat Y j.toNat).a) ∧ (adX X e Y j).b = ifZ (!dyBad X e.toNat Y j.toNat) ((dyX X e.toNat Y j.toNat).b) ∧
    (adX X e Y j).c = ifZ (!dyBad X e.toNat Y j.toNat) ((dyX X e.toNat Y j.toNat).c) ∧ (adX X e Y j).d = ifZ (!dyBad X e.toNat Y j.toNat) ((dyX X e.toNat Y j.toNat).d) ∧ adE X e Y j = ifZ (!dyBad X e.toNat Y j.toNat) ((dyE X e.toNat Y j.toNat : Int)) := by
  have e1 : adOk X e Y j = !dyBad X e.toNat Y j.toNat := by unfold adOk; rw [h, h2]; rfl
  unfold adX adE
  rw [e1]
  cases dyBad X e.toNat Y j.toNat
  · exact ⟨rfl, rfl, rfl, rfl, rfl, rfl⟩
  · exact ⟨rfl, rfl, rfl, rfl, rfl, rfl⟩

/-- the opposite of the second number -/
theorem neg_valid {Y : R4} {j : Int} : GD Y.neg j = GD Y j := by
  have e1 : Y.neg.rg = Y.rg := by
    unfold R4.rg R4.neg Rg Cf Wn
    congr 1
    · congr 1
      · congr 1
        all_goals (rw [Bool.eq_iff_iff]; simp; omega)
      · rw [Bool.eq_iff_iff]; simp; omega
    · rw [Bool.eq_iff_iff]; simp; omega
  have e2 : Y.neg.ev = Y.ev := by
    unfold R4.ev R4.neg evR
    have h1 : ∀ x y : Int, (Int.tmod (-x + -y) 2 == 0) = (Int.tmod (x + y) 2 == 0) := by
      intro x y
      rw [show -x + -y = -(x + y) by omega, Int.neg_tmod]
      rw [Bool.eq_iff_iff]
      simp
    simp only [h1]
  unfold GD
  rw [e1, e2]

end Go.Proofs.Ytolpmoicinijdaa
