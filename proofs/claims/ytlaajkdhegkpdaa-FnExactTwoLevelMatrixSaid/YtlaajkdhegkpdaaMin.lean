/- The product by minus one is the negative. -/
import Derived.Test.YtlaajkdhegkpdaaDyU
import Derived.Test.YtlaajkdhegkpdaaDyD
namespace Go.Proofs.Ytlaajkdhegkpdaa
open Go.RowKit Go.Lib
set_option linter.unusedVariables false
set_option linter.unusedSimpArgs false

theorem mul_minus (Y : R4) : Y.mul ⟨-1, 0, 0, 0⟩ = Y.neg := by
  refine R4.eq ?_ ?_ ?_ ?_ <;> simp only [R4.neg, R4.mul, mrA, mrB, mrC, mrD] <;> omega
theorem mu_minus {Y : R4} {j : Int} (h : GD Y j = true) : muOk Y j ⟨-1, 0, 0, 0⟩ 0 = true ∧ muX Y j ⟨-1, 0, 0, 0⟩ 0 = Y.neg ∧ muE Y j ⟨-1, 0, 0, 0⟩ 0 = j := by
  obtain ⟨h1, h2, h3, _⟩ := GD_rg h
  have hn : GD Y.neg j = true := by rw [neg_valid]; exact h
  obtain ⟨k1, k2, k3, k4⟩ := GD_rg hn
  have g0 : GD ⟨-1, 0, 0, 0⟩ 0 = true := by decide
  have hB : mvBad Y j.toNat ⟨-1, 0, 0, 0⟩ (0 : Int).toNat = false := by
    unfold mvBad
    rw [mul_minus, k1, Bool.or_eq_false_iff]
    exact ⟨decide_eq_false (by simp; omega), rfl⟩
  have hO : muOk Y j ⟨-1, 0, 0, 0⟩ 0 = true := by
    unfold muOk
    rw [h, g0, hB]
    rfl
  have hc : ¬ 60 < j.toNat + (0 : Int).toNat := by simp; omega
  have hend := low_end (k := j.toNat) (x := Y.neg) (by rcases k4 with g | g; exact .inl (by omega); exact .inr g)
  refine ⟨hO, ?_, ?_⟩
  · have e1 : muX Y j ⟨-1, 0, 0, 0⟩ 0 = mvX Y j.toNat ⟨-1, 0, 0, 0⟩ (0 : Int).toNat := if_pos hO
    have e2 : mvX Y j.toNat ⟨-1, 0, 0, 0⟩ (0 : Int).toNat = lowX (j.toNat + (0 : Int).toNat) (Y.mul ⟨-1, 0, 0, 0⟩).clip := if_neg hc
    rw [e1, e2, mul_minus, clip_true k1]
    exact hend.1
  · have e1 : muE Y j ⟨-1, 0, 0, 0⟩ 0 = (mvE Y j.toNat ⟨-1, 0, 0, 0⟩ (0 : Int).toNat : Int) := if_pos hO
    have e2 : mvE Y j.toNat ⟨-1, 0, 0, 0⟩ (0 : Int).toNat = lowE (j.toNat + (0 : Int).toNat) (Y.mul ⟨-1, 0, 0, 0⟩).clip := if_neg hc
    rw [e1, e2, mul_minus, clip_true k1]
    have := hend.2
    show ((lowE j.toNat Y.neg : Nat) : Int) = j
    rw [this]
    omega
theorem whole_any (n : Int) (w : World) :
    Calls Try.prog 31 #[.int .i64 n] w fun e w' => e = .returned (.agg #[.int .i64 n, .int .i64 0, .int .i64 0, .int .i64 0, .int .i64 0]) ∧ Ext w w' := by
  go_enter Try.func31, Try.ntmps31
  go_wp2
  refine bodyPost_ret (v := .agg #[.int .i64 n, .int .i64 0, .int .i64 0, .int .i64 0, .int .i64 0]) (by simp [results, Try.results31, go_sem, *]) rfl ?_
  exact ⟨rfl, (by repeat (first | (with_reducible refine Ext.setCell ?_ (by first | (simp; done) | (simp; omega)) _) | with_reducible refine Ext.alloc ?_ _ | with_reducible refine Ext.drew ?_ | with_reducible refine Ext.drewN ?_ _ | with_reducible assumption | with_reducible exact Ext.refl _ | with_reducible refine Ext.trans ?_ (by with_reducible assumption)))⟩

end Go.Proofs.Ytlaajkdhegkpdaa
