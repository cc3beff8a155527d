/- Dyadic numbers: the reference's sum. -/
import Derived.Test.YtamiploliebplaaDoorDyS
import Derived.Test.YtamiploliebplaaDoorWr
namespace Go.Proofs.YtamiploliebplaaDoor
open Go.RowKit Go.Lib
set_option linter.unusedVariables false
set_option linter.unusedSimpArgs false

theorem ring_any (bc : Nat) (b : Bool) (p q r s : Int) (w : World) (hb : w.heap[bc]? = some (.cells #[.bool b] 72 (0, 0))) :
    Calls Tryd.prog 72 #[.pointer (some ⟨bc, 0, none⟩), .agg #[.int .i64 p, .int .i64 q, .int .i64 r, .int .i64 s]] w fun e w' =>
      e = .returned (R4.clip ⟨p, q, r, s⟩).val ∧ w.grownBy w' (some bc) ∧ w'.heap[bc]? = some (.cells #[.bool (b || !Rg p q r s)] 72 (0, 0)) := by
  have hlt : bc < w.heap.size := (Array.getElem?_eq_some_iff.1 hb).1
  have hne : ∀ k, w.heap.size ≤ k → ¬ k = bc := fun k hk e => by omega
  cases h : Rg p q r s
  · have HC : Hid ((R4.clip ⟨p, q, r, s⟩).val = .agg #[.int .i64 0, .int .i64 0, .int .i64 0, .int .i64 0]) := by unfold Hid; rw [clip_false (x := ⟨p, q, r, s⟩) h]; rfl
    rw [HC.out]
    go_enter Tryd.func72, Tryd.ntmps72
    go_wp2_with fail
    refine (l1Good_any _ _ _ _ _).mono ?_
    rintro e w1 ⟨rfl, hx1⟩
    obtain ⟨hc1, hf1⟩ := hx1.cells
    have hz1 := hx1.size
    try simp at hz1
    have hs1_0 := sz2 (a := w.heap.size) (b := w1.heap.size) (by omega)
    have h1 : w1.heap[bc]? = some (.cells #[.bool b] 72 (0, 0)) := (hx1.heap (by simp; omega)).trans ((((Ext.refl w).alloc _).alloc _).heap hlt |>.trans hb)
    have hcc : ∀ k, w1.cell? ⟨bc, k, none⟩ = (#[.bool b] : Array Value)[k]? := fun k => cell_of_row _ _ _ _ _ _ h1
    have hff : ∀ k, w1.frozen? ⟨bc, k, none⟩ = false := fun k => frozen_of_row _ _ _ _ _ h1
    have hl1 : bc < w1.heap.size := by omega
    go_wp2
    refine bodyPost_ret (v := .agg #[.int .i64 0, .int .i64 0, .int .i64 0, .int .i64 0]) (by simp [results, Tryd.results72, go_sem, *]) rfl ?_
    have h2 : (w1.setCell ⟨bc, 0, none⟩ (.bool true)).heap[bc]? = some (.cells #[.bool true] 72 (0, 0)) := heap_set_at h1 0 (.bool true)
    refine ⟨rfl, GX.toGrown (by repeat (first | (with_reducible refine GX.setCell ?_ (by first | (simp; done) | (simp; omega)) _) | with_reducible refine GX.alloc ?_ _ | with_reducible refine GX.drew ?_ | with_reducible refine GX.drewN ?_ _ | with_reducible assumption | with_reducible exact GX.refl _ _ | with_reducible refine GX.ext ?_ (by with_reducible assumption) | with_reducible refine GX.trans ?_ (by with_reducible assumption))), ?_⟩
    rw [show (b || !false) = true by cases b <;> rfl]
    exact (by repeat (first | (with_reducible exact h2) | (with_reducible refine heap_set_ne (by first | (simp; done) | (simp; omega)) ?_) | (with_reducible refine heap_alloc_lt ?_)))
  · have HC : Hid ((R4.clip ⟨p, q, r, s⟩).val = .agg #[.int .i64 p, .int .i64 q, .int .i64 r, .int .i64 s]) := by unfold Hid; rw [clip_true (x := ⟨p, q, r, s⟩) h]; rfl
    rw [HC.out]
    go_enter Tryd.func72, Tryd.ntmps72
    go_wp2_with fail
    refine (l1Good_any _ _ _ _ _).mono ?_
    rintro e w1 ⟨rfl, hx1⟩
    obtain ⟨hc1, hf1⟩ := hx1.cells
    have hz1 := hx1.size
    try simp at hz1
    have hs1_0 := sz2 (a := w.heap.size) (b := w1.heap.size) (by omega)
    have h1 : w1.heap[bc]? = some (.cells #[.bool b] 72 (0, 0)) := (hx1.heap (by simp; omega)).trans ((((Ext.refl w).alloc _).alloc _).heap hlt |>.trans hb)
    go_wp2
    refine bodyPost_ret (v := .agg #[.int .i64 p, .int .i64 q, .int .i64 r, .int .i64 s]) (by simp [results, Tryd.results72, go_sem, *]) rfl ⟨rfl, ?_⟩
    refine ⟨GX.toGrown (by repeat (first | (with_reducible refine GX.setCell ?_ (by first | (simp; done) | (simp; omega)) _) | with_reducible refine GX.alloc ?_ _ | with_reducible refine GX.drew ?_ | with_reducible refine GX.drewN ?_ _ | with_reducible assumption | with_reducible exact GX.refl _ _ | with_reducible refine GX.ext ?_ (by with_reducible assumption) | with_reducible refine GX.trans ?_ (by with_reducible assumption))), ?_⟩
    rw [show (b || !true) = b by cases b <;> rfl]
    exact (by repeat (first | (with_reducible exact h1) | (with_reducible refine heap_set_ne (by first | (simp; done) | (simp; omega)) ?_) | (with_reducible refine heap_alloc_lt ?_)))

set_option maxHeartbeats 1000000 in
theorem l2Low_any (n : Nat) (hn : n ≤ 60) (X : R4) (hX : X.rg = true) (w : World) :
    Calls Tryd.prog 71 #[X.val, .int .i64 n] w fun e w' => e = .returned (.agg #[.int .i64 (lowX n X).a, .int .i64 (lowX n X).b, .int .i64 (lowX n X).c, .int .i64 (lowX n X).d, .int .i64 (lowE n X)]) ∧ Ext w w' := by
  obtain ⟨xa, xb, xc, xd⟩ := X
  simp only [R4.val]
  have HX := Lib.hid hX
  clear hX
  go_enter Tryd.func71, Tryd.ntmps71
  go_wp2
  go_loopw [1] (fun ev wr => ∃ (k : Nat) (Y : R4), k ≤ 60 ∧ ev = .int .i64 k ∧ Y.rg = true ∧ lowX k Y = lowX n ⟨xa, xb, xc, xd⟩ ∧ lowE k Y = lowE n ⟨xa, xb, xc, xd⟩ ∧ Ext w wr ∧ wr.heap[w.heap.size]? = some (.cells #[.int .i64 Y.a, .int .i64 Y.b, .int .i64 Y.c, .int .i64 Y.d] 40 (0, 0)) ∧ wr.heap[w.heap.size + 1]? = some (.cells #[.int .i64 0, .int .i64 0, .int .i64 0, .int .i64 0, .int .i64 0] 46 (0, 0))) (fun ev _ => (intOf ev).toNat)
  case atStart => exact ⟨n, ⟨xa, xb, xc, xd⟩, hn, rfl, HX.out, rfl, rfl, (by repeat (first | exact Ext.refl _ | assumption | refine Ext.alloc ?_ _ | refine Ext.drew ?_ | refine Ext.drewN ?_ _ | refine Ext.setCell ?_ (by first | omega | (dsimp only; omega) | (simp; done) | (simp; omega)) _ | refine Ext.trans ?_ (by assumption))), heap_alloc_lt (heap_alloc_new _ _), heap_alloc_at _ _ _ (by simp)⟩
  case round =>
    obtain ⟨k, ⟨a, b, c, d⟩, hk, rfl, hY, hL, hE, hx, hb, hr⟩ := hrel
    have HL := Lib.hid hL
    have HE := Lib.hid hE
    have hY' : Rg a b c d = true := hY
    have HY := Lib.hid hY'
    have HYh : Hid ((R4.half ⟨a, b, c, d⟩).rg = true) := rg_half (x := ⟨a, b, c, d⟩) hY
    have HB := Lib.hid hb
    have HR := Lib.hid hr
    clear hL hE hY hY' hb hr
    have hc : ∀ k, wr.cell? ⟨w.heap.size, k, none⟩ = (#[.int .i64 a, .int .i64 b, .int .i64 c, .int .i64 d] : Array Value)[k]? := fun k => cell_of_row _ _ _ _ _ _ HB.out
    have hf : ∀ k, wr.frozen? ⟨w.heap.size, k, none⟩ = false := fun k => frozen_of_row _ _ _ _ _ HB.out
    have hcr : ∀ k, wr.cell? ⟨w.heap.size + 1, k, none⟩ = (#[.int .i64 0, .int .i64 0, .int .i64 0, .int .i64 0, .int .i64 0] : Array Value)[k]? := fun k => cell_of_row _ _ _ _ _ _ HR.out
    have hfr : ∀ k, wr.frozen? ⟨w.heap.size + 1, k, none⟩ = false := fun k => frozen_of_row _ _ _ _ _ HR.out
    have hs1 : w.heap.size + 1 < wr.heap.size := (Array.getElem?_eq_some_iff.1 HR.out).1
    have hl : w.heap.size < wr.heap.size := by omega
    by_cases h0 : 0 < k
    · have h0' : (0 : Int) < k := by omega
      have hk' : (k : Int) ≤ 60 := by omega
      cases he : evR a b c d
      · have HF := Lib.hid (low_end (k := k) (x := ⟨a, b, c, d⟩) (.inr he))
        go_wp2_with fail
        refine (l1Even_any _ _ _ _ HY.out _).mono ?_
        rintro e w1 ⟨rfl, hx1⟩
        obtain ⟨hc1, hf1⟩ := hx1.cells
        have hz1 := hx1.size
        try simp at hz1
        have hs1_0 := sz2 (a := w.heap.size) (b := w1.heap.size) (by omega)
        rw [he]
        go_wp2
        refine bodyPost_ret (v := .agg #[.int .i64 a, .int .i64 b, .int .i64 c, .int .i64 d, .int .i64 k]) (by simp [results, Tryd.results71, go_sem, *]) rfl ?_
        exact ⟨by rw [← HL.out, ← HE.out, HF.out.1, HF.out.2], (by repeat (first | (with_reducible refine Ext.setCell ?_ (by first | (simp; done) | (simp; omega)) _) | with_reducible refine Ext.alloc ?_ _ | with_reducible refine Ext.drew ?_ | with_reducible refine Ext.drewN ?_ _ | with_reducible assumption | with_reducible exact Ext.refl _ | with_reducible refine Ext.trans ?_ (by with_reducible assumption)))⟩
      · have HF := Lib.hid (low_step (k := k) (x := ⟨a, b, c, d⟩) h0 he)
        go_wp2_with fail
        refine (l1Even_any _ _ _ _ HY.out _).mono ?_
        rintro e w1 ⟨rfl, hx1⟩
        obtain ⟨hc1, hf1⟩ := hx1.cells
        have hz1 := hx1.size
        try simp at hz1
        have hs1_0 := sz2 (a := w.heap.size) (b := w1.heap.size) (by omega)
        rw [he]
        go_wp2_with fail
        refine (l1Half_any _ _ _ _ HY.out _).mono ?_
        rintro e w2 ⟨rfl, hx2⟩
        obtain ⟨hc2, hf2⟩ := hx2.cells
        have hz2 := hx2.size
        try simp at hz2
        have hs2_0 := sz2 (a := w.heap.size) (b := w2.heap.size) (by omega)
        go_wp2
        have h2 : w2.heap[w.heap.size]? = some (.cells #[.int .i64 a, .int .i64 b, .int .i64 c, .int .i64 d] 40 (0, 0)) := (hx2.heap (by omega)).trans ((hx1.heap hl).trans HB.out)
        have h3 : w2.heap[w.heap.size + 1]? = some (.cells #[.int .i64 0, .int .i64 0, .int .i64 0, .int .i64 0, .int .i64 0] 46 (0, 0)) := (hx2.heap (by omega)).trans ((hx1.heap hs1).trans HR.out)
        go_roundw
        case rel => exact ⟨k - 1, R4.half ⟨a, b, c, d⟩, by omega, by go_num, HYh.out, HF.out.1.trans HL.out, HF.out.2.trans HE.out, (by repeat (first | (with_reducible refine Ext.setCell ?_ (by first | (simp; done) | (simp; omega)) _) | with_reducible refine Ext.alloc ?_ _ | with_reducible refine Ext.drew ?_ | with_reducible refine Ext.drewN ?_ _ | with_reducible assumption | with_reducible exact Ext.refl _ | with_reducible refine Ext.trans ?_ (by with_reducible assumption))), heap_set_at (heap_set_at (heap_set_at (heap_set_at h2 0 _) 1 _) 2 _) 3 _, (by repeat (first | (with_reducible exact h3) | (with_reducible refine heap_set_ne (by first | (simp; done) | (simp; omega)) ?_) | (with_reducible refine heap_alloc_lt ?_)))⟩
        case measure => simp [intOf]; omega
    · have h0' : ¬ (0 : Int) < k := by omega
      have HF := Lib.hid (low_end (k := k) (x := ⟨a, b, c, d⟩) (.inl (by omega)))
      go_wp2
      refine bodyPost_ret (v := .agg #[.int .i64 a, .int .i64 b, .int .i64 c, .int .i64 d, .int .i64 k]) (by simp [results, Tryd.results71, go_sem, *]) rfl ?_
      exact ⟨by rw [← HL.out, ← HE.out, HF.out.1, HF.out.2], (by repeat (first | (with_reducible refine Ext.setCell ?_ (by first | (simp; done) | (simp; omega)) _) | with_reducible refine Ext.alloc ?_ _ | with_reducible refine Ext.drew ?_ | with_reducible refine Ext.drewN ?_ _ | with_reducible assumption | with_reducible exact Ext.refl _ | with_reducible refine Ext.trans ?_ (by with_reducible assumption)))⟩


open Go.RowKit Go.Lib
set_option linter.unusedVariables false
set_option linter.unusedSimpArgs false

/-- the boxes of a sum: both numbers, the result's, the failure's mark -/
structure AR (w : World) (bc : Nat) (wr : World) (X : R4) (k : Nat) (Y : R4) (l : Nat) (β : Bool) : Prop where
  gx : GX [bc] w wr
  x : wr.heap[w.heap.size]? = some (.cells #[.int .i64 X.a, .int .i64 X.b, .int .i64 X.c, .int .i64 X.d, .int .i64 k] 46 (0, 0))
  y : wr.heap[w.heap.size + 1]? = some (.cells #[.int .i64 Y.a, .int .i64 Y.b, .int .i64 Y.c, .int .i64 Y.d, .int .i64 l] 46 (0, 0))
  r : wr.heap[w.heap.size + 2]? = some (.cells #[.int .i64 0, .int .i64 0, .int .i64 0, .int .i64 0, .int .i64 0] 46 (0, 0))
  c : wr.heap[bc]? = some (.cells #[.bool β] 72 (0, 0))
theorem AR.hc {w : World} {bc : Nat} {wr : World} {X : R4} {k : Nat} {Y : R4} {l : Nat} {β : Bool} (h : AR w bc wr X k Y l β) :
    (∀ j, wr.cell? ⟨w.heap.size, j, none⟩ = (#[.int .i64 X.a, .int .i64 X.b, .int .i64 X.c, .int .i64 X.d, .int .i64 k] : Array Value)[j]?) ∧
    (∀ j, wr.cell? ⟨w.heap.size + 1, j, none⟩ = (#[.int .i64 Y.a, .int .i64 Y.b, .int .i64 Y.c, .int .i64 Y.d, .int .i64 l] : Array Value)[j]?) ∧
    (∀ j, wr.frozen? ⟨w.heap.size + 2, j, none⟩ = false) ∧ w.heap.size + 2 < wr.heap.size :=
  ⟨fun k => cell_of_row _ _ _ _ _ _ h.x, fun k => cell_of_row _ _ _ _ _ _ h.y, fun k => frozen_of_row _ _ _ _ _ h.r, (Array.getElem?_eq_some_iff.1 h.r).1⟩


open Go.RowKit Go.Lib
set_option linter.unusedVariables false
set_option linter.unusedSimpArgs false

def adOk (X : R4) (e : Int) (Y : R4) (j : Int) : Bool := GD X e && GD Y j && !dyBad X e.toNat Y j.toNat
def adX (X : R4) (e : Int) (Y : R4) (j : Int) : R4 := if adOk X e Y j then dyX X e.toNat Y j.toNat else R4.zero
def adE (X : R4) (e : Int) (Y : R4) (j : Int) : Int := if adOk X e Y j then (dyE X e.toNat Y j.toNat : Int) else 0

theorem ad_false {X : R4} {e : Int} {Y : R4} {j : Int} (h : adOk X e Y j = false) : adX X e Y j = R4.zero ∧ adE X e Y j = 0 := by
  unfold adX adE
  rw [h]
  exact ⟨rfl, rfl⟩
theorem ad_true {X : R4} {e : Int} {Y : R4} {j : Int} (h : GD X e = true) (h2 : GD Y j = true) :
    adOk X e Y j = !dyBad X e.toNat Y j.toNat ∧ (adX X e Y j).a = ifZ (!dyBad X e.toNat Y j.toNat) ((dyX X e.toNat Y j.toNat).a) ∧ (adX X e Y j).b = ifZ (!dyBad X e.toNat Y j.toNat) ((dyX X e.toNat Y j.toNat).b) ∧
    (adX X e Y j).c = ifZ (!dyBad X e.toNat Y j.toNat) ((dyX X e.toNat Y j.toNat).c) ∧ (adX X e Y j).d = ifZ (!dyBad X e.toNat Y j.toNat) ((dyX X e.toNat Y j.toNat).d) ∧ adE X e Y j = ifZ (!dyBad X e.toNat Y j.toNat) ((dyE X e.toNat Y j.toNat : Int)) := by
  have e1 : adOk X e Y j = !dyBad X e.toNat Y j.toNat := by unfold adOk; rw [h, h2]; rfl
  unfold adX adE
  rw [e1]
  cases dyBad X e.toNat Y j.toNat
  · exact ⟨rfl, rfl, rfl, rfl, rfl, rfl⟩
  · exact ⟨rfl, rfl, rfl, rfl, rfl, rfl⟩

/-- the opposite of the second number -/
theorem neg_valid {Y : R4} {j : Int} : GD Y.neg j = GD Y j := by
  have e1 : Y.neg.rg = Y.rg := by
    unfold R4.rg R4.neg Rg Cf Wn
    congr 1
    · congr 1
      · congr 1
        all_goals (rw [Bool.eq_iff_iff]; simp; omega)
      · rw [Bool.eq_iff_iff]; simp; omega
    · rw [Bool.eq_iff_iff]; simp; omega
  have e2 : Y.neg.ev = Y.ev := by
    unfold R4.ev R4.neg evR
    have h1 : ∀ x y : Int, (Int.tmod (-x + -y) 2 == 0) = (Int.tmod (x + y) 2 == 0) := by
      intro x y
      rw [show -x + -y = -(x + y) by omega, Int.neg_tmod]
      rw [Bool.eq_iff_iff]
      simp
    simp only [h1]
  unfold GD
  rw [e1, e2]


open Go.RowKit Go.Lib
set_option linter.unusedVariables false
set_option linter.unusedSimpArgs false

theorem rg_neg {Y : R4} (h : Y.rg = true) : Y.neg.rg = true := by
  obtain ⟨a, b, c, d⟩ := Rg_bd h
  exact Rg_mk (by simp only [R4.neg]; omega)

end Go.Proofs.YtamiploliebplaaDoor
