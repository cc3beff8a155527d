/- Dyadic numbers: the program's lowest form and its raising. -/
import Derived.Test.YtamiploliebplaaDoorDyS
import Derived.Test.YtamiploliebplaaDoorWr
namespace Go.Proofs.YtamiploliebplaaDoor
open Go.RowKit Go.Lib
set_option linter.unusedVariables false
set_option linter.unusedSimpArgs false

set_option maxHeartbeats 2000000 in
theorem divRootTwo_any (a b c d : Int) (h0 : Rg a b c d = true) (he : evR a b c d = true) (w : World) :
    Calls Tryd.prog 100 #[.agg #[.int .i64 a, .int .i64 b, .int .i64 c, .int .i64 d]] w fun en w' => en = .returned (.tuple #[.agg #[.int .i64 (Int.tdiv (b - d) 2), .int .i64 (Int.tdiv (a + c) 2), .int .i64 (Int.tdiv (b + d) 2), .int .i64 (Int.tdiv (c - a) 2)], .bool true]) ∧ Ext w w' := by
  obtain ⟨ba, bb, bc, bd⟩ := Rg_bd h0
  have HB : Hid (AllRg ([a, b, c, d] ++ [Int.tdiv (b - d) 2, Int.tdiv (a + c) 2, Int.tdiv (b + d) 2, Int.tdiv (c - a) 2]) (1 + 1) = true) := by
    unfold Hid
    rw [allRgN1, h0]
    exact rg_half (x := ⟨a, b, c, d⟩) h0
  have H0 := Lib.hid h0
  have HE : ∀ w', Hid (Calls Tryd.prog 77 #[.agg #[.int .i64 a, .int .i64 b, .int .i64 c, .int .i64 d]] w' fun e w'' => e = .returned (.bool true) ∧ Ext w' w'') := by
    rw [← he]
    exact fun w' => isEven_any a b c d h0 w'
  have HV : ∀ w', Hid (Calls Tryd.prog 61 #[.agg #[.int .i64 a, .int .i64 b, .int .i64 c, .int .i64 d]] w' fun e w'' => e = .returned (.bool true) ∧ Ext w' w'') := by
    rw [← h0]
    exact fun w' => isValidRing_any a b c d w'
  clear h0 he
  go_enter Tryd.func100, Tryd.ntmps100
  go_wp2_with fail
  refine ((HV _).out).mono ?_
  rintro e w1 ⟨rfl, hx1⟩
  obtain ⟨hc1, hf1⟩ := hx1.cells
  have hz1 := hx1.size
  try simp at hz1
  have hs1_0 := sz2 (a := w.heap.size) (b := w1.heap.size) (by omega)
  go_wp2_with fail
  refine ((HE _).out).mono ?_
  rintro e w2 ⟨rfl, hx2⟩
  obtain ⟨hc2, hf2⟩ := hx2.cells
  have hz2 := hx2.size
  try simp at hz2
  have hs2_0 := sz2 (a := w.heap.size) (b := w2.heap.size) (by omega)
  go_wp2_with fail
  have HT := Lib.hid (ringIf_any (Int.tdiv (b - d) 2) (Int.tdiv (a + c) 2) (Int.tdiv (b + d) 2) (Int.tdiv (c - a) 2) 1 w2.heap.size (.slice (some ⟨w2.heap.size, 0, none⟩) 1 1) [a, b, c, d] (by decide) rfl)
  unfold Hid at HT
  rw [HB.out] at HT
  refine (HT _ (by simp) (own_lit2 (by simp) (by decide) rfl rfl)).mono ?_
  rintro en w3 ⟨rfl, hx3⟩
  clear HT
  obtain ⟨hc3, hf3⟩ := Below.facts hx3
  have hz3 := hx3.size
  try simp at hz3
  have hs3 := sz3 (a := w.heap.size) (b := w3.heap.size) (by omega)
  have hx3' : Ext w w3 := Below.trans (by repeat (first | exact Ext.refl _ | assumption | refine Ext.alloc ?_ _ | refine Ext.drew ?_ | refine Ext.drewN ?_ _ | refine Ext.setCell ?_ (by first | omega | (dsimp only; omega) | (simp; done) | (simp; omega)) _ | refine Ext.trans ?_ (by assumption))) (Below.mono hx3 (by omega))
  clear hx3
  simp only [ifZ_true]
  go_wp2
  refine bodyPost_ret (v := .tuple #[.agg #[.int .i64 (Int.tdiv (b - d) 2), .int .i64 (Int.tdiv (a + c) 2), .int .i64 (Int.tdiv (b + d) 2), .int .i64 (Int.tdiv (c - a) 2)], .bool true]) (by simp [results, Tryd.results100, go_sem, *]) rfl ⟨rfl, ?_⟩
  (repeat (refine Ext.setCell ?_ (by first | (simp; done) | (simp; omega)) _)); exact hx3'

set_option maxHeartbeats 1000000 in
theorem dyadicOf_any (n : Nat) (hn : n ≤ 60) (X : R4) (hX : X.rg = true) (w : World) :
    Calls Tryd.prog 89 #[.agg #[.int .i64 X.a, .int .i64 X.b, .int .i64 X.c, .int .i64 X.d], .int .i64 n] w fun e w' => e = .returned (.tuple #[.agg #[.int .i64 (lowX n X).a, .int .i64 (lowX n X).b, .int .i64 (lowX n X).c, .int .i64 (lowX n X).d, .int .i64 (lowE n X)], .bool true]) ∧ Ext w w' := by
  obtain ⟨xa, xb, xc, xd⟩ := X
  have HX := Lib.hid hX
  have HV : ∀ w', Hid (Calls Tryd.prog 61 #[.agg #[.int .i64 xa, .int .i64 xb, .int .i64 xc, .int .i64 xd]] w' fun e w'' => e = .returned (.bool true) ∧ Ext w' w'') := by
    rw [← hX]
    exact fun w' => isValidRing_any xa xb xc xd w'
  have hw : Wn (n : Int) 0 60 = true := Wn_iff.2 (by omega)
  have HW : ∀ w', Hid (Calls Tryd.prog 60 #[.int .i64 n, .int .i64 0, .int .i64 60] w' fun e w'' => e = .returned (.bool true) ∧ w' = w'') := by
    rw [← hw]
    exact fun w' => within_any _ _ _ w'
  clear hX hw
  go_enter Tryd.func89, Tryd.ntmps89
  go_wp2_with fail
  refine ((HV _).out).mono ?_
  rintro e w1 ⟨rfl, hx1⟩
  obtain ⟨hc1, hf1⟩ := hx1.cells
  have hz1 := hx1.size
  try simp at hz1
  have hs1_0 := sz2 (a := w.heap.size) (b := w1.heap.size) (by omega)
  have hb1 : w1.heap[w.heap.size]? = some (.cells #[.int .i64 xa, .int .i64 xb, .int .i64 xc, .int .i64 xd] 40 (0, 0)) := (hx1.heap (by simp; omega)).trans (heap_alloc_lt (heap_alloc_new _ _))
  have hr1 : w1.heap[w.heap.size + 1]? = some (.cells #[.int .i64 0, .int .i64 0, .int .i64 0, .int .i64 0, .int .i64 0] 46 (0, 0)) := (hx1.heap (by simp)).trans (heap_alloc_at _ _ _ (by simp))
  have HB1 := Lib.hid hb1
  have HR1 := Lib.hid hr1
  clear hb1 hr1
  have hE1 : Ext w w1 := (((Ext.refl w).alloc _).alloc _).trans hx1
  go_wp2_with (go_at_call 60; ((with_reducible refine ((HW _).out).mono ?_); rintro e w' ⟨rfl, rfl⟩))
  go_loopw [1] (fun ev wr => ∃ (k : Nat) (Y : R4), k ≤ 60 ∧ ev = .int .i64 k ∧ Y.rg = true ∧ lowX k Y = lowX n ⟨xa, xb, xc, xd⟩ ∧ lowE k Y = lowE n ⟨xa, xb, xc, xd⟩ ∧ Ext w wr ∧ wr.heap[w.heap.size]? = some (.cells #[.int .i64 Y.a, .int .i64 Y.b, .int .i64 Y.c, .int .i64 Y.d] 40 (0, 0)) ∧ wr.heap[w.heap.size + 1]? = some (.cells #[.int .i64 0, .int .i64 0, .int .i64 0, .int .i64 0, .int .i64 0] 46 (0, 0))) (fun ev _ => (intOf ev).toNat)
  case atStart => exact ⟨n, ⟨xa, xb, xc, xd⟩, hn, rfl, HX.out, rfl, rfl, hE1, HB1.out, HR1.out⟩
  case round =>
    clear hc1 hf1 hz1 hs1_0
    obtain ⟨k, ⟨a, b, c, d⟩, hk, rfl, hY, hL, hE, hx, hb, hr⟩ := hrel
    have HL := Lib.hid hL
    have HE := Lib.hid hE
    have hY' : Rg a b c d = true := hY
    have HY := Lib.hid hY'
    have HYh : Hid ((R4.half ⟨a, b, c, d⟩).rg = true) := rg_half (x := ⟨a, b, c, d⟩) hY
    have HB := Lib.hid hb
    have HR := Lib.hid hr
    clear hL hE hY hY' hb hr
    have hc : ∀ k, wr.cell? ⟨w.heap.size, k, none⟩ = (#[.int .i64 a, .int .i64 b, .int .i64 c, .int .i64 d] : Array Value)[k]? := fun k => cell_of_row _ _ _ _ _ _ HB.out
    have hf : ∀ k, wr.frozen? ⟨w.heap.size, k, none⟩ = false := fun k => frozen_of_row _ _ _ _ _ HB.out
    have hcr : ∀ k, wr.cell? ⟨w.heap.size + 1, k, none⟩ = (#[.int .i64 0, .int .i64 0, .int .i64 0, .int .i64 0, .int .i64 0] : Array Value)[k]? := fun k => cell_of_row _ _ _ _ _ _ HR.out
    have hfr : ∀ k, wr.frozen? ⟨w.heap.size + 1, k, none⟩ = false := fun k => frozen_of_row _ _ _ _ _ HR.out
    have hs1 : w.heap.size + 1 < wr.heap.size := (Array.getElem?_eq_some_iff.1 HR.out).1
    have hl : w.heap.size < wr.heap.size := by omega
    by_cases h0 : 0 < k
    · have h0' : (0 : Int) < k := by omega
      have hk' : (k : Int) ≤ 60 := by omega
      cases he : evR a b c d
      · have HF := Lib.hid (low_end (k := k) (x := ⟨a, b, c, d⟩) (.inr he))
        go_wp2_with fail
        refine (isEven_any _ _ _ _ HY.out _).mono ?_
        rintro e w2 ⟨rfl, hx2⟩
        obtain ⟨hc2, hf2⟩ := hx2.cells
        have hz2 := hx2.size
        try simp at hz2
        have hs2_0 := sz2 (a := w.heap.size) (b := w2.heap.size) (by omega)
        rw [he]
        go_wp2
        refine bodyPost_ret (v := .tuple #[.agg #[.int .i64 a, .int .i64 b, .int .i64 c, .int .i64 d, .int .i64 k], .bool true]) (by simp [results, Tryd.results89, go_sem, *]) rfl ?_
        exact ⟨by rw [← HL.out, ← HE.out, HF.out.1, HF.out.2], (by repeat (first | (with_reducible refine Ext.setCell ?_ (by first | (simp; done) | (simp; omega)) _) | with_reducible refine Ext.alloc ?_ _ | with_reducible refine Ext.drew ?_ | with_reducible refine Ext.drewN ?_ _ | with_reducible assumption | with_reducible exact Ext.refl _ | with_reducible refine Ext.trans ?_ (by with_reducible assumption)))⟩
      · have HF := Lib.hid (low_step (k := k) (x := ⟨a, b, c, d⟩) h0 he)
        have HEV := Lib.hid he
        go_wp2_with fail
        refine (isEven_any _ _ _ _ HY.out _).mono ?_
        rintro e w2 ⟨rfl, hx2⟩
        obtain ⟨hc2, hf2⟩ := hx2.cells
        have hz2 := hx2.size
        try simp at hz2
        have hs2_0 := sz2 (a := w.heap.size) (b := w2.heap.size) (by omega)
        rw [he]
        clear he
        go_wp2_with fail
        refine (divRootTwo_any _ _ _ _ HY.out HEV.out _).mono ?_
        rintro e w3 ⟨rfl, hx3⟩
        obtain ⟨hc3, hf3⟩ := hx3.cells
        have hz3 := hx3.size
        try simp at hz3
        have hs3_0 := sz2 (a := w.heap.size) (b := w3.heap.size) (by omega)
        go_wp2
        have h2 : w3.heap[w.heap.size]? = some (.cells #[.int .i64 a, .int .i64 b, .int .i64 c, .int .i64 d] 40 (0, 0)) := (hx3.heap (by omega)).trans ((hx2.heap hl).trans HB.out)
        have h3 : w3.heap[w.heap.size + 1]? = some (.cells #[.int .i64 0, .int .i64 0, .int .i64 0, .int .i64 0, .int .i64 0] 46 (0, 0)) := (hx3.heap (by omega)).trans ((hx2.heap hs1).trans HR.out)
        go_roundw
        case rel => exact ⟨k - 1, R4.half ⟨a, b, c, d⟩, by omega, by go_num, HYh.out, HF.out.1.trans HL.out, HF.out.2.trans HE.out, (by repeat (first | (with_reducible refine Ext.setCell ?_ (by first | (simp; done) | (simp; omega)) _) | with_reducible refine Ext.alloc ?_ _ | with_reducible refine Ext.drew ?_ | with_reducible refine Ext.drewN ?_ _ | with_reducible assumption | with_reducible exact Ext.refl _ | with_reducible refine Ext.trans ?_ (by with_reducible assumption))), heap_set_at (heap_set_at (heap_set_at (heap_set_at h2 0 _) 1 _) 2 _) 3 _, (by repeat (first | (with_reducible exact h3) | (with_reducible refine heap_set_ne (by first | (simp; done) | (simp; omega)) ?_) | (with_reducible refine heap_alloc_lt ?_)))⟩
        case measure => simp [intOf]; omega
    · have h0' : ¬ (0 : Int) < k := by omega
      have HF := Lib.hid (low_end (k := k) (x := ⟨a, b, c, d⟩) (.inl (by omega)))
      go_wp2
      refine bodyPost_ret (v := .tuple #[.agg #[.int .i64 a, .int .i64 b, .int .i64 c, .int .i64 d, .int .i64 k], .bool true]) (by simp [results, Tryd.results89, go_sem, *]) rfl ?_
      exact ⟨by rw [← HL.out, ← HE.out, HF.out.1, HF.out.2], (by repeat (first | (with_reducible refine Ext.setCell ?_ (by first | (simp; done) | (simp; omega)) _) | with_reducible refine Ext.alloc ?_ _ | with_reducible refine Ext.drew ?_ | with_reducible refine Ext.drewN ?_ _ | with_reducible assumption | with_reducible exact Ext.refl _ | with_reducible refine Ext.trans ?_ (by with_reducible assumption)))⟩

theorem raise_fail {k : Nat} {x : R4} (h : x.root.rg = false) : raiseV (k + 1) x = R4.zero ∧ raiseB (k + 1) x = true := by
  unfold raiseV raiseB
  rw [clip_false h, h]
  exact ⟨(raise_zero k).1, rfl⟩
theorem raise_go {k : Nat} {x : R4} (h : x.root.rg = true) : raiseV (k + 1) x = raiseV k x.root ∧ raiseB (k + 1) x = raiseB k x.root := by
  have e1 : raiseV (k + 1) x = raiseV k x.root.clip := rfl
  have e2 : raiseB (k + 1) x = (!x.root.rg || raiseB k x.root.clip) := rfl
  rw [e1, e2, clip_true h, h]
  exact ⟨rfl, by simp⟩
theorem okMul_rg {a b c d : Int} (h : Rg a b c d = true) : okMulRootTwo a b c d = (R4.root ⟨a, b, c, d⟩).rg := by
  unfold okMulRootTwo
  rw [h]
  rfl

end Go.Proofs.YtamiploliebplaaDoor
