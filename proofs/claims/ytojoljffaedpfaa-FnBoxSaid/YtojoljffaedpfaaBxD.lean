/- Draws of boxes. -/
import Derived.Test.YtojoljffaedpfaaDrH
namespace Go.Proofs.Ytojoljffaedpfaa
open Go.RowKit Go.Lib
set_option linter.unusedVariables false
set_option linter.unusedSimpArgs false

theorem cu_new4' {w : World} {v : Value} {n : Nat} (h : BY w.heap.size w v n) (o o' p p' : Obj) : CU (w.heap.size + 1 + 1 + 1 + 1) v n 0 (((((w.alloc o).alloc o').alloc p).alloc p').alloc (.cells #[v, .int .i64 0, .int .u64 0] 80)) := by
  have := cu_new (h.later (((((Ext.refl w).alloc o).alloc o').alloc p).alloc p'))
  rwa [show ((((w.alloc o).alloc o').alloc p).alloc p').heap.size = w.heap.size + 1 + 1 + 1 + 1 by simp] at this

set_option maxRecDepth 20000 in
set_option maxHeartbeats 2000000 in
theorem curSide_any (B : Nat) (v : Value) (n : Nat) (at' : Int) (w : World) (h : CU B v n at' w) (ha : 0 ≤ at' ∧ at' ≤ 800000000) :
    Calls Try.prog 52 #[.pointer (some ⟨B, 0, none⟩)] w fun e w' => ∃ lo hi den at2 : Int, e = .returned (.agg #[.int .i64 lo, .int .i64 hi, .int .i64 den]) ∧ at' ≤ at2 ∧ at2 ≤ at' + 10 ∧ w.grownBy w' (some B) ∧ CU B v n at2 w' := by
  have hl := h.lt
  have HC := Lib.hid h
  have hP := fun a m w' (hc : CU B v n a w') (hb : 0 ≤ a ∧ a ≤ 900000000) (hm : m ≤ 65536) => Lib.hid (pick_any B v n a m w' hc hb hm)
  clear h
  go_enter Try.func52, Try.ntmps52
  go_wp2_with fail
  refine (among_any B _ n at' _ ((HC.out.box' _).box' _) (by omega) (w.heap.size + 1) 4 4 [1, 1, 2, 3] (by omega) (by omega) (by omega) (by simp) (fun i hi => lit_cells' (by simp) [1, 1, 2, 3] i hi)).mono ?_
  rintro e w1 ⟨i, a1, hi, rfl, r1, s1, hg1, hc1⟩
  have hd : 1 ≤ List.getD [1, 1, 2, 3] i (0 : Int) ∧ List.getD [1, 1, 2, 3] i (0 : Int) ≤ 100 := by
    have hi' : i = 0 ∨ i = 1 ∨ i = 2 ∨ i = 3 := by omega
    rcases hi' with rfl | rfl | rfl | rfl <;> decide
  generalize List.getD [1, 1, 2, 3] i (0 : Int) = d at *
  have HC1 := Lib.hid hc1
  have HG1 := Lib.hid (((GX.refl [B] (w.alloc (.cells #[.int .i64 0, .int .i64 0, .int .i64 0] 27))).alloc _).trans (GX.ofGrown hg1))
  clear hg1 hc1 hi
  go_wp2_with fail
  refine ((hP _ _ _ HC1.out (by omega) (by omega)).out).mono ?_
  rintro e w2 ⟨y2, a2, rfl, p2, q2, r2, s2, hg2, hc2⟩
  have HC2 := Lib.hid hc2
  have HG2 := Lib.hid ((HG1.out).trans (GX.ofGrown hg2))
  clear hg2 hc2
  have u2 : y2 < 5 * d := by omega
  clear q2
  go_wp2_with fail
  refine ((hP _ _ _ HC2.out (by omega) (by omega)).out).mono ?_
  rintro e w4 ⟨y4, a4, rfl, p4, q4, r4, s4, hg4, hc4⟩
  have HC4 := Lib.hid hc4
  have HG4 := Lib.hid ((HG2.out).trans (GX.ofGrown hg4))
  clear hg4 hc4
  have u4 : y4 < 2 * d + 1 := by omega
  clear q4
  have hbx := box_kept' hl HG4.out
  have hcx : ∀ k, World.cell? w4 ⟨w.heap.size, k, none⟩ = (#[.int .i64 0, .int .i64 0, .int .i64 0] : Array Value)[k]? := fun k => cell_of_row _ _ _ _ _ _ hbx
  have hfx : ∀ k, World.frozen? w4 ⟨w.heap.size, k, none⟩ = false := fun k => frozen_of_row _ _ _ _ _ hbx
  have hsx : w.heap.size < (w4).heap.size := (Array.getElem?_eq_some_iff.1 hbx).1
  clear hbx
  go_wp2
  refine bodyPost_ret (v := .agg #[.int .i64 (y2 - 3 * d), .int .i64 (y2 - 3 * d + y4), .int .i64 d]) (by simp [results, Try.results52, go_sem, *]) rfl ?_
  refine ⟨_, _, _, a4, rfl, by omega, by omega, GX.toGrown ?_, ?_⟩
  · have hg : GX [B] w w4 := ((GX.refl [B] w).alloc _).trans HG4.out
    exact (by repeat (first | (with_reducible refine GX.setCell ?_ (by first | (simp; done) | (simp; omega)) _) | with_reducible refine GX.alloc ?_ _ | with_reducible refine GX.drew ?_ | with_reducible refine GX.drewN ?_ _ | with_reducible assumption | with_reducible exact GX.refl _ _ | with_reducible refine GX.ext ?_ (by with_reducible assumption) | with_reducible refine GX.trans ?_ (by with_reducible assumption)))
  · exact ((HC4.out.set' (by exact hl) _).set' (by exact hl) _).set' (by exact hl) _

set_option maxRecDepth 20000 in
set_option maxHeartbeats 8000000 in
theorem drawBoxPoints_any (v : Value) (n : Nat) (w : World) (h : BY w.heap.size w v n) :
    Calls Try.prog 24 #[v] w fun e w' => ∃ a1 a2 a3 b1 b2 b3 c1 c2 c3 d1 d2 d3 : Int, e = .returned (.tuple #[.agg #[.int .i64 a1, .int .i64 a2, .int .i64 a3], .agg #[.int .i64 b1, .int .i64 b2, .int .i64 b3], .agg #[.int .i64 c1, .int .i64 c2, .int .i64 c3], .agg #[.int .i64 d1, .int .i64 d2, .int .i64 d3]]) ∧ Ext w w' := by
  have HC := Lib.hid (cu_new4' h (.cells #[.int .i64 0, .int .i64 0, .int .i64 0] 27) (.cells #[.int .i64 0, .int .i64 0, .int .i64 0] 27) (.cells #[.int .i64 0, .int .i64 0, .int .i64 0] 27) (.cells #[.int .i64 0, .int .i64 0, .int .i64 0] 27))
  have hS := fun a w' (hc : CU (w.heap.size + 1 + 1 + 1 + 1) v n a w') (hb : 0 ≤ a ∧ a ≤ 700000000) => Lib.hid (curSide_any (w.heap.size + 1 + 1 + 1 + 1) v n a w' hc (by omega))
  have hA := fun a w' (hc : CU (w.heap.size + 1 + 1 + 1 + 1) v n a w') (hb : 0 ≤ a ∧ a ≤ 700000000) => Lib.hid (curAnySpan_any (w.heap.size + 1 + 1 + 1 + 1) v n a w' hc hb)
  have hO := fun a w' (hc : CU (w.heap.size + 1 + 1 + 1 + 1) v n a w') (hb : 0 ≤ a ∧ a ≤ 900000000) => Lib.hid (one_any (w.heap.size + 1 + 1 + 1 + 1) v n a 14 w' hc hb (by omega))
  obtain ⟨ad, cap, rfl⟩ := h.noarg
  clear h
  go_enter Try.func24, Try.ntmps24
  go_wp2_with fail
  refine ((hS _ _ HC.out (by omega)).out).mono ?_
  rintro e w1 ⟨l, u, d, k1, rfl, r1, s1, hg1, hc1⟩
  have HC1 := Lib.hid hc1
  have HG1 := Lib.hid (GX.ofGrown hg1)
  have hs1 : w.heap.size + 5 ≤ w1.heap.size := by have := hg1.size; simp at this; omega
  clear hg1 hc1
  go_wp2_with fail
  refine ((hO _ _ (HC1.out.box' _) (by omega)).out).mono ?_
  rintro e w2 ⟨z, k2, rfl, r2, s2, hg2, hc2⟩
  have HC2 := Lib.hid hc2
  have HG2 := Lib.hid ((HG1.out.alloc (.cells #[.int .i64 l, .int .i64 u, .int .i64 d] 27)).trans (GX.ofGrown hg2))
  have hBX : w2.heap[w1.heap.size]? = some (.cells #[.int .i64 l, .int .i64 u, .int .i64 d] 27 (0, 0)) := ((GX.ofGrown hg2).heap (by simp) (by simp; omega)).trans (heap_alloc_new _ _)
  have hs2 : w1.heap.size + 1 ≤ w2.heap.size := by have := hg2.size; simp at this; omega
  clear hg2 hc2
  cases z
  case false =>
    have HBX7 := Lib.hid hBX
    have hsz7 : w1.heap.size < w2.heap.size := (Array.getElem?_eq_some_iff.1 HBX7.out).1
    have zx := fun k => cell_of_row _ _ k _ _ _ HBX7.out
    have HB0 : Hid (w2.heap[w.heap.size]? = some (.cells #[.int .i64 0, .int .i64 0, .int .i64 0] 27 (0, 0))) := (HG2.out.heap (by simp; try omega) (by simp; try omega)).trans (heap_alloc_lt (heap_alloc_lt (heap_alloc_lt (heap_alloc_lt (heap_alloc_new _ _)))))
    have HB1 : Hid (w2.heap[w.heap.size + 1]? = some (.cells #[.int .i64 0, .int .i64 0, .int .i64 0] 27 (0, 0))) := (HG2.out.heap (by simp; try omega) (by simp; try omega)).trans (heap_alloc_lt (heap_alloc_lt (heap_alloc_lt (heap_alloc_at _ _ _ (by simp)))))
    have HB2 : Hid (w2.heap[w.heap.size + 1 + 1]? = some (.cells #[.int .i64 0, .int .i64 0, .int .i64 0] 27 (0, 0))) := (HG2.out.heap (by simp; try omega) (by simp; try omega)).trans (heap_alloc_lt (heap_alloc_lt (heap_alloc_at _ _ _ (by simp))))
    have HB3 : Hid (w2.heap[w.heap.size + 1 + 1 + 1]? = some (.cells #[.int .i64 0, .int .i64 0, .int .i64 0] 27 (0, 0))) := (HG2.out.heap (by simp; try omega) (by simp; try omega)).trans (heap_alloc_lt (heap_alloc_at _ _ _ (by simp)))
    go_wp2_with fail
    go_region_with (go_at_call 52; first | ((with_reducible refine ((hS _ _ (HC8.out) (by omega)).out).mono ?_); rintro e w9 ⟨l9, u9, d9, k9, rfl, r9, s9, hg9, hc9⟩; have HC9 := Lib.hid hc9; have HG9 := Lib.hid ((HG8.out).trans (GX.ofGrown hg9)); have HBX10 := Lib.hid (((GX.ofGrown hg9).heap (by first | omega | (simp; omega)) (by simp; omega)).trans HBX9.out); have hsz10 := (Array.getElem?_eq_some_iff.1 HBX10.out).1; have zx9 := fun k => cell_of_row _ _ k _ _ _ HBX10.out; clear hg9 hc9; have hb0 := (HG9.out.heap (k := w.heap.size) (by simp; try omega) (by simp; try omega)).trans (heap_alloc_lt (heap_alloc_lt (heap_alloc_lt (heap_alloc_lt (heap_alloc_new _ _))))); have zb0 := fun k => cell_of_row _ _ k _ _ _ hb0; have fb0 := fun k => frozen_of_row _ _ k _ _ hb0; have lb0 := (Array.getElem?_eq_some_iff.1 hb0).1; have hb1 := (HG9.out.heap (k := w.heap.size + 1) (by simp; try omega) (by simp; try omega)).trans (heap_alloc_lt (heap_alloc_lt (heap_alloc_lt (heap_alloc_at _ _ _ (by simp))))); have zb1 := fun k => cell_of_row _ _ k _ _ _ hb1; have fb1 := fun k => frozen_of_row _ _ k _ _ hb1; have lb1 := (Array.getElem?_eq_some_iff.1 hb1).1; have hb2 := (HG9.out.heap (k := w.heap.size + 1 + 1) (by simp; try omega) (by simp; try omega)).trans (heap_alloc_lt (heap_alloc_lt (heap_alloc_at _ _ _ (by simp)))); have zb2 := fun k => cell_of_row _ _ k _ _ _ hb2; have fb2 := fun k => frozen_of_row _ _ k _ _ hb2; have lb2 := (Array.getElem?_eq_some_iff.1 hb2).1; have hb3 := (HG9.out.heap (k := w.heap.size + 1 + 1 + 1) (by simp; try omega) (by simp; try omega)).trans (heap_alloc_lt (heap_alloc_at _ _ _ (by simp))); have zb3 := fun k => cell_of_row _ _ k _ _ _ hb3; have fb3 := fun k => frozen_of_row _ _ k _ _ hb3; have lb3 := (Array.getElem?_eq_some_iff.1 hb3).1; clear hb0 hb1 hb2 hb3) | ((with_reducible refine ((hS _ _ (HC7.out) (by omega)).out).mono ?_); rintro e w8 ⟨l8, u8, d8, k8, rfl, r8, s8, hg8, hc8⟩; have HC8 := Lib.hid hc8; have HG8 := Lib.hid ((HG7.out).trans (GX.ofGrown hg8)); have HBX9 := Lib.hid (((GX.ofGrown hg8).heap (by first | omega | (simp; omega)) (by simp; omega)).trans HBX8.out); have hsz9 := (Array.getElem?_eq_some_iff.1 HBX9.out).1; have zx8 := fun k => cell_of_row _ _ k _ _ _ HBX9.out; clear hg8 hc8) | ((with_reducible refine ((hS _ _ (HC2.out.keep (Ext.drew (Ext.refl _))) (by omega)).out).mono ?_); rintro e w7 ⟨l7, u7, d7, k7, rfl, r7, s7, hg7, hc7⟩; have HC7 := Lib.hid hc7; have HG7 := Lib.hid ((HG2.out.ext (Ext.drew (Ext.refl _))).trans (GX.ofGrown hg7)); have HBX8 := Lib.hid (((GX.ofGrown hg7).heap (by first | omega | (simp; omega)) (by simp; omega)).trans HBX7.out); have hsz8 := (Array.getElem?_eq_some_iff.1 HBX8.out).1; have zx7 := fun k => cell_of_row _ _ k _ _ _ HBX8.out; clear hg7 hc7))
    all_goals
      go_wp2
      refine bodyPost_ret (v := .tuple #[.agg #[.int .i64 l, .int .i64 u, .int .i64 d], .agg #[.int .i64 l7, .int .i64 u7, .int .i64 d7], .agg #[.int .i64 l8, .int .i64 u8, .int .i64 d8], .agg #[.int .i64 l9, .int .i64 u9, .int .i64 d9]]) (by simp [results, Try.results24, go_sem, *]) rfl ?_
      have hx : Ext w w9 := ((((((((GX.refl [w.heap.size + 1 + 1 + 1 + 1] w).alloc _).alloc _).alloc _).alloc _).alloc _).trans HG9.out)).toExt (by simp; omega)
      exact ⟨_, _, _, _, _, _, _, _, _, _, _, _, rfl, (by repeat (first | (with_reducible refine Ext.setCell ?_ (by first | (simp; done) | (simp; omega)) _) | with_reducible refine Ext.alloc ?_ _ | with_reducible refine Ext.drew ?_ | with_reducible refine Ext.drewN ?_ _ | with_reducible assumption | with_reducible exact Ext.refl _ | with_reducible refine Ext.trans ?_ (by with_reducible assumption)))⟩
  case true =>
    go_wp2_with fail
    refine ((hA _ _ HC2.out (by omega)).out).mono ?_
    rintro e w3 ⟨l3, u3, d3, k3, rfl, r3, s3, hg3, hc3⟩
    have HG3 := Lib.hid (HG2.out.trans (GX.ofGrown hg3))
    have hBX3 : w3.heap[w1.heap.size]? = some (.cells #[.int .i64 l, .int .i64 u, .int .i64 d] 27 (0, 0)) := ((GX.ofGrown hg3).heap (by omega) (by simp; omega)).trans hBX
    have HC3 := Lib.hid hc3
    have hs3 := hg3.size
    clear hg3 hc3
    have lx3 := (Array.getElem?_eq_some_iff.1 hBX3).1
    have zx3 := fun k => cell_of_row _ _ k _ _ _ hBX3
    have fx3 := fun k => frozen_of_row _ _ k _ _ hBX3
    have hne : w1.heap.size ≠ w.heap.size + 1 + 1 + 1 + 1 := by omega
    obtain ⟨w4, hw4⟩ : ∃ w4, w4 = (((w3.setCell ⟨w1.heap.size, 0, none⟩ (.int .i64 l3)).setCell ⟨w1.heap.size, 1, none⟩ (.int .i64 u3)).setCell ⟨w1.heap.size, 2, none⟩ (.int .i64 d3)) := ⟨_, rfl⟩
    have HC4 : Hid (CU (w.heap.size + 1 + 1 + 1 + 1) (.slice ad n cap) n k3 w4) := by rw [hw4]; exact ((HC3.out.set' (by simp; omega) _).set' (by simp; omega) _).set' (by simp; omega) _
    have HG4 : Hid (GX [w.heap.size + 1 + 1 + 1 + 1] (((((w.alloc (.cells #[.int .i64 0, .int .i64 0, .int .i64 0] 27)).alloc (.cells #[.int .i64 0, .int .i64 0, .int .i64 0] 27)).alloc (.cells #[.int .i64 0, .int .i64 0, .int .i64 0] 27)).alloc (.cells #[.int .i64 0, .int .i64 0, .int .i64 0] 27)).alloc (.cells #[.slice ad n cap, .int .i64 0, .int .u64 0] 80)) w4) := by
      rw [hw4]
      exact ((HG3.out.setCell (.inr (by simp; omega)) _).setCell (.inr (by simp; omega)) _).setCell (.inr (by simp; omega)) _
    have hBX4 : w4.heap[w1.heap.size]? = some (.cells #[.int .i64 l3, .int .i64 u3, .int .i64 d3] 27 (0, 0)) := by
      rw [hw4]
      exact heap_set_at (heap_set_at (heap_set_at hBX3 0 _) 1 _) 2 _
    go_upto_region 5 with fail
    rw [← hw4]
    clear hw4 zx3 fx3 lx3 hBX hBX3
    have HBX7 := Lib.hid hBX4
    have hsz7 : w1.heap.size < w4.heap.size := (Array.getElem?_eq_some_iff.1 HBX7.out).1
    have zx := fun k => cell_of_row _ _ k _ _ _ HBX7.out
    have HB0 : Hid (w4.heap[w.heap.size]? = some (.cells #[.int .i64 0, .int .i64 0, .int .i64 0] 27 (0, 0))) := (HG4.out.heap (by simp; try omega) (by simp; try omega)).trans (heap_alloc_lt (heap_alloc_lt (heap_alloc_lt (heap_alloc_lt (heap_alloc_new _ _)))))
    have HB1 : Hid (w4.heap[w.heap.size + 1]? = some (.cells #[.int .i64 0, .int .i64 0, .int .i64 0] 27 (0, 0))) := (HG4.out.heap (by simp; try omega) (by simp; try omega)).trans (heap_alloc_lt (heap_alloc_lt (heap_alloc_lt (heap_alloc_at _ _ _ (by simp)))))
    have HB2 : Hid (w4.heap[w.heap.size + 1 + 1]? = some (.cells #[.int .i64 0, .int .i64 0, .int .i64 0] 27 (0, 0))) := (HG4.out.heap (by simp; try omega) (by simp; try omega)).trans (heap_alloc_lt (heap_alloc_lt (heap_alloc_at _ _ _ (by simp))))
    have HB3 : Hid (w4.heap[w.heap.size + 1 + 1 + 1]? = some (.cells #[.int .i64 0, .int .i64 0, .int .i64 0] 27 (0, 0))) := (HG4.out.heap (by simp; try omega) (by simp; try omega)).trans (heap_alloc_lt (heap_alloc_at _ _ _ (by simp)))
    go_region_with (go_at_call 52; first | ((with_reducible refine ((hS _ _ (HC8.out) (by omega)).out).mono ?_); rintro e w9 ⟨l9, u9, d9, k9, rfl, r9, s9, hg9, hc9⟩; have HC9 := Lib.hid hc9; have HG9 := Lib.hid ((HG8.out).trans (GX.ofGrown hg9)); have HBX10 := Lib.hid (((GX.ofGrown hg9).heap (by first | omega | (simp; omega)) (by simp; omega)).trans HBX9.out); have hsz10 := (Array.getElem?_eq_some_iff.1 HBX10.out).1; have zx9 := fun k => cell_of_row _ _ k _ _ _ HBX10.out; clear hg9 hc9; have hb0 := (HG9.out.heap (k := w.heap.size) (by simp; try omega) (by simp; try omega)).trans (heap_alloc_lt (heap_alloc_lt (heap_alloc_lt (heap_alloc_lt (heap_alloc_new _ _))))); have zb0 := fun k => cell_of_row _ _ k _ _ _ hb0; have fb0 := fun k => frozen_of_row _ _ k _ _ hb0; have lb0 := (Array.getElem?_eq_some_iff.1 hb0).1; have hb1 := (HG9.out.heap (k := w.heap.size + 1) (by simp; try omega) (by simp; try omega)).trans (heap_alloc_lt (heap_alloc_lt (heap_alloc_lt (heap_alloc_at _ _ _ (by simp))))); have zb1 := fun k => cell_of_row _ _ k _ _ _ hb1; have fb1 := fun k => frozen_of_row _ _ k _ _ hb1; have lb1 := (Array.getElem?_eq_some_iff.1 hb1).1; have hb2 := (HG9.out.heap (k := w.heap.size + 1 + 1) (by simp; try omega) (by simp; try omega)).trans (heap_alloc_lt (heap_alloc_lt (heap_alloc_at _ _ _ (by simp)))); have zb2 := fun k => cell_of_row _ _ k _ _ _ hb2; have fb2 := fun k => frozen_of_row _ _ k _ _ hb2; have lb2 := (Array.getElem?_eq_some_iff.1 hb2).1; have hb3 := (HG9.out.heap (k := w.heap.size + 1 + 1 + 1) (by simp; try omega) (by simp; try omega)).trans (heap_alloc_lt (heap_alloc_at _ _ _ (by simp))); have zb3 := fun k => cell_of_row _ _ k _ _ _ hb3; have fb3 := fun k => frozen_of_row _ _ k _ _ hb3; have lb3 := (Array.getElem?_eq_some_iff.1 hb3).1; clear hb0 hb1 hb2 hb3) | ((with_reducible refine ((hS _ _ (HC7.out) (by omega)).out).mono ?_); rintro e w8 ⟨l8, u8, d8, k8, rfl, r8, s8, hg8, hc8⟩; have HC8 := Lib.hid hc8; have HG8 := Lib.hid ((HG7.out).trans (GX.ofGrown hg8)); have HBX9 := Lib.hid (((GX.ofGrown hg8).heap (by first | omega | (simp; omega)) (by simp; omega)).trans HBX8.out); have hsz9 := (Array.getElem?_eq_some_iff.1 HBX9.out).1; have zx8 := fun k => cell_of_row _ _ k _ _ _ HBX9.out; clear hg8 hc8) | ((with_reducible refine ((hS _ _ (HC4.out.keep (Ext.drew (Ext.refl _))) (by omega)).out).mono ?_); rintro e w7 ⟨l7, u7, d7, k7, rfl, r7, s7, hg7, hc7⟩; have HC7 := Lib.hid hc7; have HG7 := Lib.hid ((HG4.out.ext (Ext.drew (Ext.refl _))).trans (GX.ofGrown hg7)); have HBX8 := Lib.hid (((GX.ofGrown hg7).heap (by first | omega | (simp; omega)) (by simp; omega)).trans HBX7.out); have hsz8 := (Array.getElem?_eq_some_iff.1 HBX8.out).1; have zx7 := fun k => cell_of_row _ _ k _ _ _ HBX8.out; clear hg7 hc7))
    all_goals
      go_wp2
      refine bodyPost_ret (v := .tuple #[.agg #[.int .i64 l3, .int .i64 u3, .int .i64 d3], .agg #[.int .i64 l7, .int .i64 u7, .int .i64 d7], .agg #[.int .i64 l8, .int .i64 u8, .int .i64 d8], .agg #[.int .i64 l9, .int .i64 u9, .int .i64 d9]]) (by simp [results, Try.results24, go_sem, *]) rfl ?_
      have hx : Ext w w9 := ((((((((GX.refl [w.heap.size + 1 + 1 + 1 + 1] w).alloc _).alloc _).alloc _).alloc _).alloc _).trans HG9.out)).toExt (by simp; omega)
      exact ⟨_, _, _, _, _, _, _, _, _, _, _, _, rfl, (by repeat (first | (with_reducible refine Ext.setCell ?_ (by first | (simp; done) | (simp; omega)) _) | with_reducible refine Ext.alloc ?_ _ | with_reducible refine Ext.drew ?_ | with_reducible refine Ext.drewN ?_ _ | with_reducible assumption | with_reducible exact Ext.refl _ | with_reducible refine Ext.trans ?_ (by with_reducible assumption)))⟩

set_option maxRecDepth 20000 in
set_option maxHeartbeats 4000000 in
theorem drawCompareRoot2_any (v : Value) (n : Nat) (w : World) (h : BY w.heap.size w v n) :
    Calls Try.prog 55 #[v] w fun e w' => ∃ p q r s : Int, e = .returned (.tuple #[.agg #[.int .i64 p, .int .i64 q], .agg #[.int .i64 r, .int .i64 s]]) ∧ Ext w w' := by
  have HC := Lib.hid (cu_new2' h (.cells #[.int .i64 0, .int .i64 0] 34) (.cells #[.int .i64 0, .int .i64 0] 34))
  have hS := fun a w' (hc : CU (w.heap.size + 1 + 1) v n a w') (hb : 0 ≤ a ∧ a ≤ 700000000) => Lib.hid (curRoot2_any (w.heap.size + 1 + 1) v n a w' hc (by omega))
  have hO := fun a w' (hc : CU (w.heap.size + 1 + 1) v n a w') (hb : 0 ≤ a ∧ a ≤ 900000000) => Lib.hid (one_any (w.heap.size + 1 + 1) v n a 8 w' hc hb (by omega))
  obtain ⟨ad, cap, rfl⟩ := h.noarg
  clear h
  go_enter Try.func55, Try.ntmps55
  go_wp2_with fail
  refine ((hS _ _ HC.out (by omega)).out).mono ?_
  rintro e w1 ⟨p, q, k1, rfl, -, -, r1, s1, hg1, hc1⟩
  have HC1 := Lib.hid hc1
  have HG1 := Lib.hid (GX.ofGrown hg1)
  have hs1 : w.heap.size + 3 ≤ w1.heap.size := by have := hg1.size; simp at this; omega
  clear hg1 hc1
  go_wp2_with fail
  refine ((hO _ _ (HC1.out.box' _) (by omega)).out).mono ?_
  rintro e w2 ⟨z, k2, rfl, r2, s2, hg2, hc2⟩
  have HC2 := Lib.hid hc2
  have HG2 := Lib.hid ((HG1.out.alloc (.cells #[.int .i64 p, .int .i64 q] 34)).trans (GX.ofGrown hg2))
  have hBX : w2.heap[w1.heap.size]? = some (.cells #[.int .i64 p, .int .i64 q] 34 (0, 0)) := ((GX.ofGrown hg2).heap (by simp) (by simp; omega)).trans (heap_alloc_new _ _)
  have hs2 : w1.heap.size + 1 ≤ w2.heap.size := by have := hg2.size; simp at this; omega
  clear hg2 hc2
  have HBX := Lib.hid hBX
  have lx := (Array.getElem?_eq_some_iff.1 hBX).1
  have zx := fun k => cell_of_row _ _ k _ _ _ hBX
  clear hBX
  cases z
  case false =>
    go_wp2_with fail
    go_region_with (go_at_call 57; ((with_reducible refine ((hS _ _ (HC2.out.keep (Ext.drew (Ext.refl _))) (by omega)).out).mono ?_); rintro e w3 ⟨r, s, k3, rfl, b5, b6, r3, s3, hg3, hc3⟩; have HG3 := Lib.hid ((HG2.out.ext (Ext.drew (Ext.refl _))).trans (GX.ofGrown hg3)); have HBX3 := Lib.hid (((GX.ofGrown hg3).heap (by first | omega | (simp; omega)) (by simp; omega)).trans HBX.out); have lx3 := (Array.getElem?_eq_some_iff.1 HBX3.out).1; have zx3 := fun k => cell_of_row _ _ k _ _ _ HBX3.out; clear hg3 hc3; have hb0 := (HG3.out.heap (k := w.heap.size) (by simp; try omega) (by simp; try omega)).trans (heap_alloc_lt (heap_alloc_lt (heap_alloc_new _ _))); have zb0 := fun k => cell_of_row _ _ k _ _ _ hb0; have fb0 := fun k => frozen_of_row _ _ k _ _ hb0; have lb0 := (Array.getElem?_eq_some_iff.1 hb0).1; have hb1 := (HG3.out.heap (k := w.heap.size + 1) (by simp; try omega) (by simp; try omega)).trans (heap_alloc_lt (heap_alloc_at _ _ _ (by simp))); have zb1 := fun k => cell_of_row _ _ k _ _ _ hb1; have fb1 := fun k => frozen_of_row _ _ k _ _ hb1; have lb1 := (Array.getElem?_eq_some_iff.1 hb1).1; clear hb0 hb1))
    all_goals
      go_wp2
      refine bodyPost_ret (v := .tuple #[.agg #[.int .i64 p, .int .i64 q], .agg #[.int .i64 r, .int .i64 s]]) (by simp [results, Try.results55, go_sem, *]) rfl ?_
      have hx : Ext w w3 := ((((GX.refl [w.heap.size + 1 + 1] w).alloc _).alloc _).alloc _ |>.trans HG3.out).toExt (by simp; omega)
      exact ⟨_, _, _, _, rfl, (by repeat (first | (with_reducible refine Ext.setCell ?_ (by first | (simp; done) | (simp; omega)) _) | with_reducible refine Ext.alloc ?_ _ | with_reducible refine Ext.drew ?_ | with_reducible refine Ext.drewN ?_ _ | with_reducible assumption | with_reducible exact Ext.refl _ | with_reducible refine Ext.trans ?_ (by with_reducible assumption)))⟩
  case true =>
    (have hb0 := (HG2.out.heap (k := w.heap.size) (by simp; try omega) (by simp; try omega)).trans (heap_alloc_lt (heap_alloc_lt (heap_alloc_new _ _))); have zb0 := fun k => cell_of_row _ _ k _ _ _ hb0; have fb0 := fun k => frozen_of_row _ _ k _ _ hb0; have lb0 := (Array.getElem?_eq_some_iff.1 hb0).1; have hb1 := (HG2.out.heap (k := w.heap.size + 1) (by simp; try omega) (by simp; try omega)).trans (heap_alloc_lt (heap_alloc_at _ _ _ (by simp))); have zb1 := fun k => cell_of_row _ _ k _ _ _ hb1; have fb1 := fun k => frozen_of_row _ _ k _ _ hb1; have lb1 := (Array.getElem?_eq_some_iff.1 hb1).1; clear hb0 hb1)
    go_wp2
    go_region
    all_goals
      go_wp2
      refine bodyPost_ret (v := .tuple #[.agg #[.int .i64 p, .int .i64 q], .agg #[.int .i64 p, .int .i64 q]]) (by simp [results, Try.results55, go_sem, *]) rfl ?_
      have hx : Ext w w2 := ((((GX.refl [w.heap.size + 1 + 1] w).alloc _).alloc _).alloc _ |>.trans HG2.out).toExt (by simp; omega)
      exact ⟨_, _, _, _, rfl, (by repeat (first | (with_reducible refine Ext.setCell ?_ (by first | (simp; done) | (simp; omega)) _) | with_reducible refine Ext.alloc ?_ _ | with_reducible refine Ext.drew ?_ | with_reducible refine Ext.drewN ?_ _ | with_reducible assumption | with_reducible exact Ext.refl _ | with_reducible refine Ext.trans ?_ (by with_reducible assumption)))⟩

set_option maxHeartbeats 1000000 in
theorem drawMulRoot2_any (v : Value) (n : Nat) (w : World) (h : BY w.heap.size w v n) :
    Calls Try.prog 25 #[v] w fun e w' => ∃ p q r s : Int, e = .returned (.tuple #[.agg #[.int .i64 p, .int .i64 q], .agg #[.int .i64 r, .int .i64 s]]) ∧ Ext w w' := by
  have hD := fun w' (hx : Ext w w') => Lib.hid (drawCompareRoot2_any v n w' (h.later hx))
  obtain ⟨ad, cap, rfl⟩ := h.noarg
  clear h
  go_enter Try.func25, Try.ntmps25
  go_wp2_with fail
  refine (hD _ (((Ext.refl w).alloc _).alloc _)).out.mono ?_
  rintro e w1 ⟨p, q, r, s, rfl, hx1⟩
  have hb0 : w1.heap[w.heap.size]? = some (.cells #[.int .i64 0, .int .i64 0] 34 (0, 0)) := (hx1.heap (by simp; omega)).trans (heap_alloc_lt (heap_alloc_new _ _))
  have hb1 : w1.heap[w.heap.size + 1]? = some (.cells #[.int .i64 0, .int .i64 0] 34 (0, 0)) := (hx1.heap (by simp)).trans (heap_alloc_at _ _ _ (by simp))
  have zb0 := fun k => cell_of_row _ _ k _ _ _ hb0
  have fb0 := fun k => frozen_of_row _ _ k _ _ hb0
  have lb0 := (Array.getElem?_eq_some_iff.1 hb0).1
  have zb1 := fun k => cell_of_row _ _ k _ _ _ hb1
  have fb1 := fun k => frozen_of_row _ _ k _ _ hb1
  have lb1 := (Array.getElem?_eq_some_iff.1 hb1).1
  clear hb0 hb1
  go_wp2
  refine bodyPost_ret (v := .tuple #[.agg #[.int .i64 p, .int .i64 q], .agg #[.int .i64 r, .int .i64 s]]) (by simp [results, Try.results25, go_sem, *]) rfl ?_
  exact ⟨_, _, _, _, rfl, (by repeat (first | (with_reducible refine Ext.setCell ?_ (by first | (simp; done) | (simp; omega)) _) | with_reducible refine Ext.alloc ?_ _ | with_reducible refine Ext.drew ?_ | with_reducible refine Ext.drewN ?_ _ | with_reducible assumption | with_reducible exact Ext.refl _ | with_reducible refine Ext.trans ?_ (by with_reducible assumption)))⟩

end Go.Proofs.Ytojoljffaedpfaa
