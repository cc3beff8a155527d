/- Draws of targets, of bounds. -/
import Derived.Test.YtbffcpnpdpgfeaaDrG
import Derived.Test.YtbffcpnpdpgfeaaTarget
import Derived.Deep.Cut
namespace Go.Proofs.Ytbffcpnpdpgfeaa
open Go.RowKit Go.Lib
set_option linter.unusedVariables false
set_option linter.unusedSimpArgs false

set_option maxRecDepth 20000 in
set_option maxHeartbeats 4000000 in
theorem curTarget_any (B : Nat) (v : Value) (n : Nat) (at' : Int) (w : World) (h : CU B v n at' w) (ha : 0 ≤ at' ∧ at' ≤ 800000000) :
    Calls Try.prog 60 #[.pointer (some ⟨B, 0, none⟩)] w fun e w' => ∃ x y z at2 : Int, e = .returned (.agg #[.int .i64 x, .int .i64 y, .int .i64 z]) ∧ at' ≤ at2 ∧ at2 ≤ at' + 10 ∧ w.grownBy w' (some B) ∧ CU B v n at2 w' := by
  have hl := h.lt
  have HC := Lib.hid h
  have hP := fun a m w' (hc : CU B v n a w') (hb : 0 ≤ a ∧ a ≤ 900000000) (hm : m ≤ 65536) => Lib.hid (pick_any B v n a m w' hc hb hm)
  clear h
  go_enter Try.func60, Try.ntmps60
  go_wp2_with fail
  refine ((hP _ _ _ (HC.out.box' _) (by omega) (by omega)).out).mono ?_
  rintro e w1 ⟨y1, a1, rfl, p1, q1, r1, s1, hg1, hc1⟩
  have HC1 := Lib.hid hc1
  have HG1 := Lib.hid ((GX.refl [B] _).trans (GX.ofGrown hg1))
  clear hg1 hc1
  go_wp2_with fail
  refine ((hP _ _ _ HC1.out (by omega) (by omega)).out).mono ?_
  rintro e w2 ⟨y2, a2, rfl, p2, q2, r2, s2, hg2, hc2⟩
  have HC2 := Lib.hid hc2
  have HG2 := Lib.hid ((HG1.out).trans (GX.ofGrown hg2))
  clear hg2 hc2
  have u1 : y1 < 9 := by omega
  have u2 : y2 < 5 := by omega
  clear q1 q2
  go_wp2_with fail
  refine (s_targetOf_any _ _ _).mono ?_
  rintro e w3 ⟨rfl, hx3⟩
  generalize toX _ _ = X
  generalize toY _ _ = Y
  generalize toN _ _ = Z
  generalize okTo _ _ = ok
  have HC3 := Lib.hid (HC2.out.keep hx3)
  have HG3 := Lib.hid (HG2.out.ext hx3)
  have hl3 := HC3.out.lt
  clear hx3
  go_wp2_with fail
  refine ((hP _ _ _ (HC3.out.box' _) (by omega) (by omega)).out).mono ?_
  rintro e w4 ⟨y4, a4, rfl, p4, q4, r4, s4, hg4, hc4⟩
  have HC4 := Lib.hid hc4
  have HG4 := Lib.hid ((HG3.out.alloc _).trans (GX.ofGrown hg4))
  have hBX : w4.heap[w3.heap.size]? = some (.cells #[.int .i64 X, .int .i64 Y, .int .i64 Z] 27 (0, 0)) := box_kept' hl3 (GX.ofGrown hg4)
  have hB0 : w4.heap[w.heap.size]? = some (.cells #[.int .i64 0, .int .i64 0, .int .i64 0] 27 (0, 0)) := box_kept' hl HG4.out
  clear hg4 hc4 q4
  have hlx := (Array.getElem?_eq_some_iff.1 hBX).1
  have hl0 := (Array.getElem?_eq_some_iff.1 hB0).1
  have hxx : w.heap.size + 1 ≤ w3.heap.size := by have := HG3.out.size; simp at this; omega
  have hne : w.heap.size ≠ w3.heap.size := by omega
  have hg4 : Hid (GX [B] w w4) := ((GX.refl [B] w).alloc _).trans HG4.out
  have zx := fun k => cell_of_row _ _ k _ _ _ hBX
  have fx := fun k => frozen_of_row _ _ k _ _ hBX
  have z0 := fun k => cell_of_row _ _ k _ _ _ hB0
  have f0 := fun k => frozen_of_row _ _ k _ _ hB0
  clear hBX hB0
  by_cases h0 : y4 = 0
  · have k0 : (y4 == 0) = true := by simpa using h0
    clear h0
    go_wp2
    refine bodyPost_ret (v := .agg #[.int .i64 (wrap64 (-Y)), .int .i64 X, .int .i64 Z]) (by simp [results, Try.results60, go_sem, *]) rfl ?_
    refine ⟨_, _, _, a4, rfl, by omega, by omega, GX.toGrown ?_, ?_⟩
    · have hg := hg4.out
      exact (by repeat (first | (with_reducible refine GX.setCell ?_ (by first | (simp; done) | (simp; omega)) _) | with_reducible refine GX.alloc ?_ _ | with_reducible refine GX.drew ?_ | with_reducible refine GX.drewN ?_ _ | with_reducible assumption | with_reducible exact GX.refl _ _ | with_reducible refine GX.ext ?_ (by with_reducible assumption) | with_reducible refine GX.trans ?_ (by with_reducible assumption)))
    · exact (((((HC4.out.set' (by exact (by simp; omega)) _).set' (by exact (by simp; omega)) _).set' (by exact (by simp; omega)) _).set' (by exact hl) _).set' (by exact hl) _).set' (by exact hl) _
  have k0 : (y4 == 0) = false := by simpa using h0
  by_cases h1 : y4 = 1
  · have k1 : (y4 == 1) = true := by simpa using h1
    clear h0 h1
    go_wp2
    refine bodyPost_ret (v := .agg #[.int .i64 1, .int .i64 0, .int .i64 1]) (by simp [results, Try.results60, go_sem, *]) rfl ?_
    refine ⟨_, _, _, a4, rfl, by omega, by omega, GX.toGrown ?_, ?_⟩
    · have hg := hg4.out
      exact (by repeat (first | (with_reducible refine GX.setCell ?_ (by first | (simp; done) | (simp; omega)) _) | with_reducible refine GX.alloc ?_ _ | with_reducible refine GX.drew ?_ | with_reducible refine GX.drewN ?_ _ | with_reducible assumption | with_reducible exact GX.refl _ _ | with_reducible refine GX.ext ?_ (by with_reducible assumption) | with_reducible refine GX.trans ?_ (by with_reducible assumption)))
    · exact (((((HC4.out.set' (by exact (by simp; omega)) _).set' (by exact (by simp; omega)) _).set' (by exact (by simp; omega)) _).set' (by exact hl) _).set' (by exact hl) _).set' (by exact hl) _
  have k1 : (y4 == 1) = false := by simpa using h1
  clear h0 h1
  go_wp2
  refine bodyPost_ret (v := .agg #[.int .i64 X, .int .i64 Y, .int .i64 Z]) (by simp [results, Try.results60, go_sem, *]) rfl ?_
  refine ⟨_, _, _, a4, rfl, by omega, by omega, GX.toGrown ?_, ?_⟩
  · have hg := hg4.out
    exact (by repeat (first | (with_reducible refine GX.setCell ?_ (by first | (simp; done) | (simp; omega)) _) | with_reducible refine GX.alloc ?_ _ | with_reducible refine GX.drew ?_ | with_reducible refine GX.drewN ?_ _ | with_reducible assumption | with_reducible exact GX.refl _ _ | with_reducible refine GX.ext ?_ (by with_reducible assumption) | with_reducible refine GX.trans ?_ (by with_reducible assumption)))
  · exact ((HC4.out.set' (by exact hl) _).set' (by exact hl) _).set' (by exact hl) _

set_option maxRecDepth 20000 in
set_option maxHeartbeats 4000000 in
theorem curAnyTarget_any (B : Nat) (v : Value) (n : Nat) (at' : Int) (w : World) (h : CU B v n at' w) (ha : 0 ≤ at' ∧ at' ≤ 700000000) :
    Calls Try.prog 40 #[.pointer (some ⟨B, 0, none⟩)] w fun e w' => ∃ x y z at2 : Int, e = .returned (.agg #[.int .i64 x, .int .i64 y, .int .i64 z]) ∧ at' ≤ at2 ∧ at2 ≤ at' + 20 ∧ w.grownBy w' (some B) ∧ CU B v n at2 w' := by
  have hl := h.lt
  have HC := Lib.hid h
  have hT := fun a w' (hc : CU B v n a w') (hb : 0 ≤ a ∧ a ≤ 800000000) => Lib.hid (curTarget_any B v n a w' hc hb)
  have hO := fun a m w' (hc : CU B v n a w') (hb : 0 ≤ a ∧ a ≤ 900000000) (hm : m ≤ 65536) => Lib.hid (one_any B v n a m w' hc hb hm)
  clear h
  go_enter Try.func40, Try.ntmps40
  go_wp2_with fail
  refine ((hT _ _ (HC.out.box' _) (by omega)).out).mono ?_
  rintro e w1 ⟨x, y, z, a1, rfl, r1, s1, hg1, hc1⟩
  have HC1 := Lib.hid hc1
  have HG1 := Lib.hid ((GX.refl [B] _).trans (GX.ofGrown hg1))
  clear hg1 hc1
  have hl1 := HC1.out.lt
  go_wp2_with fail
  refine ((hO _ _ _ (HC1.out.box' _) (by omega) (by omega)).out).mono ?_
  rintro e w2 ⟨g, a2, rfl, r2, s2, hg2, hc2⟩
  have HC2 := Lib.hid hc2
  have HG2 := Lib.hid ((HG1.out.alloc _).trans (GX.ofGrown hg2))
  have hBX : w2.heap[w1.heap.size]? = some (.cells #[.int .i64 x, .int .i64 y, .int .i64 z] 27 (0, 0)) := box_kept' hl1 (GX.ofGrown hg2)
  clear hg2 hc2
  have hxx : w.heap.size + 1 ≤ w1.heap.size := by have := HG1.out.size; simp at this; omega
  have hne : w.heap.size ≠ w1.heap.size := by omega
  have hlx := (Array.getElem?_eq_some_iff.1 hBX).1
  have zx := fun k => cell_of_row _ _ k _ _ _ hBX
  have fx := fun k => frozen_of_row _ _ k _ _ hBX
  have HBX := Lib.hid hBX
  cases g
  case false =>
    clear zx fx hBX
    go_wp2_with fail
    refine ((hO _ _ _ HC2.out (by omega) (by omega)).out).mono ?_
    rintro e w4 ⟨g4, a4, rfl, r4, s4, hg4, hc4⟩
    have HC4 := Lib.hid hc4
    have HG4 := Lib.hid (HG2.out.trans (GX.ofGrown hg4))
    have hBX4 := ((GX.ofGrown hg4).heap (k := w1.heap.size) (by first | omega | (simp; omega)) (by simp; omega)).trans HBX.out
    have hB0 : w4.heap[w.heap.size]? = some (.cells #[.int .i64 0, .int .i64 0, .int .i64 0] 27 (0, 0)) := box_kept' hl HG4.out
    clear hg4 hc4
    have hlx4 := (Array.getElem?_eq_some_iff.1 hBX4).1
    have hl0 := (Array.getElem?_eq_some_iff.1 hB0).1
    have zx := fun k => cell_of_row _ _ k _ _ _ hBX4
    have fx := fun k => frozen_of_row _ _ k _ _ hBX4
    have z0 := fun k => cell_of_row _ _ k _ _ _ hB0
    have f0 := fun k => frozen_of_row _ _ k _ _ hB0
    have hg4 : Hid (GX [B] w w4) := ((GX.refl [B] w).alloc _).trans HG4.out
    cases g4
    · clear hBX4 hB0
      go_wp2
      refine bodyPost_ret (v := .agg #[.int .i64 x, .int .i64 y, .int .i64 z]) (by simp [results, Try.results40, go_sem, *]) rfl ?_
      refine ⟨_, _, _, a4, rfl, by omega, by omega, GX.toGrown ?_, ?_⟩
      · have hg := hg4.out
        exact (by repeat (first | (with_reducible refine GX.setCell ?_ (by first | (simp; done) | (simp; omega)) _) | with_reducible refine GX.alloc ?_ _ | with_reducible refine GX.drew ?_ | with_reducible refine GX.drewN ?_ _ | with_reducible assumption | with_reducible exact GX.refl _ _ | with_reducible refine GX.ext ?_ (by with_reducible assumption) | with_reducible refine GX.trans ?_ (by with_reducible assumption)))
      · exact ((HC4.out.set' (by exact hl) _).set' (by exact hl) _).set' (by exact hl) _
    · have HBX4 := Lib.hid hBX4
      have HB0 := Lib.hid hB0
      clear hBX4 hB0 zx fx z0 f0
      have hl4 := HC4.out.lt
      go_wp2_with fail
      refine (among_any B _ n a4 _ (HC4.out.box' _) (by omega) w4.heap.size 3 3 [0, -1, 1001] (by omega) (by omega) (by omega) (by simp) (fun i hi => lit_cells [0, -1, 1001] i hi)).mono ?_
      rintro e w5 ⟨i, a5, hi, rfl, r5, s5, hg5, hc5⟩
      generalize List.getD [0, -1, 1001] i (0 : Int) = z1 at *
      have HC5 := Lib.hid hc5
      have HG5 := Lib.hid ((hg4.out.alloc _).trans (GX.ofGrown hg5))
      have hBX5 := ((GX.ofGrown hg5).heap (k := w1.heap.size) (by simp; omega) (by simp; omega)).trans (heap_alloc_lt HBX4.out)
      have hB05 := ((GX.ofGrown hg5).heap (k := w.heap.size) (by simp; omega) (by simp; omega)).trans (heap_alloc_lt HB0.out)
      clear hg5 hc5 hi
      have hlx5 := (Array.getElem?_eq_some_iff.1 hBX5).1
      have hl05 := (Array.getElem?_eq_some_iff.1 hB05).1
      have zx := fun k => cell_of_row _ _ k _ _ _ hBX5
      have fx := fun k => frozen_of_row _ _ k _ _ hBX5
      have z0 := fun k => cell_of_row _ _ k _ _ _ hB05
      have f0 := fun k => frozen_of_row _ _ k _ _ hB05
      clear hBX5 hB05
      go_wp2
      refine bodyPost_ret (v := .agg #[.int .i64 x, .int .i64 y, .int .i64 z1]) (by simp [results, Try.results40, go_sem, *]) rfl ?_
      refine ⟨_, _, _, a5, rfl, by omega, by omega, GX.toGrown ?_, ?_⟩
      · have hg := HG5.out
        exact (by repeat (first | (with_reducible refine GX.setCell ?_ (by first | (simp; done) | (simp; omega)) _) | with_reducible refine GX.alloc ?_ _ | with_reducible refine GX.drew ?_ | with_reducible refine GX.drewN ?_ _ | with_reducible assumption | with_reducible exact GX.refl _ _ | with_reducible refine GX.ext ?_ (by with_reducible assumption) | with_reducible refine GX.trans ?_ (by with_reducible assumption)))
      · exact (((HC5.out.set' (by exact (by simp; omega)) _).set' (by exact hl) _).set' (by exact hl) _).set' (by exact hl) _
  case true =>
    obtain ⟨w3, hw3⟩ : ∃ w3, w3 = w2.setCell ⟨w1.heap.size, 1, none⟩ (.int .i64 (wrap64 (y + 1))) := ⟨_, rfl⟩
    have HC3 : Hid (CU B v n a2 w3) := by rw [hw3]; exact HC2.out.set' (by simp; omega) _
    have HG3 : Hid (GX [B] (w.alloc (.cells #[.int .i64 0, .int .i64 0, .int .i64 0] 27)) w3) := by rw [hw3]; exact HG2.out.setCell (.inr (by simp; omega)) _
    have HBX3 : Hid (w3.heap[w1.heap.size]? = some (.cells #[.int .i64 x, .int .i64 (wrap64 (y + 1)), .int .i64 z] 27 (0, 0))) := by rw [hw3]; exact heap_set_at HBX.out 1 _
    have hlx3 := (Array.getElem?_eq_some_iff.1 HBX3.out).1
    go_upto_region 4 with fail
    rw [← hw3]
    clear hw3 zx fx hBX HBX hlx HC2 HG2
    go_wp2_with fail
    refine ((hO _ _ _ HC3.out (by omega) (by omega)).out).mono ?_
    rintro e w4 ⟨g4, a4, rfl, r4, s4, hg4, hc4⟩
    have HC4 := Lib.hid hc4
    have HG4 := Lib.hid (HG3.out.trans (GX.ofGrown hg4))
    have hBX4 := ((GX.ofGrown hg4).heap (k := w1.heap.size) (by first | omega | (simp; omega)) (by simp; omega)).trans HBX3.out
    have hB0 : w4.heap[w.heap.size]? = some (.cells #[.int .i64 0, .int .i64 0, .int .i64 0] 27 (0, 0)) := box_kept' hl HG4.out
    clear hg4 hc4
    have hlx4 := (Array.getElem?_eq_some_iff.1 hBX4).1
    have hl0 := (Array.getElem?_eq_some_iff.1 hB0).1
    have zx := fun k => cell_of_row _ _ k _ _ _ hBX4
    have fx := fun k => frozen_of_row _ _ k _ _ hBX4
    have z0 := fun k => cell_of_row _ _ k _ _ _ hB0
    have f0 := fun k => frozen_of_row _ _ k _ _ hB0
    have hg4 : Hid (GX [B] w w4) := ((GX.refl [B] w).alloc _).trans HG4.out
    cases g4
    · clear hBX4 hB0
      go_wp2
      refine bodyPost_ret (v := .agg #[.int .i64 x, .int .i64 (wrap64 (y + 1)), .int .i64 z]) (by simp [results, Try.results40, go_sem, *]) rfl ?_
      refine ⟨_, _, _, a4, rfl, by omega, by omega, GX.toGrown ?_, ?_⟩
      · have hg := hg4.out
        exact (by repeat (first | (with_reducible refine GX.setCell ?_ (by first | (simp; done) | (simp; omega)) _) | with_reducible refine GX.alloc ?_ _ | with_reducible refine GX.drew ?_ | with_reducible refine GX.drewN ?_ _ | with_reducible assumption | with_reducible exact GX.refl _ _ | with_reducible refine GX.ext ?_ (by with_reducible assumption) | with_reducible refine GX.trans ?_ (by with_reducible assumption)))
      · exact ((HC4.out.set' (by exact hl) _).set' (by exact hl) _).set' (by exact hl) _
    · have HBX4 := Lib.hid hBX4
      have HB0 := Lib.hid hB0
      clear hBX4 hB0 zx fx z0 f0
      have hl4 := HC4.out.lt
      go_wp2_with fail
      refine (among_any B _ n a4 _ (HC4.out.box' _) (by omega) w4.heap.size 3 3 [0, -1, 1001] (by omega) (by omega) (by omega) (by simp) (fun i hi => lit_cells [0, -1, 1001] i hi)).mono ?_
      rintro e w5 ⟨i, a5, hi, rfl, r5, s5, hg5, hc5⟩
      generalize List.getD [0, -1, 1001] i (0 : Int) = z1 at *
      have HC5 := Lib.hid hc5
      have HG5 := Lib.hid ((hg4.out.alloc _).trans (GX.ofGrown hg5))
      have hBX5 := ((GX.ofGrown hg5).heap (k := w1.heap.size) (by simp; omega) (by simp; omega)).trans (heap_alloc_lt HBX4.out)
      have hB05 := ((GX.ofGrown hg5).heap (k := w.heap.size) (by simp; omega) (by simp; omega)).trans (heap_alloc_lt HB0.out)
      clear hg5 hc5 hi
      have hlx5 := (Array.getElem?_eq_some_iff.1 hBX5).1
      have hl05 := (Array.getElem?_eq_some_iff.1 hB05).1
      have zx := fun k => cell_of_row _ _ k _ _ _ hBX5
      have fx := fun k => frozen_of_row _ _ k _ _ hBX5
      have z0 := fun k => cell_of_row _ _ k _ _ _ hB05
      have f0 := fun k => frozen_of_row _ _ k _ _ hB05
      clear hBX5 hB05
      go_wp2
      refine bodyPost_ret (v := .agg #[.int .i64 x, .int .i64 (wrap64 (y + 1)), .int .i64 z1]) (by simp [results, Try.results40, go_sem, *]) rfl ?_
      refine ⟨_, _, _, a5, rfl, by omega, by omega, GX.toGrown ?_, ?_⟩
      · have hg := HG5.out
        exact (by repeat (first | (with_reducible refine GX.setCell ?_ (by first | (simp; done) | (simp; omega)) _) | with_reducible refine GX.alloc ?_ _ | with_reducible refine GX.drew ?_ | with_reducible refine GX.drewN ?_ _ | with_reducible assumption | with_reducible exact GX.refl _ _ | with_reducible refine GX.ext ?_ (by with_reducible assumption) | with_reducible refine GX.trans ?_ (by with_reducible assumption)))
      · exact (((HC5.out.set' (by exact (by simp; omega)) _).set' (by exact hl) _).set' (by exact hl) _).set' (by exact hl) _

set_option maxRecDepth 20000 in
set_option maxHeartbeats 4000000 in
theorem curBound_any (B : Nat) (v : Value) (n : Nat) (at' : Int) (w : World) (h : CU B v n at' w) (ha : 0 ≤ at' ∧ at' ≤ 700000000) :
    Calls Try.prog 39 #[.pointer (some ⟨B, 0, none⟩)] w fun e w' => ∃ x y at2 : Int, e = .returned (.tuple #[.int .i64 x, .int .i64 y]) ∧ at' ≤ at2 ∧ at2 ≤ at' + 10 ∧ w.grownBy w' (some B) ∧ CU B v n at2 w' := by
  have hl := h.lt
  have HC := Lib.hid h
  have hP := fun a m w' (hc : CU B v n a w') (hb : 0 ≤ a ∧ a ≤ 900000000) (hm : m ≤ 65536) => Lib.hid (pick_any B v n a m w' hc hb hm)
  have hO := fun a m w' (hc : CU B v n a w') (hb : 0 ≤ a ∧ a ≤ 900000000) (hm : m ≤ 65536) => Lib.hid (one_any B v n a m w' hc hb hm)
  clear h
  go_enter Try.func39, Try.ntmps39
  go_wp2_with fail
  refine ((hO _ _ _ HC.out (by omega) (by omega)).out).mono ?_
  rintro e w1 ⟨g, a1, rfl, r1, s1, hg1, hc1⟩
  have HC1 := Lib.hid hc1
  have HG1 := Lib.hid ((GX.refl [B] _).trans (GX.ofGrown hg1))
  clear hg1 hc1
  have hl1 := HC1.out.lt
  cases g
  · go_wp2_with fail
    refine ((hP _ _ _ HC1.out (by omega) (by omega)).out).mono ?_
    rintro e w2 ⟨y2, a2, rfl, p2, q2, r2, s2, hg2, hc2⟩
    have HC2 := Lib.hid hc2
    have HG2 := Lib.hid ((HG1.out).trans (GX.ofGrown hg2))
    clear hg2 hc2
    have u2 : y2 < 3 := by omega
    clear q2
    have hl2 := HC2.out.lt
    go_wp2_with fail
    refine (among_any B _ n a2 _ (HC2.out.box' _) (by omega) w2.heap.size 7 7 [1, 2, 5, 10, 20, 30, 50] (by omega) (by omega) (by omega) (by simp) (fun i hi => lit_cells [1, 2, 5, 10, 20, 30, 50] i hi)).mono ?_
    rintro e w3 ⟨i, a3, hi, rfl, r3, s3, hg3, hc3⟩
    generalize List.getD [1, 2, 5, 10, 20, 30, 50] i (0 : Int) = z1 at *
    have HC3 := Lib.hid hc3
    have HG3 := Lib.hid ((HG2.out.alloc _).trans (GX.ofGrown hg3))
    clear hg3 hc3 hi
    go_wp2
    go_ret2
    exact ⟨_, _, a3, rfl, by omega, by omega, HG3.out.toGrown, HC3.out⟩
  · go_wp2_with fail
    refine (among_any B _ n a1 _ (HC1.out.box' _) (by omega) w1.heap.size 3 3 [0, 1, 1001] (by omega) (by omega) (by omega) (by simp) (fun i hi => lit_cells [0, 1, 1001] i hi)).mono ?_
    rintro e w2 ⟨i, a2, hi, rfl, r2, s2, hg2, hc2⟩
    generalize List.getD [0, 1, 1001] i (0 : Int) = z1 at *
    have HC2 := Lib.hid hc2
    have HG2 := Lib.hid ((HG1.out.alloc _).trans (GX.ofGrown hg2))
    have hl2 := HC2.out.lt
    clear hg2 hc2 hi
    go_wp2_with fail
    refine (among_any B _ n a2 _ (HC2.out.box' _) (by omega) w2.heap.size 3 3 [0, 1, 1001] (by omega) (by omega) (by omega) (by simp) (fun i hi => lit_cells [0, 1, 1001] i hi)).mono ?_
    rintro e w3 ⟨i, a3, hi, rfl, r3, s3, hg3, hc3⟩
    generalize List.getD [0, 1, 1001] i (0 : Int) = z2 at *
    have HC3 := Lib.hid hc3
    have HG3 := Lib.hid ((HG2.out.alloc _).trans (GX.ofGrown hg3))
    clear hg3 hc3 hi
    go_wp2
    go_ret2
    exact ⟨_, _, a3, rfl, by omega, by omega, HG3.out.toGrown, HC3.out⟩

set_option maxRecDepth 20000 in
set_option maxHeartbeats 4000000 in
theorem drawTargetOf_any (v : Value) (n : Nat) (w : World) (h : BY w.heap.size w v n) :
    Calls Try.prog 17 #[v] w fun e w' => ∃ x y : Int, e = .returned (.tuple #[.int .i64 x, .int .i64 y]) ∧ Ext w w' := by
  have HC := Lib.hid (cu_new h)
  have hP := fun a m w' (hc : CU w.heap.size v n a w') (hb : 0 ≤ a ∧ a ≤ 900000000) (hm : m ≤ 65536) => Lib.hid (pick_any w.heap.size v n a m w' hc hb hm)
  have hO := fun a m w' (hc : CU w.heap.size v n a w') (hb : 0 ≤ a ∧ a ≤ 900000000) (hm : m ≤ 65536) => Lib.hid (one_any w.heap.size v n a m w' hc hb hm)
  obtain ⟨ad, cap, rfl⟩ := h.noarg
  clear h
  go_enter Try.func17, Try.ntmps17
  go_wp2_with fail
  refine ((hO _ _ _ HC.out (by omega) (by omega)).out).mono ?_
  rintro e w1 ⟨g, a1, rfl, r1, s1, hg1, hc1⟩
  have HC1 := Lib.hid hc1
  have HG1 := Lib.hid (((GX.refl [w.heap.size] w).alloc _).trans (GX.ofGrown hg1))
  clear hg1 hc1
  have hl1 := HC1.out.lt
  cases g
  · go_wp2_with fail
    refine ((hP _ _ _ HC1.out (by omega) (by omega)).out).mono ?_
    rintro e w2 ⟨y2, a2, rfl, p2, q2, r2, s2, hg2, hc2⟩
    have HC2 := Lib.hid hc2
    have HG2 := Lib.hid ((HG1.out).trans (GX.ofGrown hg2))
    clear hg2 hc2
    have u2 : y2 < 50 := by omega
    clear q2
    go_wp2_with fail
    refine ((hP _ _ _ HC2.out (by omega) (by omega)).out).mono ?_
    rintro e w3 ⟨y3, a3, rfl, p3, q3, r3, s3, hg3, hc3⟩
    have HC3 := Lib.hid hc3
    have HG3 := Lib.hid ((HG2.out).trans (GX.ofGrown hg3))
    clear hg3 hc3
    have u3 : y3 < 50 := by omega
    clear q3
    go_wp2
    go_ret2
    exact ⟨_, _, rfl, HG3.out.toExt (by simp)⟩
  · go_wp2_with fail
    refine (among_any w.heap.size _ n a1 _ (HC1.out.box' _) (by omega) w1.heap.size 5 5 [0, 1001, 31, 32, -30] (by omega) (by omega) (by omega) (by simp) (fun i hi => lit_cells [0, 1001, 31, 32, -30] i hi)).mono ?_
    rintro e w2 ⟨i, a2, hi, rfl, r2, s2, hg2, hc2⟩
    generalize List.getD [0, 1001, 31, 32, -30] i (0 : Int) = z1 at *
    have HC2 := Lib.hid hc2
    have HG2 := Lib.hid ((HG1.out.alloc _).trans (GX.ofGrown hg2))
    have hl2 := HC2.out.lt
    clear hg2 hc2 hi
    go_wp2_with fail
    refine (among_any w.heap.size _ n a2 _ (HC2.out.box' _) (by omega) w2.heap.size 4 4 [0, 10, -6, 1000] (by omega) (by omega) (by omega) (by simp) (fun i hi => lit_cells [0, 10, -6, 1000] i hi)).mono ?_
    rintro e w3 ⟨i, a3, hi, rfl, r3, s3, hg3, hc3⟩
    generalize List.getD [0, 10, -6, 1000] i (0 : Int) = z2 at *
    have HC3 := Lib.hid hc3
    have HG3 := Lib.hid ((HG2.out.alloc _).trans (GX.ofGrown hg3))
    clear hg3 hc3 hi
    go_wp2
    go_ret2
    exact ⟨_, _, rfl, HG3.out.toExt (by simp)⟩

set_option maxRecDepth 20000 in
set_option maxHeartbeats 4000000 in
theorem drawCandidatesFor_any (v : Value) (n : Nat) (w : World) (h : BY w.heap.size w v n) :
    Calls Try.prog 16 #[v] w fun e w' => ∃ x y z k num den : Int, e = .returned (.tuple #[.agg #[.int .i64 x, .int .i64 y, .int .i64 z], .int .i64 k, .int .i64 num, .int .i64 den]) ∧ Ext w w' := by
  have HC := Lib.hid (cu_new1' h (.cells #[.int .i64 0, .int .i64 0, .int .i64 0] 27))
  have hP := fun a m w' (hc : CU (w.heap.size + 1) v n a w') (hb : 0 ≤ a ∧ a ≤ 900000000) (hm : m ≤ 65536) => Lib.hid (pick_any (w.heap.size + 1) v n a m w' hc hb hm)
  have hB := fun a w' (hc : CU (w.heap.size + 1) v n a w') (hb : 0 ≤ a ∧ a ≤ 700000000) => Lib.hid (curBound_any (w.heap.size + 1) v n a w' hc hb)
  have hT := fun a w' (hc : CU (w.heap.size + 1) v n a w') (hb : 0 ≤ a ∧ a ≤ 700000000) => Lib.hid (curAnyTarget_any (w.heap.size + 1) v n a w' hc hb)
  obtain ⟨ad, cap, rfl⟩ := h.noarg
  clear h
  go_enter Try.func16, Try.ntmps16
  go_wp2_with fail
  refine ((hB _ _ HC.out (by omega)).out).mono ?_
  rintro e w1 ⟨num, den, a1, rfl, r1, s1, hg1, hc1⟩
  have HC1 := Lib.hid hc1
  have HG1 := Lib.hid ((((GX.refl [w.heap.size + 1] (w.alloc (.cells #[.int .i64 0, .int .i64 0, .int .i64 0] 27))).alloc _)).trans (GX.ofGrown hg1))
  clear hg1 hc1
  go_wp2_with fail
  refine ((hT _ _ HC1.out (by omega)).out).mono ?_
  rintro e w2 ⟨x, y, z, a2, rfl, r2, s2, hg2, hc2⟩
  have HC2 := Lib.hid hc2
  have HG2 := Lib.hid ((HG1.out).trans (GX.ofGrown hg2))
  clear hg2 hc2
  go_wp2_with fail
  refine ((hP _ _ _ HC2.out (by omega) (by omega)).out).mono ?_
  rintro e w3 ⟨y3, a3, rfl, p3, q3, r3, s3, hg3, hc3⟩
  have HC3 := Lib.hid hc3
  have HG3 := Lib.hid ((HG2.out).trans (GX.ofGrown hg3))
  clear hg3 hc3
  have u3 : y3 < 8 := by omega
  clear q3
  have hb0 : w3.heap[w.heap.size]? = some (.cells #[.int .i64 0, .int .i64 0, .int .i64 0] 27 (0, 0)) := (HG3.out.heap (k := w.heap.size) (by simp) (by simp)).trans (heap_alloc_new _ _)
  have z0 := fun k => cell_of_row _ _ k _ _ _ hb0
  have f0 := fun k => frozen_of_row _ _ k _ _ hb0
  have l0 := (Array.getElem?_eq_some_iff.1 hb0).1
  clear hb0
  have hx : Ext w w3 := (((GX.refl [w.heap.size + 1] w).alloc _).trans HG3.out).toExt (by simp)
  go_wp2
  refine bodyPost_ret (v := .tuple #[.agg #[.int .i64 x, .int .i64 y, .int .i64 z], .int .i64 (y3 - 1), .int .i64 num, .int .i64 den]) (by simp [results, Try.results16, go_sem, *]) rfl ?_
  exact ⟨_, _, _, _, _, _, rfl, (by repeat (first | (with_reducible refine Ext.setCell ?_ (by first | (simp; done) | (simp; omega)) _) | with_reducible refine Ext.alloc ?_ _ | with_reducible refine Ext.drew ?_ | with_reducible refine Ext.drewN ?_ _ | with_reducible assumption | with_reducible exact Ext.refl _ | with_reducible refine Ext.trans ?_ (by with_reducible assumption)))⟩

end Go.Proofs.Ytbffcpnpdpgfeaa
