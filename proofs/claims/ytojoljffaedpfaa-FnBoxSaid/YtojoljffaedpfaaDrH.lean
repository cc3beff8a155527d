/- Draws of ranges. -/
import Derived.Test.YtojoljffaedpfaaDrG
import Derived.Deep.Cut
import Derived.Deep.RegionWith
namespace Go.Proofs.Ytojoljffaedpfaa
open Go.RowKit Go.Lib
set_option linter.unusedVariables false
set_option linter.unusedSimpArgs false

set_option maxRecDepth 20000 in
set_option maxHeartbeats 2000000 in
theorem curSpan_any (B : Nat) (v : Value) (n : Nat) (at' : Int) (w : World) (h : CU B v n at' w) (ha : 0 ≤ at' ∧ at' ≤ 800000000) :
    Calls Try.prog 78 #[.pointer (some ⟨B, 0, none⟩), .int .i64 6] w fun e w' => ∃ lo hi den at2 : Int, e = .returned (.agg #[.int .i64 lo, .int .i64 hi, .int .i64 den]) ∧ B7 lo ∧ B7 hi ∧ B7 den ∧ at' ≤ at2 ∧ at2 ≤ at' + 10 ∧ w.grownBy w' (some B) ∧ CU B v n at2 w' := by
  have hl := h.lt
  have HC := Lib.hid h
  have hP := fun a m w' (hc : CU B v n a w') (hb : 0 ≤ a ∧ a ≤ 900000000) (hm : m ≤ 65536) => Lib.hid (pick_any B v n a m w' hc hb hm)
  have hO := fun a w' (hc : CU B v n a w') (hb : 0 ≤ a ∧ a ≤ 900000000) => Lib.hid (one_any B v n a 6 w' hc hb (by omega))
  clear h
  go_enter Try.func78, Try.ntmps78
  go_wp2_with fail
  refine (among_any B _ n at' _ ((HC.out.box' _).box' _) (by omega) (w.heap.size + 1) 6 6 [1, 1, 2, 3, 10, 100] (by omega) (by omega) (by omega) (by simp) (fun i hi => lit_cells' (by simp) [1, 1, 2, 3, 10, 100] i hi)).mono ?_
  rintro e w1 ⟨i, a1, hi, rfl, r1, s1, hg1, hc1⟩
  have hd : 1 ≤ List.getD [1, 1, 2, 3, 10, 100] i (0 : Int) ∧ List.getD [1, 1, 2, 3, 10, 100] i (0 : Int) ≤ 100 := by
    have hi' : i = 0 ∨ i = 1 ∨ i = 2 ∨ i = 3 ∨ i = 4 ∨ i = 5 := by omega
    rcases hi' with rfl | rfl | rfl | rfl | rfl | rfl <;> decide
  generalize List.getD [1, 1, 2, 3, 10, 100] i (0 : Int) = d at *
  have HC1 := Lib.hid hc1
  have HG1 := Lib.hid (((GX.refl [B] (w.alloc (.cells #[.int .i64 0, .int .i64 0, .int .i64 0] 27))).alloc _).trans (GX.ofGrown hg1))
  clear hg1 hc1 hi
  go_wp2_with fail
  refine ((hP _ _ _ HC1.out (by omega) (by omega)).out).mono ?_
  rintro e w2 ⟨y2, a2, rfl, p2, q2, r2, s2, hg2, hc2⟩
  have HC2 := Lib.hid hc2
  have HG2 := Lib.hid ((HG1.out).trans (GX.ofGrown hg2))
  clear hg2 hc2
  have u2 : y2 < 12 * d := by omega
  clear q2
  go_wp2_with fail
  refine ((hO _ _ HC2.out (by omega)).out).mono ?_
  rintro e w3 ⟨z, a3, rfl, r3, s3, hg3, hc3⟩
  have HC3 := Lib.hid hc3
  have HG3 := Lib.hid ((HG2.out).trans (GX.ofGrown hg3))
  clear hg3 hc3
  have hl3 := HC3.out.lt
  cases z
  · go_wp2_with fail
    refine ((hP _ _ _ HC3.out (by omega) (by omega)).out).mono ?_
    rintro e w4 ⟨y4, a4, rfl, p4, q4, r4, s4, hg4, hc4⟩
    have HC4 := Lib.hid hc4
    have HG4 := Lib.hid ((HG3.out).trans (GX.ofGrown hg4))
    clear hg4 hc4
    have u4 : y4 < 6 * d + 1 := by omega
    clear q4
    have hbx := box_kept' hl HG4.out
    have hcx : ∀ k, World.cell? w4 ⟨w.heap.size, k, none⟩ = (#[.int .i64 0, .int .i64 0, .int .i64 0] : Array Value)[k]? := fun k => cell_of_row _ _ _ _ _ _ hbx
    have hfx : ∀ k, World.frozen? w4 ⟨w.heap.size, k, none⟩ = false := fun k => frozen_of_row _ _ _ _ _ hbx
    have hsx : w.heap.size < (w4).heap.size := (Array.getElem?_eq_some_iff.1 hbx).1
    clear hbx
    go_wp2
    refine bodyPost_ret (v := .agg #[.int .i64 (y2 - 6 * d), .int .i64 (y2 - 6 * d + y4), .int .i64 d]) (by simp [results, Try.results78, go_sem, *]) rfl ?_
    refine ⟨_, _, _, a4, rfl, ⟨by omega, by omega⟩, ⟨by omega, by omega⟩, ⟨by omega, by omega⟩, by omega, by omega, GX.toGrown ?_, ?_⟩
    · have hg : GX [B] w w4 := ((GX.refl [B] w).alloc _).trans HG4.out
      exact (by repeat (first | (with_reducible refine GX.setCell ?_ (by first | (simp; done) | (simp; omega)) _) | with_reducible refine GX.alloc ?_ _ | with_reducible refine GX.drew ?_ | with_reducible refine GX.drewN ?_ _ | with_reducible assumption | with_reducible exact GX.refl _ _ | with_reducible refine GX.ext ?_ (by with_reducible assumption) | with_reducible refine GX.trans ?_ (by with_reducible assumption)))
    · exact ((HC4.out.set' (by exact hl) _).set' (by exact hl) _).set' (by exact hl) _
  · go_wp2_with fail
    refine (among_any B _ n a3 _ (HC3.out.box' _) (by omega) w3.heap.size 3 3 [1000, -700, 9000] (by omega) (by omega) (by omega) (by simp) (fun i hi => lit_cells [1000, -700, 9000] i hi)).mono ?_
    rintro e w4 ⟨i, a4, hi, rfl, r4, s4, hg4, hc4⟩
    have hz1 : List.getD [1000, -700, 9000] i (0 : Int) = 1000 ∨ List.getD [1000, -700, 9000] i (0 : Int) = -700 ∨ List.getD [1000, -700, 9000] i (0 : Int) = 9000 := by
      have hi' : i = 0 ∨ i = 1 ∨ i = 2 := by omega
      rcases hi' with rfl | rfl | rfl <;> decide
    generalize List.getD [1000, -700, 9000] i (0 : Int) = z1 at *
    have hm : -70000 ≤ z1 * d ∧ z1 * d ≤ 900000 := by rcases hz1 with rfl | rfl | rfl <;> omega
    have hz2 : -700 ≤ z1 ∧ z1 ≤ 9000 := by omega
    have HC4 := Lib.hid hc4
    have HG4 := Lib.hid ((HG3.out.alloc _).trans (GX.ofGrown hg4))
    clear hg4 hc4 hi hz1
    go_wp2_with fail
    refine ((hP _ _ _ HC4.out (by omega) (by omega)).out).mono ?_
    rintro e w5 ⟨y5, a5, rfl, p5, q5, r5, s5, hg5, hc5⟩
    have HC5 := Lib.hid hc5
    have HG5 := Lib.hid ((HG4.out).trans (GX.ofGrown hg5))
    clear hg5 hc5
    have u5 : y5 < 6 * d + 1 := by omega
    clear q5
    have hbx := box_kept' hl HG5.out
    have hcx : ∀ k, World.cell? w5 ⟨w.heap.size, k, none⟩ = (#[.int .i64 0, .int .i64 0, .int .i64 0] : Array Value)[k]? := fun k => cell_of_row _ _ _ _ _ _ hbx
    have hfx : ∀ k, World.frozen? w5 ⟨w.heap.size, k, none⟩ = false := fun k => frozen_of_row _ _ _ _ _ hbx
    have hsx : w.heap.size < (w5).heap.size := (Array.getElem?_eq_some_iff.1 hbx).1
    clear hbx
    go_wp2
    refine bodyPost_ret (v := .agg #[.int .i64 (y2 - 6 * d + z1 * d), .int .i64 (y2 - 6 * d + z1 * d + y5), .int .i64 d]) (by simp [results, Try.results78, go_sem, *]) rfl ?_
    refine ⟨_, _, _, a5, rfl, ⟨by omega, by omega⟩, ⟨by omega, by omega⟩, ⟨by omega, by omega⟩, by omega, by omega, GX.toGrown ?_, ?_⟩
    · have hg : GX [B] w w5 := ((GX.refl [B] w).alloc _).trans HG5.out
      exact (by repeat (first | (with_reducible refine GX.setCell ?_ (by first | (simp; done) | (simp; omega)) _) | with_reducible refine GX.alloc ?_ _ | with_reducible refine GX.drew ?_ | with_reducible refine GX.drewN ?_ _ | with_reducible assumption | with_reducible exact GX.refl _ _ | with_reducible refine GX.ext ?_ (by with_reducible assumption) | with_reducible refine GX.trans ?_ (by with_reducible assumption)))
    · exact ((HC5.out.set' (by exact hl) _).set' (by exact hl) _).set' (by exact hl) _

set_option maxRecDepth 20000 in
set_option maxHeartbeats 4000000 in
theorem curAnySpan_any (B : Nat) (v : Value) (n : Nat) (at' : Int) (w : World) (h : CU B v n at' w) (ha : 0 ≤ at' ∧ at' ≤ 700000000) :
    Calls Try.prog 54 #[.pointer (some ⟨B, 0, none⟩)] w fun e w' => ∃ lo hi den at2 : Int, e = .returned (.agg #[.int .i64 lo, .int .i64 hi, .int .i64 den]) ∧ at' ≤ at2 ∧ at2 ≤ at' + 20 ∧ w.grownBy w' (some B) ∧ CU B v n at2 w' := by
  have hl := h.lt
  have HC := Lib.hid h
  have hP := fun a m w' (hc : CU B v n a w') (hb : 0 ≤ a ∧ a ≤ 900000000) (hm : m ≤ 65536) => Lib.hid (pick_any B v n a m w' hc hb hm)
  have hS := fun a w' (hc : CU B v n a w') (hb : 0 ≤ a ∧ a ≤ 800000000) => Lib.hid (curSpan_any B v n a w' hc hb)
  clear h
  go_enter Try.func54, Try.ntmps54
  go_wp2_with fail
  refine ((hS _ _ (HC.out.box' _) (by omega)).out).mono ?_
  rintro e w1 ⟨lo, hi, den, a1, rfl, b1, b2, b3, r1, s1, hg1, hc1⟩
  have HC1 := Lib.hid hc1
  have HG1 := Lib.hid ((GX.refl [B] _).trans (GX.ofGrown hg1))
  clear hg1 hc1
  unfold B7 at b1 b2 b3
  have hl1 := HC1.out.lt
  go_wp2_with fail
  refine ((hP _ _ _ (HC1.out.box' _) (by omega) (by omega)).out).mono ?_
  rintro e w2 ⟨y, a2, rfl, p2, q2, r2, s2, hg2, hc2⟩
  have HC2 := Lib.hid hc2
  have HG2 := Lib.hid ((HG1.out.alloc _).trans (GX.ofGrown hg2))
  have hBX : w2.heap[w1.heap.size]? = some (.cells #[.int .i64 lo, .int .i64 hi, .int .i64 den] 27 (0, 0)) := box_kept' hl1 (GX.ofGrown hg2)
  have hB0 : w2.heap[w.heap.size]? = some (.cells #[.int .i64 0, .int .i64 0, .int .i64 0] 27 (0, 0)) := box_kept' hl HG2.out
  have hl2 := hc2.lt
  clear hg2 hc2 q2
  have hlx := (Array.getElem?_eq_some_iff.1 hBX).1
  have hl0 := (Array.getElem?_eq_some_iff.1 hB0).1
  have hne : w.heap.size ≠ w1.heap.size := by have := HG1.out.size; simp at this; omega
  have hxx : w.heap.size ≤ w1.heap.size := by have := HG1.out.size; simp at this; omega
  have hg2 : Hid (GX [B] w w2) := ((GX.refl [B] w).alloc _).trans HG2.out
  have HBX := Lib.hid hBX
  have HB0 := Lib.hid hB0
  have zx : ∀ k, w2.cell? ⟨w1.heap.size, k, none⟩ = (#[.int .i64 lo, .int .i64 hi, .int .i64 den] : Array Value)[k]? := fun k => cell_of_row _ _ _ _ _ _ hBX
  have fx : ∀ k, w2.frozen? ⟨w1.heap.size, k, none⟩ = false := fun k => frozen_of_row _ _ _ _ _ hBX
  have z0 : ∀ k, w2.cell? ⟨w.heap.size, k, none⟩ = (#[.int .i64 0, .int .i64 0, .int .i64 0] : Array Value)[k]? := fun k => cell_of_row _ _ _ _ _ _ hB0
  have f0 : ∀ k, w2.frozen? ⟨w.heap.size, k, none⟩ = false := fun k => frozen_of_row _ _ _ _ _ hB0
  clear hBX hB0
  by_cases h0 : y = 0
  · have k0 : (y == 0) = true := by simpa using h0
    clear h0
    go_wp2_with fail
    refine (among_any B _ n a2 _ (HC2.out.box' _) (by omega) w2.heap.size 3 3 [0, 101, -1] (by omega) (by omega) (by omega) (by simp) (fun i hi => lit_cells [0, 101, -1] i hi)).mono ?_
    rintro e w3 ⟨i, a3, hii, rfl, r3, s3, hg3, hc3⟩
    generalize List.getD [0, 101, -1] i (0 : Int) = z1 at *
    have HC3 := Lib.hid hc3
    have HG3 := Lib.hid ((hg2.out.alloc _).trans (GX.ofGrown hg3))
    have hBX3 := ((GX.ofGrown hg3).heap (k := w1.heap.size) (by simp; omega) (by simp; omega)).trans (heap_alloc_lt HBX.out)
    have hB03 := ((GX.ofGrown hg3).heap (k := w.heap.size) (by simp; omega) (by simp; omega)).trans (heap_alloc_lt HB0.out)
    have hl3 := hc3.lt
    clear hg3 hc3 zx fx z0 f0 hii
    have hlx3 := (Array.getElem?_eq_some_iff.1 hBX3).1
    have hl03 := (Array.getElem?_eq_some_iff.1 hB03).1
    have zx : ∀ k, w3.cell? ⟨w1.heap.size, k, none⟩ = (#[.int .i64 lo, .int .i64 hi, .int .i64 den] : Array Value)[k]? := fun k => cell_of_row _ _ _ _ _ _ hBX3
    have fx : ∀ k, w3.frozen? ⟨w1.heap.size, k, none⟩ = false := fun k => frozen_of_row _ _ _ _ _ hBX3
    have z0 : ∀ k, w3.cell? ⟨w.heap.size, k, none⟩ = (#[.int .i64 0, .int .i64 0, .int .i64 0] : Array Value)[k]? := fun k => cell_of_row _ _ _ _ _ _ hB03
    have f0 : ∀ k, w3.frozen? ⟨w.heap.size, k, none⟩ = false := fun k => frozen_of_row _ _ _ _ _ hB03
    clear hBX3 hB03
    go_wp2
    refine bodyPost_ret (v := .agg #[.int .i64 lo, .int .i64 hi, .int .i64 z1]) (by simp [results, Try.results54, go_sem, *]) rfl ?_
    refine ⟨_, _, _, a3, rfl, by omega, by omega, GX.toGrown ?_, ?_⟩
    · have hg := HG3.out
      exact (by repeat (first | (with_reducible refine GX.setCell ?_ (by first | (simp; done) | (simp; omega)) _) | with_reducible refine GX.alloc ?_ _ | with_reducible refine GX.drew ?_ | with_reducible refine GX.drewN ?_ _ | with_reducible assumption | with_reducible exact GX.refl _ _ | with_reducible refine GX.ext ?_ (by with_reducible assumption) | with_reducible refine GX.trans ?_ (by with_reducible assumption)))
    · exact (((HC3.out.set' (by exact hl1) _).set' (by exact hl) _).set' (by exact hl) _).set' (by exact hl) _
  have k0 : (y == 0) = false := by simpa using h0
  by_cases h1 : y = 1
  · have k1 : (y == 1) = true := by simpa using h1
    clear h0 h1
    go_wp2
    refine bodyPost_ret (v := .agg #[.int .i64 lo, .int .i64 (lo - 1), .int .i64 den]) (by simp [results, Try.results54, go_sem, *]) rfl ?_
    refine ⟨_, _, _, a2, rfl, by omega, by omega, GX.toGrown ?_, ?_⟩
    · have hg := hg2.out
      exact (by repeat (first | (with_reducible refine GX.setCell ?_ (by first | (simp; done) | (simp; omega)) _) | with_reducible refine GX.alloc ?_ _ | with_reducible refine GX.drew ?_ | with_reducible refine GX.drewN ?_ _ | with_reducible assumption | with_reducible exact GX.refl _ _ | with_reducible refine GX.ext ?_ (by with_reducible assumption) | with_reducible refine GX.trans ?_ (by with_reducible assumption)))
    · exact (((HC2.out.set' (by exact hl1) _).set' (by exact hl) _).set' (by exact hl) _).set' (by exact hl) _
  have k1 : (y == 1) = false := by simpa using h1
  by_cases h2 : y = 2
  · have k2 : (y == 2) = true := by simpa using h2
    clear h0 h1 h2
    go_wp2_with fail
    go_region_with (go_at_call 77; (with_reducible refine ((hP _ _ _ (HC2.out.keep (Ext.drew (Ext.refl _))) (by omega) (by omega)).out).mono ?_); rintro e w3 ⟨z, a3, rfl, p3, q3, r3, s3, hg3, hc3⟩; have HC3 := Lib.hid hc3; have HG3 := Lib.hid ((hg2.out.ext (Ext.drew (Ext.refl _))).trans (GX.ofGrown hg3)); have hBX3 := ((GX.ofGrown hg3).heap (k := w1.heap.size) (by simp; omega) (by simp; omega)).trans HBX.out; have hB03 := ((GX.ofGrown hg3).heap (k := w.heap.size) (by simp; omega) (by simp; omega)).trans HB0.out; have hl3 := hc3.lt; clear hg3 hc3; have hlx3 := (Array.getElem?_eq_some_iff.1 hBX3).1; have hl03 := (Array.getElem?_eq_some_iff.1 hB03).1; have zx3 : ∀ k, w3.cell? ⟨w1.heap.size, k, none⟩ = (#[.int .i64 lo, .int .i64 hi, .int .i64 den] : Array Value)[k]? := fun k => cell_of_row _ _ _ _ _ _ hBX3; have fx3 : ∀ k, w3.frozen? ⟨w1.heap.size, k, none⟩ = false := fun k => frozen_of_row _ _ _ _ _ hBX3; have z03 : ∀ k, w3.cell? ⟨w.heap.size, k, none⟩ = (#[.int .i64 0, .int .i64 0, .int .i64 0] : Array Value)[k]? := fun k => cell_of_row _ _ _ _ _ _ hB03; have f03 : ∀ k, w3.frozen? ⟨w.heap.size, k, none⟩ = false := fun k => frozen_of_row _ _ _ _ _ hB03; clear hBX3 hB03; have u3 : z < 2 := by omega)
    all_goals
      go_wp2
      refine bodyPost_ret (v := .agg #[.int .i64 lo, .int .i64 (lo + 40 * den + z), .int .i64 den]) (by simp [results, Try.results54, go_sem, *]) rfl ?_
      refine ⟨_, _, _, a3, rfl, by omega, by omega, GX.toGrown ?_, ?_⟩
      · have hg := HG3.out
        exact (by repeat (first | (with_reducible refine GX.setCell ?_ (by first | (simp; done) | (simp; omega)) _) | with_reducible refine GX.alloc ?_ _ | with_reducible refine GX.drew ?_ | with_reducible refine GX.drewN ?_ _ | with_reducible assumption | with_reducible exact GX.refl _ _ | with_reducible refine GX.ext ?_ (by with_reducible assumption) | with_reducible refine GX.trans ?_ (by with_reducible assumption)))
      · exact (((HC3.out.set' (by exact hl1) _).set' (by exact hl) _).set' (by exact hl) _).set' (by exact hl) _
  have k2 : (y == 2) = false := by simpa using h2
  by_cases h3 : y = 3
  · have k3 : (y == 3) = true := by simpa using h3
    clear h0 h1 h2 h3
    go_wp2
    refine bodyPost_ret (v := .agg #[.int .i64 (-1000001), .int .i64 hi, .int .i64 den]) (by simp [results, Try.results54, go_sem, *]) rfl ?_
    refine ⟨_, _, _, a2, rfl, by omega, by omega, GX.toGrown ?_, ?_⟩
    · have hg := hg2.out
      exact (by repeat (first | (with_reducible refine GX.setCell ?_ (by first | (simp; done) | (simp; omega)) _) | with_reducible refine GX.alloc ?_ _ | with_reducible refine GX.drew ?_ | with_reducible refine GX.drewN ?_ _ | with_reducible assumption | with_reducible exact GX.refl _ _ | with_reducible refine GX.ext ?_ (by with_reducible assumption) | with_reducible refine GX.trans ?_ (by with_reducible assumption)))
    · exact (((HC2.out.set' (by exact hl1) _).set' (by exact hl) _).set' (by exact hl) _).set' (by exact hl) _
  have k3 : (y == 3) = false := by simpa using h3
  clear h0 h1 h2 h3
  go_wp2
  refine bodyPost_ret (v := .agg #[.int .i64 lo, .int .i64 hi, .int .i64 den]) (by simp [results, Try.results54, go_sem, *]) rfl ?_
  refine ⟨_, _, _, a2, rfl, by omega, by omega, GX.toGrown ?_, ?_⟩
  · have hg := hg2.out
    exact (by repeat (first | (with_reducible refine GX.setCell ?_ (by first | (simp; done) | (simp; omega)) _) | with_reducible refine GX.alloc ?_ _ | with_reducible refine GX.drew ?_ | with_reducible refine GX.drewN ?_ _ | with_reducible assumption | with_reducible exact GX.refl _ _ | with_reducible refine GX.ext ?_ (by with_reducible assumption) | with_reducible refine GX.trans ?_ (by with_reducible assumption)))
  · exact ((HC2.out.set' (by exact hl) _).set' (by exact hl) _).set' (by exact hl) _

set_option maxRecDepth 20000 in
set_option maxHeartbeats 1000000 in
theorem drawGridPoints_any (v : Value) (n : Nat) (w : World) (h : BY w.heap.size w v n) :
    Calls Try.prog 28 #[v] w fun e w' => ∃ lo hi den lo' hi' den' : Int, e = .returned (.tuple #[.agg #[.int .i64 lo, .int .i64 hi, .int .i64 den], .agg #[.int .i64 lo', .int .i64 hi', .int .i64 den']]) ∧ Ext w w' := by
  have HC := Lib.hid (cu_new2' h (.cells #[.int .i64 0, .int .i64 0, .int .i64 0] 27) (.cells #[.int .i64 0, .int .i64 0, .int .i64 0] 27))
  have hD := fun a w' (hc : CU (w.heap.size + 1 + 1) v n a w') (hb : 0 ≤ a ∧ a ≤ 700000000) => Lib.hid (curAnySpan_any (w.heap.size + 1 + 1) v n a w' hc hb)
  obtain ⟨ad, cap, rfl⟩ := h.noarg
  clear h
  go_enter Try.func28, Try.ntmps28
  go_wp2_with fail
  refine ((hD _ _ HC.out (by omega)).out).mono ?_
  rintro e w1 ⟨lo, hi, den, a1, rfl, r1, s1, hg1, hc1⟩
  have HC1 := Lib.hid hc1
  have HG1 := Lib.hid (GX.ofGrown hg1)
  clear hg1 hc1
  go_wp2_with fail
  refine ((hD _ _ HC1.out (by omega)).out).mono ?_
  rintro e w2 ⟨lo', hi', den', a2, rfl, r2, s2, hg2, hc2⟩
  have HG2 := Lib.hid (HG1.out.trans (GX.ofGrown hg2))
  have hbx : w2.heap[w.heap.size]? = some (.cells #[.int .i64 0, .int .i64 0, .int .i64 0] 27 (0, 0)) := (HG2.out.heap (by simp; omega) (by simp; omega)).trans (heap_alloc_lt (heap_alloc_lt (heap_alloc_new _ _)))
  have hby : w2.heap[w.heap.size + 1]? = some (.cells #[.int .i64 0, .int .i64 0, .int .i64 0] 27 (0, 0)) := (HG2.out.heap (by simp) (by simp)).trans (heap_alloc_lt (heap_alloc_at _ _ _ (by simp)))
  have HE2 : Hid (Ext w w2) := (((((GX.refl [w.heap.size + 1 + 1] w).alloc _).alloc _).alloc _).trans (by simpa using HG2.out)).toExt (by simp; omega)
  clear hg2 hc2
  have zx : ∀ k, w2.cell? ⟨w.heap.size, k, none⟩ = (#[.int .i64 0, .int .i64 0, .int .i64 0] : Array Value)[k]? := fun k => cell_of_row _ _ _ _ _ _ hbx
  have fx : ∀ k, w2.frozen? ⟨w.heap.size, k, none⟩ = false := fun k => frozen_of_row _ _ _ _ _ hbx
  have zy : ∀ k, w2.cell? ⟨w.heap.size + 1, k, none⟩ = (#[.int .i64 0, .int .i64 0, .int .i64 0] : Array Value)[k]? := fun k => cell_of_row _ _ _ _ _ _ hby
  have fy : ∀ k, w2.frozen? ⟨w.heap.size + 1, k, none⟩ = false := fun k => frozen_of_row _ _ _ _ _ hby
  have lx := (Array.getElem?_eq_some_iff.1 hbx).1
  have ly := (Array.getElem?_eq_some_iff.1 hby).1
  clear hbx hby
  go_wp2
  refine bodyPost_ret (v := .tuple #[.agg #[.int .i64 lo, .int .i64 hi, .int .i64 den], .agg #[.int .i64 lo', .int .i64 hi', .int .i64 den']]) (by simp [results, Try.results28, go_sem, *]) rfl ?_
  have hx := HE2.out
  exact ⟨_, _, _, _, _, _, rfl, (by repeat (first | (with_reducible refine Ext.setCell ?_ (by first | (simp; done) | (simp; omega)) _) | with_reducible refine Ext.alloc ?_ _ | with_reducible refine Ext.drew ?_ | with_reducible refine Ext.drewN ?_ _ | with_reducible assumption | with_reducible exact Ext.refl _ | with_reducible refine Ext.trans ?_ (by with_reducible assumption)))⟩

end Go.Proofs.Ytojoljffaedpfaa
