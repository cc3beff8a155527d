/- Draws of grids. -/
import Derived.Test.YtojoljffaedpfaaDrw
import Derived.Test.YtojoljffaedpfaaByt
namespace Go.Proofs.Ytojoljffaedpfaa
open Go.RowKit Go.Lib
set_option linter.unusedVariables false
set_option linter.unusedSimpArgs false

theorem CU.set' {B : Nat} {v : Value} {n : Nat} {a : Int} {w : World} (h : CU B v n a w) {p : Addr} (hp : B < p.block) (u : Value) : CU B v n a (w.setCell p u) := by
  have hl := h.lt
  obtain ⟨h1, s, h2⟩ := h
  exact ⟨h1.gx (by omega) ((GX.refl [p.block] w).setCell (.inl (by simp)) u) (by simp; omega), s, heap_set_ne (by omega) h2⟩
theorem CU.box' {B : Nat} {v : Value} {n : Nat} {a : Int} {w : World} (h : CU B v n a w) (o : Obj) : CU B v n a (w.alloc o) := h.keep ((Ext.refl w).alloc o)
/-- a box laid ahead of a cursor's call stands -/
theorem box_kept' {B : Nat} {w w' : World} {c : Array Value} {t : TypeId} (hl : B < w.heap.size) (h : GX [B] (w.alloc (.cells c t)) w') : w'.heap[w.heap.size]? = some (.cells c t (0, 0)) :=
  (h.heap (by simp) (by simp; omega)).trans (heap_alloc_new _ _)
theorem lit_cells' {w : World} {t : TypeId} {N : Nat} (hN : w.heap.size = N) (xs : List Int) : ∀ i, i < xs.length → (w.alloc (.cells (xs.map (Value.int .i64)).toArray t)).cell? ⟨N, i, none⟩ = some (.int .i64 (xs.getD i 0)) := by
  subst hN
  exact lit_cells xs
theorem cu_new1' {w : World} {v : Value} {n : Nat} (h : BY w.heap.size w v n) (o : Obj) : CU (w.heap.size + 1) v n 0 ((w.alloc o).alloc (.cells #[v, .int .i64 0, .int .u64 0] 80)) := by
  have := cu_new (h.later ((Ext.refl w).alloc o))
  rwa [show (w.alloc o).heap.size = w.heap.size + 1 by simp] at this
theorem cu_new2' {w : World} {v : Value} {n : Nat} (h : BY w.heap.size w v n) (o o' : Obj) : CU (w.heap.size + 1 + 1) v n 0 (((w.alloc o).alloc o').alloc (.cells #[v, .int .i64 0, .int .u64 0] 80)) := by
  have := cu_new (h.later (((Ext.refl w).alloc o).alloc o'))
  rwa [show ((w.alloc o).alloc o').heap.size = w.heap.size + 1 + 1 by simp] at this
/-- what is drawn is not too great -/
def B7 (x : Int) : Prop := -10000000 ≤ x ∧ x ≤ 10000000

set_option maxRecDepth 20000 in
set_option maxHeartbeats 2000000 in
theorem curRoot2_any (B : Nat) (v : Value) (n : Nat) (at' : Int) (w : World) (h : CU B v n at' w) (ha : 0 ≤ at' ∧ at' ≤ 800000000) :
    Calls Try.prog 57 #[.pointer (some ⟨B, 0, none⟩)] w fun e w' => ∃ P Q at2 : Int, e = .returned (.agg #[.int .i64 P, .int .i64 Q]) ∧ B7 P ∧ B7 Q ∧ at' ≤ at2 ∧ at2 ≤ at' + 10 ∧ w.grownBy w' (some B) ∧ CU B v n at2 w' := by
  have hl := h.lt
  have HC := Lib.hid h
  have hP := fun a m w' (hc : CU B v n a w') (hb : 0 ≤ a ∧ a ≤ 900000000) (hm : m ≤ 65536) => Lib.hid (pick_any B v n a m w' hc hb hm)
  have hO := fun a w' (hc : CU B v n a w') (hb : 0 ≤ a ∧ a ≤ 900000000) => Lib.hid (one_any B v n a 12 w' hc hb (by omega))
  clear h
  go_enter Try.func57, Try.ntmps57
  go_wp2_with fail
  refine ((hP _ _ _ (HC.out.box' _) (by omega) (by omega)).out).mono ?_
  rintro e w1 ⟨y1, a1, rfl, p1, q1, r1, s1, hg1, hc1⟩
  have HC1 := Lib.hid hc1
  have HG1 := Lib.hid ((GX.refl [B] _).trans (GX.ofGrown hg1))
  clear hg1 hc1
  go_wp2_with fail
  refine ((hP _ _ _ HC1.out (by omega) (by omega)).out).mono ?_
  rintro e w2 ⟨y2, a2, rfl, p2, q2, r2, s2, hg2, hc2⟩
  have HC2 := Lib.hid hc2
  have HG2 := Lib.hid ((HG1.out).trans (GX.ofGrown hg2))
  clear hg2 hc2
  have u1 : y1 < 40 := by omega
  have u2 : y2 < 30 := by omega
  clear q1 q2
  have hl2 := HC2.out.lt
  go_wp2_with fail
  refine ((hO _ _ (HC2.out.box' _) (by omega)).out).mono ?_
  rintro e w3 ⟨z, a3, rfl, r3, s3, hg3, hc3⟩
  have HC3 := Lib.hid hc3
  have HG3 := Lib.hid ((HG2.out.alloc _).trans (GX.ofGrown hg3))
  have hBX : w3.heap[w2.heap.size]? = some (.cells #[.int .i64 (y1 - 20), .int .i64 (y2 - 15)] 34 (0, 0)) := box_kept' hl2 (GX.ofGrown hg3)
  have hB0 : w3.heap[w.heap.size]? = some (.cells #[.int .i64 0, .int .i64 0] 34 (0, 0)) := box_kept' hl HG3.out
  have hl3 := hc3.lt
  clear hg3 hc3
  have hlx := (Array.getElem?_eq_some_iff.1 hBX).1
  have hl0 := (Array.getElem?_eq_some_iff.1 hB0).1
  cases z
  · have zx : ∀ k, w3.cell? ⟨w2.heap.size, k, none⟩ = (#[.int .i64 (y1 - 20), .int .i64 (y2 - 15)] : Array Value)[k]? := fun k => cell_of_row _ _ _ _ _ _ hBX
    have z0 : ∀ k, w3.cell? ⟨w.heap.size, k, none⟩ = (#[.int .i64 0, .int .i64 0] : Array Value)[k]? := fun k => cell_of_row _ _ _ _ _ _ hB0
    have f0 : ∀ k, w3.frozen? ⟨w.heap.size, k, none⟩ = false := fun k => frozen_of_row _ _ _ _ _ hB0
    go_wp2
    refine bodyPost_ret (v := .agg #[.int .i64 (y1 - 20), .int .i64 (y2 - 15)]) (by simp [results, Try.results57, go_sem, *]) rfl ?_
    refine ⟨_, _, a3, rfl, ⟨by omega, by omega⟩, ⟨by omega, by omega⟩, by omega, by omega, GX.toGrown ?_, ?_⟩
    · have hg : GX [B] w w3 := ((GX.refl [B] w).alloc _).trans HG3.out
      exact (by repeat (first | (with_reducible refine GX.setCell ?_ (by first | (simp; done) | (simp; omega)) _) | with_reducible refine GX.alloc ?_ _ | with_reducible refine GX.drew ?_ | with_reducible refine GX.drewN ?_ _ | with_reducible assumption | with_reducible exact GX.refl _ _ | with_reducible refine GX.ext ?_ (by with_reducible assumption) | with_reducible refine GX.trans ?_ (by with_reducible assumption)))
    · exact (HC3.out.set' (by exact hl) _).set' (by exact hl) _
  · go_wp2_with fail
    refine (among_any B _ n a3 _ (HC3.out.box' _) (by omega) w3.heap.size 4 4 [1000000, -1000001, 1414, 577] (by omega) (by omega) (by omega) (by simp) (fun i hi => lit_cells [1000000, -1000001, 1414, 577] i hi)).mono ?_
    rintro e w4 ⟨i, a4, hi, rfl, r4, s4, hg4, hc4⟩
    have hz1 : B7 (List.getD [1000000, -1000001, 1414, 577] i (0 : Int)) := by
      have hi' : i = 0 ∨ i = 1 ∨ i = 2 ∨ i = 3 := by omega
      unfold B7
      rcases hi' with rfl | rfl | rfl | rfl <;> decide
    generalize List.getD [1000000, -1000001, 1414, 577] i (0 : Int) = z1 at *
    have HZ1 := Lib.hid hz1
    have HC4 := Lib.hid hc4
    have HG4 := Lib.hid ((HG3.out.alloc _).trans (GX.ofGrown hg4))
    have hBX4 : w4.heap[w2.heap.size]? = some (.cells #[.int .i64 (y1 - 20), .int .i64 (y2 - 15)] 34 (0, 0)) := ((GX.ofGrown hg4).heap (by simp; omega) (by simp; omega)).trans (heap_alloc_lt hBX)
    have hB04 : w4.heap[w.heap.size]? = some (.cells #[.int .i64 0, .int .i64 0] 34 (0, 0)) := ((GX.ofGrown hg4).heap (by simp; omega) (by simp; omega)).trans (heap_alloc_lt hB0)
    have hl4 := hc4.lt
    have hs4 := hg4.size
    simp at hs4
    clear hg4 hc4 hz1 hi
    have zx : ∀ k, w4.cell? ⟨w2.heap.size, k, none⟩ = (#[.int .i64 (y1 - 20), .int .i64 (y2 - 15)] : Array Value)[k]? := fun k => cell_of_row _ _ _ _ _ _ hBX4
    have fx : ∀ k, w4.frozen? ⟨w2.heap.size, k, none⟩ = false := fun k => frozen_of_row _ _ _ _ _ hBX4
    have hlx4 : w2.heap.size < w4.heap.size := (Array.getElem?_eq_some_iff.1 hBX4).1
    go_wp2_with fail
    refine (among_any B _ n a4 _ ((HC4.out.set' (by exact hl2) _).box' _) (by omega) w4.heap.size 4 4 [1000000, 1000001, -1000, 408] (by omega) (by omega) (by omega) (by simp) (fun i hi => lit_cells' (by simp) [1000000, 1000001, -1000, 408] i hi)).mono ?_
    rintro e w5 ⟨i', a5, hi, rfl, r5, s5, hg5, hc5⟩
    have hz2 : B7 (List.getD [1000000, 1000001, -1000, 408] i' (0 : Int)) := by
      have hi' : i' = 0 ∨ i' = 1 ∨ i' = 2 ∨ i' = 3 := by omega
      unfold B7
      rcases hi' with rfl | rfl | rfl | rfl <;> decide
    generalize List.getD [1000000, 1000001, -1000, 408] i' (0 : Int) = z2 at *
    have HZ2 := Lib.hid hz2
    clear hz2
    have HC5 := Lib.hid hc5
    have HG5 := Lib.hid (((HG4.out.setCell (p := ⟨w2.heap.size, 0, none⟩) (.inr (by simp; have := HG2.out.size; simp at this; omega)) (.int .i64 z1)).alloc _).trans (GX.ofGrown hg5))
    have hBX5 : w5.heap[w2.heap.size]? = some (.cells #[.int .i64 z1, .int .i64 (y2 - 15)] 34 (0, 0)) := ((GX.ofGrown hg5).heap (by simp; omega) (by simp; omega)).trans (heap_alloc_lt (heap_set_at hBX4 0 _))
    have hB05 : w5.heap[w.heap.size]? = some (.cells #[.int .i64 0, .int .i64 0] 34 (0, 0)) := ((GX.ofGrown hg5).heap (by simp; omega) (by simp; omega)).trans (heap_alloc_lt (heap_set_ne (by simp; have := HG2.out.size; simp at this; omega) hB04))
    have hs5 := hg5.size
    simp at hs5
    clear hg5 hc5 hi
    have zx5 : ∀ k, w5.cell? ⟨w2.heap.size, k, none⟩ = (#[.int .i64 z1, .int .i64 (y2 - 15)] : Array Value)[k]? := fun k => cell_of_row _ _ _ _ _ _ hBX5
    have fx5 : ∀ k, w5.frozen? ⟨w2.heap.size, k, none⟩ = false := fun k => frozen_of_row _ _ _ _ _ hBX5
    have z05 : ∀ k, w5.cell? ⟨w.heap.size, k, none⟩ = (#[.int .i64 0, .int .i64 0] : Array Value)[k]? := fun k => cell_of_row _ _ _ _ _ _ hB05
    have f05 : ∀ k, w5.frozen? ⟨w.heap.size, k, none⟩ = false := fun k => frozen_of_row _ _ _ _ _ hB05
    have hlx5 : w2.heap.size < w5.heap.size := (Array.getElem?_eq_some_iff.1 hBX5).1
    have hl05 : w.heap.size < w5.heap.size := (Array.getElem?_eq_some_iff.1 hB05).1
    have hne : w.heap.size ≠ w2.heap.size := by have := HG2.out.size; simp at this; omega
    have hxx : w.heap.size ≤ w2.heap.size := by have := HG2.out.size; simp at this; omega
    go_wp2
    refine bodyPost_ret (v := .agg #[.int .i64 z1, .int .i64 z2]) (by simp [results, Try.results57, go_sem, *]) rfl ?_
    refine ⟨_, _, a5, rfl, HZ1.out, HZ2.out, by omega, by omega, GX.toGrown ?_, ?_⟩
    · have hg : GX [B] w w5 := ((GX.refl [B] w).alloc _).trans HG5.out
      exact (by repeat (first | (with_reducible refine GX.setCell ?_ (by first | (simp; done) | (simp; omega)) _) | with_reducible refine GX.alloc ?_ _ | with_reducible refine GX.drew ?_ | with_reducible refine GX.drewN ?_ _ | with_reducible assumption | with_reducible exact GX.refl _ _ | with_reducible refine GX.ext ?_ (by with_reducible assumption) | with_reducible refine GX.trans ?_ (by with_reducible assumption)))
    · exact ((HC5.out.set' (by exact hl2) _).set' (by exact hl) _).set' (by exact hl) _

set_option maxRecDepth 20000 in
set_option maxHeartbeats 1000000 in
theorem drawNormRoot2_any (v : Value) (n : Nat) (w : World) (h : BY w.heap.size w v n) :
    Calls Try.prog 29 #[v] w fun e w' => ∃ P Q : Int, e = .returned (.agg #[.int .i64 P, .int .i64 Q]) ∧ B7 P ∧ B7 Q ∧ Ext w w' := by
  have HC := Lib.hid (cu_new1' h (.cells #[.int .i64 0, .int .i64 0] 34))
  have hD := fun a w' (hc : CU (w.heap.size + 1) v n a w') (hb : 0 ≤ a ∧ a ≤ 600000000) => Lib.hid (curRoot2_any (w.heap.size + 1) v n a w' hc (by omega))
  obtain ⟨ad, cap, rfl⟩ := h.noarg
  clear h
  go_enter Try.func29, Try.ntmps29
  go_wp2_with fail
  refine ((hD _ _ HC.out (by omega)).out).mono ?_
  rintro e w1 ⟨P, Q, a1, rfl, b1, b2, r1, s1, hg1, hc1⟩
  have HB1 := Lib.hid b1
  have HB2 := Lib.hid b2
  have HG1 := Lib.hid (GX.ofGrown hg1)
  have hbx : w1.heap[w.heap.size]? = some (.cells #[.int .i64 0, .int .i64 0] 34 (0, 0)) := (HG1.out.heap (by simp; omega) (by simp)).trans (heap_alloc_lt (heap_alloc_new _ _))
  have HE1 : Hid (Ext w w1) := ((((GX.refl [w.heap.size + 1] w).alloc _).alloc _).trans (by simpa using HG1.out)).toExt (by simp)
  clear hg1 hc1 b1 b2
  have hbx := hbx
  have hcx : ∀ k, World.cell? w1 ⟨w.heap.size, k, none⟩ = (#[.int .i64 0, .int .i64 0] : Array Value)[k]? := fun k => cell_of_row _ _ _ _ _ _ hbx
  have hfx : ∀ k, World.frozen? w1 ⟨w.heap.size, k, none⟩ = false := fun k => frozen_of_row _ _ _ _ _ hbx
  have hsx : w.heap.size < (w1).heap.size := (Array.getElem?_eq_some_iff.1 hbx).1
  clear hbx
  go_wp2
  refine bodyPost_ret (v := .agg #[.int .i64 P, .int .i64 Q]) (by simp [results, Try.results29, go_sem, *]) rfl ?_
  have hx := HE1.out
  exact ⟨_, _, rfl, HB1.out, HB2.out, (by repeat (first | (with_reducible refine Ext.setCell ?_ (by first | (simp; done) | (simp; omega)) _) | with_reducible refine Ext.alloc ?_ _ | with_reducible refine Ext.drew ?_ | with_reducible refine Ext.drewN ?_ _ | with_reducible assumption | with_reducible exact Ext.refl _ | with_reducible refine Ext.trans ?_ (by with_reducible assumption)))⟩

end Go.Proofs.Ytojoljffaedpfaa
