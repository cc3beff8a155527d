/- Draws: dyadic numbers as the laws draw them. -/
import Derived.Test.YtnlhonlfkmpleaaCrt
namespace Go.Proofs.Ytnlhonlfkmpleaa
open Go.RowKit Go.Lib
set_option linter.unusedVariables false
set_option linter.unusedSimpArgs false

/-- a cursor that is made behind one box, or two -/
theorem cu_new1 {w : World} {v : Value} {n : Nat} (h : BY w.heap.size w v n) (o : Obj) : CU (w.heap.size + 1) v n 0 ((w.alloc o).alloc (.cells #[v, .int .i64 0, .int .u64 0] 95)) := by
  have := cu_new (h.later ((Ext.refl w).alloc o))
  rwa [show (w.alloc o).heap.size = w.heap.size + 1 by simp] at this
theorem cu_new2 {w : World} {v : Value} {n : Nat} (h : BY w.heap.size w v n) (o o' : Obj) : CU (w.heap.size + 1 + 1) v n 0 (((w.alloc o).alloc o').alloc (.cells #[v, .int .i64 0, .int .u64 0] 95)) := by
  have := cu_new (h.later (((Ext.refl w).alloc o).alloc o'))
  rwa [show ((w.alloc o).alloc o').heap.size = w.heap.size + 1 + 1 by simp] at this

set_option maxRecDepth 20000 in
set_option maxHeartbeats 1000000 in
theorem drawIsValidDyadic_any (v : Value) (n : Nat) (w : World) (h : BY w.heap.size w v n) :
    Calls Try.prog 62 #[v] w fun e w' => ∃ a b c d k : Int, e = .returned (.agg #[.int .i64 a, .int .i64 b, .int .i64 c, .int .i64 d, .int .i64 k]) ∧ Ext w w' := by
  have HC := Lib.hid (cu_new1 h (.cells #[.int .i64 0, .int .i64 0, .int .i64 0, .int .i64 0, .int .i64 0] 34))
  have hD := fun a w' (hc : CU (w.heap.size + 1) v n a w') (hb : 0 ≤ a ∧ a ≤ 600000000) => Lib.hid (anyDyadic_any (w.heap.size + 1) v n a w' hc hb)
  obtain ⟨ad, cap, rfl⟩ := h.noarg
  clear h
  go_enter Try.func62, Try.ntmps62
  go_wp2_with fail
  refine ((hD _ _ HC.out (by omega)).out).mono ?_
  rintro e w1 ⟨a, b, c, d, k, a1, rfl, r1, s1, hg1, hc1⟩
  have HG1 := Lib.hid (GX.ofGrown hg1)
  have hbx : w1.heap[w.heap.size]? = some (.cells #[.int .i64 0, .int .i64 0, .int .i64 0, .int .i64 0, .int .i64 0] 34 (0, 0)) := (HG1.out.heap (by simp; omega) (by simp)).trans (heap_alloc_lt (heap_alloc_new _ _))
  have HE1 : Hid (Ext w w1) := ((((GX.refl [w.heap.size + 1] w).alloc _).alloc _).trans (by simpa using HG1.out)).toExt (by simp)
  clear hg1 hc1
  have hbx := hbx
  have hcx : ∀ k, World.cell? w1 ⟨w.heap.size, k, none⟩ = (#[.int .i64 0, .int .i64 0, .int .i64 0, .int .i64 0, .int .i64 0] : Array Value)[k]? := fun k => cell_of_row _ _ _ _ _ _ hbx
  have hfx : ∀ k, World.frozen? w1 ⟨w.heap.size, k, none⟩ = false := fun k => frozen_of_row _ _ _ _ _ hbx
  have hsx : w.heap.size < (w1).heap.size := (Array.getElem?_eq_some_iff.1 hbx).1
  clear hbx
  go_wp2
  refine bodyPost_ret (v := .agg #[.int .i64 a, .int .i64 b, .int .i64 c, .int .i64 d, .int .i64 k]) (by simp [results, Try.results62, go_sem, *]) rfl ?_
  have hx := HE1.out
  exact ⟨_, _, _, _, _, rfl, (by repeat (first | (with_reducible refine Ext.setCell ?_ (by first | (simp; done) | (simp; omega)) _) | with_reducible refine Ext.alloc ?_ _ | with_reducible refine Ext.drew ?_ | with_reducible refine Ext.drewN ?_ _ | with_reducible assumption | with_reducible exact Ext.refl _ | with_reducible refine Ext.trans ?_ (by with_reducible assumption)))⟩

theorem drawConjDyadic_any (v : Value) (n : Nat) (w : World) (h : BY w.heap.size w v n) :
    Calls Try.prog 26 #[v] w fun e w' => ∃ a b c d k : Int, e = .returned (.agg #[.int .i64 a, .int .i64 b, .int .i64 c, .int .i64 d, .int .i64 k]) ∧ Ext w w' := by
  have hD := fun w' hx => Lib.hid (drawIsValidDyadic_any v n w' (h.later hx))
  obtain ⟨ad, cap, rfl⟩ := h.noarg
  clear h
  go_enter Try.func26, Try.ntmps26
  go_wp2_with fail
  refine ((hD _ ((Ext.refl w).alloc _)).out).mono ?_
  rintro e w1 ⟨a, b, c, d, k, rfl, hx1⟩
  obtain ⟨hc1, hf1⟩ := hx1.cells
  have hz1 := hx1.size
  try simp at hz1
  have hs1_0 := sz1 (a := w.heap.size) (b := w1.heap.size) (by omega)
  go_wp2
  refine bodyPost_ret (v := .agg #[.int .i64 a, .int .i64 b, .int .i64 c, .int .i64 d, .int .i64 k]) (by simp [results, Try.results26, go_sem, *]) rfl ?_
  exact ⟨_, _, _, _, _, rfl, (by repeat (first | (with_reducible refine Ext.setCell ?_ (by first | (simp; done) | (simp; omega)) _) | with_reducible refine Ext.alloc ?_ _ | with_reducible refine Ext.drew ?_ | with_reducible refine Ext.drewN ?_ _ | with_reducible assumption | with_reducible exact Ext.refl _ | with_reducible refine Ext.trans ?_ (by with_reducible assumption)))⟩

set_option maxRecDepth 20000 in
set_option maxHeartbeats 1000000 in
theorem drawAddDyadic_any (v : Value) (n : Nat) (w : World) (h : BY w.heap.size w v n) :
    Calls Try.prog 25 #[v] w fun e w' => ∃ a b c d k a' b' c' d' k' : Int, e = .returned (.tuple #[.agg #[.int .i64 a, .int .i64 b, .int .i64 c, .int .i64 d, .int .i64 k], .agg #[.int .i64 a', .int .i64 b', .int .i64 c', .int .i64 d', .int .i64 k']]) ∧ Ext w w' := by
  have HC := Lib.hid (cu_new2 h (.cells #[.int .i64 0, .int .i64 0, .int .i64 0, .int .i64 0, .int .i64 0] 34) (.cells #[.int .i64 0, .int .i64 0, .int .i64 0, .int .i64 0, .int .i64 0] 34))
  have hD := fun a w' (hc : CU (w.heap.size + 1 + 1) v n a w') (hb : 0 ≤ a ∧ a ≤ 600000000) => Lib.hid (anyDyadic_any (w.heap.size + 1 + 1) v n a w' hc hb)
  obtain ⟨ad, cap, rfl⟩ := h.noarg
  clear h
  go_enter Try.func25, Try.ntmps25
  go_wp2_with fail
  refine ((hD _ _ HC.out (by omega)).out).mono ?_
  rintro e w1 ⟨a, b, c, d, k, a1, rfl, r1, s1, hg1, hc1⟩
  have HG1 := Lib.hid (GX.ofGrown hg1)
  have HC1 := Lib.hid hc1
  clear hg1 hc1
  go_wp2_with fail
  refine ((hD _ _ HC1.out (by omega)).out).mono ?_
  rintro e w2 ⟨a', b', c', d', k', a2, rfl, r2, s2, hg2, hc2⟩
  have HG2 := Lib.hid (HG1.out.trans (GX.ofGrown hg2))
  have hbx : w2.heap[w.heap.size]? = some (.cells #[.int .i64 0, .int .i64 0, .int .i64 0, .int .i64 0, .int .i64 0] 34 (0, 0)) := (HG2.out.heap (by simp; omega) (by simp; omega)).trans (heap_alloc_lt (heap_alloc_lt (heap_alloc_new _ _)))
  have hby : w2.heap[w.heap.size + 1]? = some (.cells #[.int .i64 0, .int .i64 0, .int .i64 0, .int .i64 0, .int .i64 0] 34 (0, 0)) := (HG2.out.heap (by simp) (by simp)).trans (heap_alloc_lt (heap_alloc_at _ _ _ (by simp)))
  have HE1 : Hid (Ext w w2) := (((((GX.refl [w.heap.size + 1 + 1] w).alloc _).alloc _).alloc _).trans (by simpa using HG2.out)).toExt (by simp; omega)
  clear hg2 hc2 HC1 HG1 HG2
  have hcy : ∀ k, w2.cell? ⟨w.heap.size + 1, k, none⟩ = (#[.int .i64 0, .int .i64 0, .int .i64 0, .int .i64 0, .int .i64 0] : Array Value)[k]? := fun k => cell_of_row _ _ _ _ _ _ hby
  have hfy : ∀ k, w2.frozen? ⟨w.heap.size + 1, k, none⟩ = false := fun k => frozen_of_row _ _ _ _ _ hby
  have hsy := (Array.getElem?_eq_some_iff.1 hby).1
  clear hby
  have hbx := hbx
  have hcx : ∀ k, World.cell? w2 ⟨w.heap.size, k, none⟩ = (#[.int .i64 0, .int .i64 0, .int .i64 0, .int .i64 0, .int .i64 0] : Array Value)[k]? := fun k => cell_of_row _ _ _ _ _ _ hbx
  have hfx : ∀ k, World.frozen? w2 ⟨w.heap.size, k, none⟩ = false := fun k => frozen_of_row _ _ _ _ _ hbx
  have hsx : w.heap.size < (w2).heap.size := (Array.getElem?_eq_some_iff.1 hbx).1
  clear hbx
  go_wp2
  refine bodyPost_ret (v := .tuple #[.agg #[.int .i64 a, .int .i64 b, .int .i64 c, .int .i64 d, .int .i64 k], .agg #[.int .i64 a', .int .i64 b', .int .i64 c', .int .i64 d', .int .i64 k']]) (by simp [results, Try.results25, go_sem, *]) rfl ?_
  have hx := HE1.out
  exact ⟨_, _, _, _, _, _, _, _, _, _, rfl, (by repeat (first | (with_reducible refine Ext.setCell ?_ (by first | (simp; done) | (simp; omega)) _) | with_reducible refine Ext.alloc ?_ _ | with_reducible refine Ext.drew ?_ | with_reducible refine Ext.drewN ?_ _ | with_reducible assumption | with_reducible exact Ext.refl _ | with_reducible refine Ext.trans ?_ (by with_reducible assumption)))⟩

end Go.Proofs.Ytnlhonlfkmpleaa
