/- Draws of circuits with commuting gates. -/
import Derived.Test.YtbddgeoaaklgpaaQwN
namespace Go.Proofs.Ytbddgeoaaklgpaa
open Go.RowKit Go.Lib
set_option linter.unusedVariables false
set_option linter.unusedSimpArgs false

theorem cu_newT {w : World} {v : Value} {n : Nat} (h : BY w.heap.size w v n) (o : Obj) : CU (w.heap.size + 1) v n 0 ((w.alloc o).alloc (.cells #[v, .int .i64 0, .int .u64 0] 77)) := by
  have := cu_new (h.later ((Ext.refl w).alloc o))
  rwa [show (w.alloc o).heap.size = w.heap.size + 1 by simp] at this

set_option maxRecDepth 20000 in
set_option maxHeartbeats 8000000 in
theorem curParallel_any (B : Nat) (v : Value) (n : Nat) (at' : Int) (w : World) (h : CU B v n at' w) (ha : 0 ≤ at' ∧ at' ≤ 400000000) (M : Nat) (hM : M ≤ 12) :
    Calls Try.prog 35 #[.pointer (some ⟨B, 0, none⟩), .int .i64 M] w fun e w' => ∃ (q : Int) (vm : Value), e = .returned (.agg #[.int .i64 q, vm]) ∧ (2 ≤ q ∧ q ≤ 4) ∧ DCk w.heap.size M 300 q vm B v n at' w w' := by
  have hl := h.lt
  have HC := Lib.hid h
  have hP := fun m a w' (hc : CU B v n a w') (hb : 0 ≤ a ∧ a ≤ 900000000) (hm : m ≤ 1000) => Lib.hid (pick_any B v n a m w' hc hb (by omega))
  have hD := fun a w' Q b k cap xs (hc : CU B v n a w') (hb' : 0 ≤ a ∧ a ≤ 500000000) (hQ : 1 ≤ Q ∧ Q ≤ 10) (hk : 0 < k) (hk2 : k ≤ 100) (hkc : k ≤ cap) (hb : b ≠ B) (hbl : b < w'.heap.size) hx => Lib.hid (curBuilt_any B v n a w' hc hb' Q hQ M hM b k cap xs hk hk2 hkc hb hbl hx)
  clear h
  go_enter Try.func35, Try.ntmps35
  go_wp2_with fail
  refine ((hP _ _ _ (HC.out.box _) (by omega) (by omega)).out).mono ?_
  rintro e w1 ⟨y1, a1, rfl, p1, q1, r1, s1, hg1, hc1⟩
  have HC1 := Lib.hid hc1
  have HG1 := Lib.hid ((GX.refl [B] _).trans (GX.ofGrown hg1))
  clear hg1 hc1
  have hy1 : y1 ≤ 2 := by omega
  have HB0 := Lib.hid (box_kept hl HG1.out)
  have hl1 : w.heap.size < w1.heap.size := (Array.getElem?_eq_some_iff.1 HB0.out).1
  clear q1
  go_wp2_with fail
  refine ((hD _ _ (2 + y1) w1.heap.size 12 12 [1, 2, 4, 5, 7, 7, 8, 9, 9, 9, 10, 12] (HC1.out.box _) (by omega) (by omega) (by decide) (by decide) (by decide) (by omega) (by simp) (fun i hi => lit_at (cs := [1, 2, 4, 5, 7, 7, 8, 9, 9, 9, 10, 12]) (t := 3) (heap_alloc_new _ _) i hi)).out).mono ?_
  rintro e w2 ⟨N, vm, L, a2, rfl, hN, hL, ho, r2, s2, hg2, hc2⟩
  obtain ⟨av, cv, rfl, _, _, _⟩ := own_shape ho
  have HG2 := Lib.hid (GX.ofGrown hg2)
  have HO := Lib.hid ho
  have HC2 := Lib.hid hc2
  have hB02 := (HG2.out.heap (k := w.heap.size) (by simp; omega) (by simp; omega)).trans (heap_alloc_lt HB0.out)
  have z0 := fun k => cell_of_row _ _ k _ _ _ hB02
  have f0 := fun k => frozen_of_row _ _ k _ _ hB02
  have l0 := (Array.getElem?_eq_some_iff.1 hB02).1
  clear hB02 hg2 ho hc2
  go_wp2
  refine bodyPost_ret (v := .agg #[.int .i64 (2 + y1), .slice av N cv]) (by simp [results, Try.results35, go_sem, *]) rfl ?_
  refine ⟨_, _, rfl, by omega, N, L, a2, hN, hL, own_base (own_set (own_set HO.out (by simp; omega) _) (by simp; omega) _) (by simp; omega), by omega, by omega, GX.toGrown ?_, (HC2.out.set (by exact hl) _).set (by exact hl) _⟩
  have hg : GX [B] w w2 := ((((GX.refl [B] w).alloc _).trans HG1.out).alloc _).trans HG2.out
  exact (by repeat (first | (with_reducible refine GX.setCell ?_ (by first | (simp; done) | (simp; omega)) _) | with_reducible refine GX.alloc ?_ _ | with_reducible refine GX.drew ?_ | with_reducible refine GX.drewN ?_ _ | with_reducible assumption | with_reducible exact GX.refl _ _ | with_reducible refine GX.ext ?_ (by with_reducible assumption) | with_reducible refine GX.trans ?_ (by with_reducible assumption)))

/-- a drawn circuit: few gates, own -/
def DT (lo k : Nat) (q : Int) (vm : Value) (w' : World) : Prop := ∃ (N : Nat) (L : List Int), N ≤ k ∧ L.length = N * 3 ∧ w'.ownsRow lo 47 3 vm N (IL L)

set_option maxRecDepth 20000 in
set_option maxHeartbeats 8000000 in
theorem drawLayersOf_any (v : Value) (n : Nat) (w : World) (h : BY w.heap.size w v n) :
    Calls Try.prog 43 #[v] w fun e w' => ∃ (q : Int) (vm : Value), e = .returned (.agg #[.int .i64 q, vm]) ∧ (0 ≤ q ∧ q ≤ 10) ∧ DT w.heap.size 10 q vm w' ∧ Ext w w' := by
  have HC := Lib.hid (cu_newT h (.cells #[.int .i64 0, .slice none 0 0] 25))
  have hO := fun a m w' (hc : CU (w.heap.size + 1) v n a w') (hb : 0 ≤ a ∧ a ≤ 900000000) (hm : m ≤ 65536) => Lib.hid (one_any (w.heap.size + 1) v n a m w' hc hb hm)
  have hA := fun a w' (hc : CU (w.heap.size + 1) v n a w') (hb : 0 ≤ a ∧ a ≤ 300000000) => Lib.hid (curAnyCircuit_any (w.heap.size + 1) v n a w' hc hb)
  have hF := fun a w' (hc : CU (w.heap.size + 1) v n a w') (hb : 0 ≤ a ∧ a ≤ 300000000) => Lib.hid (curParallel_any (w.heap.size + 1) v n a w' hc (by omega) 10 (by omega))
  obtain ⟨ad, cap, rfl, -, -, -⟩ := h
  go_enter Try.func43, Try.ntmps43
  go_wp2_with fail
  refine ((hO _ _ _ HC.out (by omega) (by omega)).out).mono ?_
  rintro e w1 ⟨y1, a1, rfl, r1, s1, hg1, hc1⟩
  have HC1 := Lib.hid hc1
  have HG1 := Lib.hid ((((GX.refl [w.heap.size + 1] (w.alloc (.cells #[.int .i64 0, .slice none 0 0] 25))).alloc _)).trans (GX.ofGrown hg1))
  clear hg1 hc1
  have hl1 : w.heap.size + 1 < w1.heap.size := HC1.out.lt
  cases y1
  · go_wp2_with fail
    refine ((hF _ _ HC1.out (by omega)).out).mono ?_
    rintro e w2 ⟨q, vm, rfl, hq, N, L, a2, hN, hL, ho, r2, s2, hg2, hc2⟩
    obtain ⟨av, cv, rfl, _, _, _⟩ := own_shape ho
    have HO := Lib.hid ho
    have HG2 : Hid (GX [w.heap.size + 1] (w.alloc (.cells #[.int .i64 0, .slice none 0 0] 25)) w2) := HG1.out.trans (GX.ofGrown hg2)
    have hb0 : w2.heap[w.heap.size]? = some (.cells #[.int .i64 0, .slice none 0 0] 25 (0, 0)) := (HG2.out.heap (k := w.heap.size) (by simp) (by simp)).trans (heap_alloc_new _ _)
    have z0 := fun k => cell_of_row _ _ k _ _ _ hb0
    have f0 := fun k => frozen_of_row _ _ k _ _ hb0
    have l0 := (Array.getElem?_eq_some_iff.1 hb0).1
    have hx : Hid (Ext w w2) := (((GX.refl [w.heap.size + 1] w).alloc _).trans HG2.out).toExt (by simp)
    clear hb0 hg2 hc2 ho
    go_wp2
    refine bodyPost_ret (v := .agg #[.int .i64 q, .slice av N cv]) (by simp [results, Try.results43, go_sem, *]) rfl ?_
    have hx' := hx.out
    exact ⟨_, _, rfl, by omega, ⟨N, L, by omega, hL, own_base (own_set (own_set HO.out (by simp; omega) _) (by simp; omega) _) (by omega)⟩, (by repeat (first | (with_reducible refine Ext.setCell ?_ (by first | (simp; done) | (simp; omega)) _) | with_reducible refine Ext.alloc ?_ _ | with_reducible refine Ext.drew ?_ | with_reducible refine Ext.drewN ?_ _ | with_reducible assumption | with_reducible exact Ext.refl _ | with_reducible refine Ext.trans ?_ (by with_reducible assumption)))⟩
  · go_wp2_with fail
    refine ((hA _ _ HC1.out (by omega)).out).mono ?_
    rintro e w2 ⟨q, vm, rfl, hq, N, L, a2, hN, hL, ho, r2, s2, hg2, hc2⟩
    obtain ⟨av, cv, rfl, _, _, _⟩ := own_shape ho
    have HO := Lib.hid ho
    have HG2 : Hid (GX [w.heap.size + 1] (w.alloc (.cells #[.int .i64 0, .slice none 0 0] 25)) w2) := HG1.out.trans (GX.ofGrown hg2)
    have hb0 : w2.heap[w.heap.size]? = some (.cells #[.int .i64 0, .slice none 0 0] 25 (0, 0)) := (HG2.out.heap (k := w.heap.size) (by simp) (by simp)).trans (heap_alloc_new _ _)
    have z0 := fun k => cell_of_row _ _ k _ _ _ hb0
    have f0 := fun k => frozen_of_row _ _ k _ _ hb0
    have l0 := (Array.getElem?_eq_some_iff.1 hb0).1
    have hx : Hid (Ext w w2) := (((GX.refl [w.heap.size + 1] w).alloc _).trans HG2.out).toExt (by simp)
    clear hb0 hg2 hc2 ho
    go_wp2
    refine bodyPost_ret (v := .agg #[.int .i64 q, .slice av N cv]) (by simp [results, Try.results43, go_sem, *]) rfl ?_
    have hx' := hx.out
    exact ⟨_, _, rfl, by omega, ⟨N, L, by omega, hL, own_base (own_set (own_set HO.out (by simp; omega) _) (by simp; omega) _) (by omega)⟩, (by repeat (first | (with_reducible refine Ext.setCell ?_ (by first | (simp; done) | (simp; omega)) _) | with_reducible refine Ext.alloc ?_ _ | with_reducible refine Ext.drew ?_ | with_reducible refine Ext.drewN ?_ _ | with_reducible assumption | with_reducible exact Ext.refl _ | with_reducible refine Ext.trans ?_ (by with_reducible assumption)))⟩

set_option maxRecDepth 20000 in
theorem drawFoataOf_any (v : Value) (n : Nat) (w : World) (h : BY w.heap.size w v n) :
    Calls Try.prog 16 #[v] w fun e w' => ∃ (q : Int) (vm : Value), e = .returned (.agg #[.int .i64 q, vm]) ∧ (0 ≤ q ∧ q ≤ 10) ∧ DT w.heap.size 10 q vm w' ∧ Ext w w' := by
  have hD := fun w' (hx : Ext w w') => Lib.hid (drawLayersOf_any v n w' (h.later hx))
  obtain ⟨ad, cap, rfl, -, -, -⟩ := h
  go_enter Try.func16, Try.ntmps16
  go_wp2_with fail
  refine ((hD _ (by repeat (first | (with_reducible refine Ext.setCell ?_ (by first | (simp; done) | (simp; omega)) _) | with_reducible refine Ext.alloc ?_ _ | with_reducible refine Ext.drew ?_ | with_reducible refine Ext.drewN ?_ _ | with_reducible assumption | with_reducible exact Ext.refl _ | with_reducible refine Ext.trans ?_ (by with_reducible assumption)))).out).mono ?_
  rintro e w1 ⟨q, vm, rfl, hq, ⟨N, L, hN, hL, ho⟩, hx1⟩
  obtain ⟨av, cv, rfl, _, _, _⟩ := own_shape ho
  have HO := Lib.hid ho
  have hb0 : w1.heap[w.heap.size]? = some (.cells #[.int .i64 0, .slice none 0 0] 25 (0, 0)) := (hx1.heap (k := w.heap.size) (by simp)).trans (heap_alloc_new _ _)
  have z0 := fun k => cell_of_row _ _ k _ _ _ hb0
  have f0 := fun k => frozen_of_row _ _ k _ _ hb0
  have l0 := (Array.getElem?_eq_some_iff.1 hb0).1
  have hx : Hid (Ext w w1) := ((Ext.refl w).alloc _).trans hx1
  clear hb0 hx1 ho
  go_wp2
  refine bodyPost_ret (v := .agg #[.int .i64 q, .slice av N cv]) (by simp [results, Try.results16, go_sem, *]) rfl ?_
  have hx' := hx.out
  exact ⟨_, _, rfl, hq, ⟨N, L, hN, hL, own_base (own_set (own_set HO.out (by simp) _) (by simp) _) (by simp)⟩, (by repeat (first | (with_reducible refine Ext.setCell ?_ (by first | (simp; done) | (simp; omega)) _) | with_reducible refine Ext.alloc ?_ _ | with_reducible refine Ext.drew ?_ | with_reducible refine Ext.drewN ?_ _ | with_reducible assumption | with_reducible exact Ext.refl _ | with_reducible refine Ext.trans ?_ (by with_reducible assumption)))⟩

end Go.Proofs.Ytbddgeoaaklgpaa
