/- The draw of any circuit. -/
import Derived.Test.YtbddgeoaaklgpaaQwJ
import Derived.Test.YtbddgeoaaklgpaaQwG
namespace Go.Proofs.Ytbddgeoaaklgpaa
open Go.RowKit Go.Lib
set_option linter.unusedVariables false
set_option linter.unusedSimpArgs false

/-- the cursor, at most c on from a place -/
def CUb (B : Nat) (v : Value) (n : Nat) (a0 : Int) (c : Nat) (w : World) : Prop := ∃ a, a0 ≤ a ∧ a ≤ a0 + c ∧ CU B v n a w
theorem CUb.keep {B : Nat} {v : Value} {n : Nat} {a0 : Int} {c : Nat} {w w' : World} (h : CUb B v n a0 c w) (hx : Ext w w') : CUb B v n a0 c w' := by
  obtain ⟨a, h1, h2, h3⟩ := h
  exact ⟨a, h1, h2, h3.keep hx⟩
theorem pick_b (B : Nat) (v : Value) (n : Nat) (a0 : Int) (h0 : 0 ≤ a0 ∧ a0 ≤ 500000000) (m : Int) (hm : 1 ≤ m ∧ m ≤ 100) (c : Nat) (hc : c ≤ 1000) (w : World) (h : CUb B v n a0 c w) :
    Hid (Calls Try.prog 39 #[.pointer (some ⟨B, 0, none⟩), .int .i64 m] w fun e w' => ∃ y : Int, e = .returned (.int .i64 y) ∧ 0 ≤ y ∧ y < m ∧ GX [B] w w' ∧ CUb B v n a0 (c + 2) w') := by
  obtain ⟨a, h1, h2, h3⟩ := h
  refine Lib.hid ((pick_any B v n a m w h3 (by omega) (by omega)).mono ?_)
  rintro e w' ⟨y, a2, rfl, p, q, r, s, hg, hc⟩
  exact ⟨y, rfl, p, by omega, GX.ofGrown hg, a2, by omega, by push_cast; omega, hc⟩

set_option maxRecDepth 20000 in
set_option maxHeartbeats 8000000 in
theorem curAnyCircuit_any (B : Nat) (v : Value) (n : Nat) (at' : Int) (w : World) (h : CU B v n at' w) (ha : 0 ≤ at' ∧ at' ≤ 300000000) :
    Calls Try.prog 37 #[.pointer (some ⟨B, 0, none⟩)] w fun e w' => ∃ (q : Int) (vm : Value), e = .returned (.agg #[.int .i64 q, vm]) ∧ (0 ≤ q ∧ q ≤ 10) ∧ DCk w.heap.size 9 400 q vm B v n at' w w' := by
  have hl := h.lt
  have HC := Lib.hid h
  have hP := fun m a w' (hc : CU B v n a w') (hb : 0 ≤ a ∧ a ≤ 900000000) (hm : m ≤ 1000) => Lib.hid (pick_any B v n a m w' hc hb (by omega))
  have hA := fun a w' (hc : CU B v n a w') (hb : 0 ≤ a ∧ a ≤ 900000000) b k cap xs hk hk2 hb' hbl hx => Lib.hid (among_any B v n a w' hc hb b k cap xs hk hk2 hb' hbl hx)
  have hD := fun a w' (hc : CU B v n a w') (hb' : 0 ≤ a ∧ a ≤ 400000000) => Lib.hid (curCircuit_any B v n a w' hc hb')
  clear h
  go_enter Try.func37, Try.ntmps37
  go_wp2_with fail
  refine ((hD _ _ (HC.out.box _) (by omega)).out).mono ?_
  rintro e w1 ⟨q, vm, rfl, hq, N, L, a1, hN, hL, ho, r1, s1, hg1, hc1⟩
  obtain ⟨av, cv, rfl, _, _, _⟩ := own_shape ho
  have HO := Lib.hid ho
  have HC1 := Lib.hid hc1
  have HG1 := Lib.hid (GX.ofGrown hg1)
  have HB0 := Lib.hid (box_kept hl HG1.out)
  have hl1 : w.heap.size < w1.heap.size := (Array.getElem?_eq_some_iff.1 HB0.out).1
  clear hg1 hc1 ho
  go_wp2_with fail
  refine ((hP _ _ _ (HC1.out.box _) (by omega) (by omega)).out).mono ?_
  rintro e w2 ⟨y2, a2, rfl, p2, q2, r2, s2, hg2, hc2⟩
  have HC2 := Lib.hid hc2
  have HG2 := Lib.hid ((GX.refl [B] _).trans (GX.ofGrown hg2))
  clear hg2 hc2
  have HB3 : Hid (w2.heap[w1.heap.size]? = some (.cells #[.int .i64 q, .slice av N cv] 25 (0, 0))) := Lib.hid ((HG2.out.heap (by simp) (by simp; omega)).trans (heap_alloc_at _ _ _ (by simp)))
  have HB02 := Lib.hid ((HG2.out.heap (k := w.heap.size) (by simp; omega) (by simp; omega)).trans (heap_alloc_lt HB0.out))
  have HO2 : Hid (w2.ownsRow (w.heap.size + 1) 47 3 (.slice av N cv) N (IL L)) := Lib.hid (own_gx (own_ext (own_base HO.out (by simp)) ((Ext.refl w1).alloc _)) HG2.out (by simp; omega))
  have hvb : ∀ k, (Value.slice av N cv).ownBlock = some k → k < w1.heap.size := fun k hk => (HO.out.lt k hk).2
  have HVB := Lib.hid hvb
  have HGA : Hid (GX [B] w w2) := Lib.hid (((((GX.refl [B] w).alloc _).trans HG1.out).alloc _).trans HG2.out)
  have z3 := fun k => cell_of_row _ _ k _ _ _ HB3.out
  have f3 := fun k => frozen_of_row _ _ k _ _ HB3.out
  have l3 := (Array.getElem?_eq_some_iff.1 HB3.out).1
  have z0 := fun k => cell_of_row _ _ k _ _ _ HB02.out
  have f0 := fun k => frozen_of_row _ _ k _ _ HB02.out
  have l0 := (Array.getElem?_eq_some_iff.1 HB02.out).1
  have hne : w.heap.size ≠ w1.heap.size := by omega
  clear hvb HB0 HO HC1 HG1 HG2 q2
  by_cases h0 : y2 = 0
  · subst h0
    go_wp2_with fail
    refine ((hA _ _ (HC2.out.box _) (by omega) w2.heap.size 4 4 [0, 1, 5, 6] (by decide) (by decide) (by omega) (by simp) (fun i hi => lit_at (cs := [0, 1, 5, 6]) (t := 3) (heap_alloc_new _ _) i hi)).out).mono ?_
    rintro e w4 ⟨i, a4, hi, rfl, r4, s4, hg4, hc4⟩
    have hq4 : 0 ≤ ([0, 1, 5, 6] : List Int).getD i 0 ∧ ([0, 1, 5, 6] : List Int).getD i 0 ≤ 6 := by
      have : i = 0 ∨ i = 1 ∨ i = 2 ∨ i = 3 := by omega
      rcases this with rfl | rfl | rfl | rfl <;> decide
    generalize ([0, 1, 5, 6] : List Int).getD i 0 = q4 at *
    have HC4 := Lib.hid hc4
    have HG4 := Lib.hid (GX.ofGrown hg4)
    have HB34 := Lib.hid ((HG4.out.heap (k := w1.heap.size) (by simp; omega) (by simp; omega)).trans (heap_alloc_lt HB3.out))
    have HB04 := Lib.hid ((HG4.out.heap (k := w.heap.size) (by simp; omega) (by simp; omega)).trans (heap_alloc_lt HB02.out))
    have HO4 : Hid (w4.ownsRow (w.heap.size + 1) 47 3 (.slice av N cv) N (IL L)) := Lib.hid (own_gx (own_ext HO2.out ((Ext.refl w2).alloc _)) HG4.out (by simp; omega))
    have z34 := fun k => cell_of_row _ _ k _ _ _ HB34.out
    have f34 := fun k => frozen_of_row _ _ k _ _ HB34.out
    have l34 := (Array.getElem?_eq_some_iff.1 HB34.out).1
    have z04 := fun k => cell_of_row _ _ k _ _ _ HB04.out
    have f04 := fun k => frozen_of_row _ _ k _ _ HB04.out
    have l04 := (Array.getElem?_eq_some_iff.1 HB04.out).1
    have hl1' : B < w1.heap.size := by omega
    clear hg4 hc4 z3 f3 z0 f0
    go_wp2
    refine bodyPost_ret (v := .agg #[.int .i64 q4, .slice av N cv]) (by simp [results, Try.results37, go_sem, *]) rfl ?_
    refine ⟨_, _, rfl, by omega, N, L, a4, by omega, hL, own_base (own_set (own_set (own_setQ HO4.out (fun k hk => by have := HVB.out k hk; show k ≠ w1.heap.size; omega) _) (by simp) _) (by simp) _) (by omega), by omega, by omega, GX.toGrown ?_, ((HC4.out.set (by exact hl1') _).set (by exact hl) _).set (by exact hl) _⟩
    have hg : GX [B] w w4 := (HGA.out.alloc _).trans HG4.out
    exact (by repeat (first | (with_reducible refine GX.setCell ?_ (by first | (simp; done) | (simp; omega)) _) | with_reducible refine GX.alloc ?_ _ | with_reducible refine GX.drew ?_ | with_reducible refine GX.drewN ?_ _ | with_reducible assumption | with_reducible exact GX.refl _ _ | with_reducible refine GX.ext ?_ (by with_reducible assumption) | with_reducible refine GX.trans ?_ (by with_reducible assumption)))
  by_cases h1 : y2 = 1
  · subst h1
    have tA : 0 = 0 := rfl
    have tB : 1 = 1 := rfl
    have tC : 2 = 2 := rfl
    have hA2 : 0 ≤ a2 ∧ a2 ≤ 500000000 := by omega
    have HCx : Hid (CUb B v n a2 0 w2) := Lib.hid ⟨a2, by omega, by simp, HC2.out⟩
    have HGx : Hid (GX [B] w2 w2) := Lib.hid (GX.refl _ _)
    go_upto_region 6 with fail
    go_region_law
          (first
           | (have _t := tA
              refine step_callsQ rfl ?_ (by first | exact (pick_b B v n a2 hA2 14 (by decide) _ (by decide) _ HCx.out).out | exact (pick_b B v n a2 hA2 14 (by decide) _ (by decide) _ (CUb.keep HCx.out (Ext.refl w2).drew)).out) ?_
              · go_simp
              rintro e w5 ⟨x4, rfl, px4, qx4, hg5, hc5⟩
              refine ⟨_, rfl, ?_⟩
              have HGx : Hid (GX [B] w2 w5) := Lib.hid (by first | exact HGx.out.trans hg5 | exact HGx.out.drew.trans hg5)
              have HCx := Lib.hid hc5
              have HB35 : Hid (w5.heap[w1.heap.size]? = some (.cells #[.int .i64 q, .slice av N cv] 25 (0, 0))) := (HGx.out.heap l3 (by simp; omega)).trans HB3.out
              have z35 : ∀ k, w5.cell? ⟨w1.heap.size, k, none⟩ = (#[.int .i64 q, .slice av N cv] : Array Value)[k]? := fun k => cell_of_row _ _ k _ _ _ HB35.out
              have HO5 : Hid (w5.ownsRow (w.heap.size + 1) 47 3 (.slice av N cv) N (IL L)) := own_gx HO2.out HGx.out (by simp; omega)
              have l35 : w1.heap.size < w5.heap.size := (Array.getElem?_eq_some_iff.1 HB35.out).1
              clear hg5 hc5 tA)
           | (have _t := tB
              refine step_callsQ rfl ?_ (by first | exact (pick_b B v n a2 hA2 4 (by decide) _ (by decide) _ HCx.out).out | exact (pick_b B v n a2 hA2 4 (by decide) _ (by decide) _ (CUb.keep HCx.out (Ext.refl w2).drew)).out) ?_
              · go_simp
              rintro e w5 ⟨x5, rfl, px5, qx5, hg5, hc5⟩
              refine ⟨_, rfl, ?_⟩
              have HGx : Hid (GX [B] w2 w5) := Lib.hid (by first | exact HGx.out.trans hg5 | exact HGx.out.drew.trans hg5)
              have HCx := Lib.hid hc5
              have HB35 : Hid (w5.heap[w1.heap.size]? = some (.cells #[.int .i64 q, .slice av N cv] 25 (0, 0))) := (HGx.out.heap l3 (by simp; omega)).trans HB3.out
              have z35 : ∀ k, w5.cell? ⟨w1.heap.size, k, none⟩ = (#[.int .i64 q, .slice av N cv] : Array Value)[k]? := fun k => cell_of_row _ _ k _ _ _ HB35.out
              have HO5 : Hid (w5.ownsRow (w.heap.size + 1) 47 3 (.slice av N cv) N (IL L)) := own_gx HO2.out HGx.out (by simp; omega)
              have l35 : w1.heap.size < w5.heap.size := (Array.getElem?_eq_some_iff.1 HB35.out).1
              clear hg5 hc5 tB)
           | (have _t := tC
              refine step_callsQ rfl ?_ (by first | exact (pick_b B v n a2 hA2 4 (by decide) _ (by decide) _ HCx.out).out | exact (pick_b B v n a2 hA2 4 (by decide) _ (by decide) _ (CUb.keep HCx.out (Ext.refl w2).drew)).out) ?_
              · go_simp
              rintro e w5 ⟨x6, rfl, px6, qx6, hg5, hc5⟩
              refine ⟨_, rfl, ?_⟩
              have HGx : Hid (GX [B] w2 w5) := Lib.hid (by first | exact HGx.out.trans hg5 | exact HGx.out.drew.trans hg5)
              have HCx := Lib.hid hc5
              have HB35 : Hid (w5.heap[w1.heap.size]? = some (.cells #[.int .i64 q, .slice av N cv] 25 (0, 0))) := (HGx.out.heap l3 (by simp; omega)).trans HB3.out
              have z35 : ∀ k, w5.cell? ⟨w1.heap.size, k, none⟩ = (#[.int .i64 q, .slice av N cv] : Array Value)[k]? := fun k => cell_of_row _ _ k _ _ _ HB35.out
              have HO5 : Hid (w5.ownsRow (w.heap.size + 1) 47 3 (.slice av N cv) N (IL L)) := own_gx HO2.out HGx.out (by simp; omega)
              have l35 : w1.heap.size < w5.heap.size := (Array.getElem?_eq_some_iff.1 HB35.out).1
              clear hg5 hc5 tC)
           | (refine step_append_rvt (base := w.heap.size + 1) rfl elt_FG rfl (.slice av N cv) N L rfl ?_ (.slice (some ⟨w5.heap.size, 0, none⟩) 1 1) 1 [x4, IntKind.i64.wrap (x5 - 1), IntKind.i64.wrap (x6 - 1)] rfl ?_ ?_ ?_ ?_
              · exact own_ext HO5.out ((Ext.refl _).alloc _)
              · exact rv_heap (heap_alloc_new _ _) rfl rfl (by omega) (by decide)
              · omega
              · (simp; omega)
              intro v6 w6 hown6 hgrow6 hiff6 hloc6
              obtain ⟨a6, c6, rfl, _, _, _⟩ := own_shape hown6
              have HO6 : Hid (∃ L2 : List Int, L2.length = (N + 1) * 3 ∧ w6.ownsRow (w.heap.size + 1) 47 3 (.slice a6 (N + 1) c6) (N + 1) (IL L2)) := Lib.hid ⟨_, by rw [List.length_append, hL]; simp; omega, hown6⟩
              have hfar : ∀ k, (Value.slice av N cv).ownBlock = some k → w.heap.size + 1 ≤ k := fun k hk => (HO5.out.lt k hk).1
              have own_ne : ∀ k, (Value.slice a6 (N + 1) c6).ownBlock = some k → k ≠ w1.heap.size := fun k hk => by
                rcases hloc6 with hq6 | hq6
                · have := HVB.out k (hq6.symm.trans hk); omega
                · rw [hq6] at hk; cases hk; simp; omega
              have HB36 : Hid (w6.heap[w1.heap.size]? = some (.cells #[.int .i64 q, .slice av N cv] 25 (0, 0))) := heap_grown hgrow6 (heap_alloc_lt HB35.out) (fun e => by have := HVB.out _ e.symm; omega)
              have HB06 : Hid (w6.heap[w.heap.size]? = some (.cells #[.int .i64 0, .slice none 0 0] 25 (0, 0))) := heap_grown hgrow6 (heap_alloc_lt ((HGx.out.heap l0 (by simp; omega)).trans HB02.out)) (fun e => by have := hfar _ e.symm; omega)
              have HC6 : Hid (∃ a, a2 ≤ a ∧ a ≤ a2 + 20 ∧ CU B v n a w6) := by
                obtain ⟨a9, b1, b2, hcu⟩ := HCx.out
                exact Lib.hid ⟨a9, b1, by have : ((0 + 2 + 2 + 2 : Nat) : Int) ≤ 20 := by decide
                                          omega, CU.rowQ (hcu.box _) hgrow6 (fun k hk => by have := hfar _ hk; omega)⟩
              have HG6 : Hid (GX [B] w w6) := gx_rowQ ((HGA.out.trans HGx.out).alloc _) hgrow6 (fun k hk => by have := hfar _ hk; omega)
              have z36 : ∀ k, w6.cell? ⟨w1.heap.size, k, none⟩ = (#[.int .i64 q, .slice av N cv] : Array Value)[k]? := fun k => cell_of_row _ _ k _ _ _ HB36.out
              have f36 : ∀ k, w6.frozen? ⟨w1.heap.size, k, none⟩ = false := fun k => frozen_of_row _ _ k _ _ HB36.out
              have l36 : w1.heap.size < w6.heap.size := (Array.getElem?_eq_some_iff.1 HB36.out).1
              have z06 : ∀ k, w6.cell? ⟨w.heap.size, k, none⟩ = (#[.int .i64 0, .slice none 0 0] : Array Value)[k]? := fun k => cell_of_row _ _ k _ _ _ HB06.out
              have f06 : ∀ k, w6.frozen? ⟨w.heap.size, k, none⟩ = false := fun k => frozen_of_row _ _ k _ _ HB06.out
              have l06 : w.heap.size < w6.heap.size := (Array.getElem?_eq_some_iff.1 HB06.out).1
              clear hown6 hgrow6 hiff6 hloc6 hfar)
           | (refine step_append_rvt (base := w.heap.size + 1) rfl elt_FG rfl (.slice av N cv) N L rfl ?_ (.slice (some ⟨w5.heap.size, 0, none⟩) 1 1) 1 [x4, IntKind.i64.wrap (x6 - 1), IntKind.i64.wrap (x5 - 1)] rfl ?_ ?_ ?_ ?_
              · exact own_ext HO5.out ((Ext.refl _).alloc _)
              · exact rv_heap (heap_alloc_new _ _) rfl rfl (by omega) (by decide)
              · omega
              · (simp; omega)
              intro v6 w6 hown6 hgrow6 hiff6 hloc6
              obtain ⟨a6, c6, rfl, _, _, _⟩ := own_shape hown6
              have HO6 : Hid (∃ L2 : List Int, L2.length = (N + 1) * 3 ∧ w6.ownsRow (w.heap.size + 1) 47 3 (.slice a6 (N + 1) c6) (N + 1) (IL L2)) := Lib.hid ⟨_, by rw [List.length_append, hL]; simp; omega, hown6⟩
              have hfar : ∀ k, (Value.slice av N cv).ownBlock = some k → w.heap.size + 1 ≤ k := fun k hk => (HO5.out.lt k hk).1
              have own_ne : ∀ k, (Value.slice a6 (N + 1) c6).ownBlock = some k → k ≠ w1.heap.size := fun k hk => by
                rcases hloc6 with hq6 | hq6
                · have := HVB.out k (hq6.symm.trans hk); omega
                · rw [hq6] at hk; cases hk; simp; omega
              have HB36 : Hid (w6.heap[w1.heap.size]? = some (.cells #[.int .i64 q, .slice av N cv] 25 (0, 0))) := heap_grown hgrow6 (heap_alloc_lt HB35.out) (fun e => by have := HVB.out _ e.symm; omega)
              have HB06 : Hid (w6.heap[w.heap.size]? = some (.cells #[.int .i64 0, .slice none 0 0] 25 (0, 0))) := heap_grown hgrow6 (heap_alloc_lt ((HGx.out.heap l0 (by simp; omega)).trans HB02.out)) (fun e => by have := hfar _ e.symm; omega)
              have HC6 : Hid (∃ a, a2 ≤ a ∧ a ≤ a2 + 20 ∧ CU B v n a w6) := by
                obtain ⟨a9, b1, b2, hcu⟩ := HCx.out
                exact Lib.hid ⟨a9, b1, by have : ((0 + 2 + 2 + 2 : Nat) : Int) ≤ 20 := by decide
                                          omega, CU.rowQ (hcu.box _) hgrow6 (fun k hk => by have := hfar _ hk; omega)⟩
              have HG6 : Hid (GX [B] w w6) := gx_rowQ ((HGA.out.trans HGx.out).alloc _) hgrow6 (fun k hk => by have := hfar _ hk; omega)
              have z36 : ∀ k, w6.cell? ⟨w1.heap.size, k, none⟩ = (#[.int .i64 q, .slice av N cv] : Array Value)[k]? := fun k => cell_of_row _ _ k _ _ _ HB36.out
              have f36 : ∀ k, w6.frozen? ⟨w1.heap.size, k, none⟩ = false := fun k => frozen_of_row _ _ k _ _ HB36.out
              have l36 : w1.heap.size < w6.heap.size := (Array.getElem?_eq_some_iff.1 HB36.out).1
              have z06 : ∀ k, w6.cell? ⟨w.heap.size, k, none⟩ = (#[.int .i64 0, .slice none 0 0] : Array Value)[k]? := fun k => cell_of_row _ _ k _ _ _ HB06.out
              have f06 : ∀ k, w6.frozen? ⟨w.heap.size, k, none⟩ = false := fun k => frozen_of_row _ _ k _ _ HB06.out
              have l06 : w.heap.size < w6.heap.size := (Array.getElem?_eq_some_iff.1 HB06.out).1
              clear hown6 hgrow6 hiff6 hloc6 hfar))
    all_goals
      go_wp2
      refine bodyPost_ret (v := .agg #[.int .i64 q, .slice a6 (N + 1) c6]) (by simp [results, Try.results37, go_sem, *]) rfl ?_
      obtain ⟨L2, hL2, hO2⟩ := HO6.out
      obtain ⟨a9, b1, b2, hcu⟩ := HC6.out
      have hl1' : B < w1.heap.size := by omega
      refine ⟨_, _, rfl, by omega, N + 1, L2, a9, by omega, hL2, own_base (own_set (own_set (own_setQ hO2 (fun k hk => by have := own_ne k hk; exact this) _) (by simp) _) (by simp) _) (by omega), by omega, by omega, GX.toGrown ?_, ((hcu.set (by exact hl1') _).set (by exact hl) _).set (by exact hl) _⟩
      have hg : GX [B] w w6 := HG6.out
      exact (by repeat (first | (with_reducible refine GX.setCell ?_ (by first | (simp; done) | (simp; omega)) _) | with_reducible refine GX.alloc ?_ _ | with_reducible refine GX.drew ?_ | with_reducible refine GX.drewN ?_ _ | with_reducible assumption | with_reducible exact GX.refl _ _ | with_reducible refine GX.ext ?_ (by with_reducible assumption) | with_reducible refine GX.trans ?_ (by with_reducible assumption)))
  have e0 : (y2 == 0) = false := by simpa using h0
  have e1 : (y2 == 1) = false := by simpa using h1
  go_wp2
  refine bodyPost_ret (v := .agg #[.int .i64 q, .slice av N cv]) (by simp [results, Try.results37, go_sem, *]) rfl ?_
  refine ⟨_, _, rfl, by omega, N, L, a2, by omega, hL, own_base (own_set (own_set HO2.out (by simp) _) (by simp) _) (by omega), by omega, by omega, GX.toGrown ?_, (HC2.out.set (by exact hl) _).set (by exact hl) _⟩
  have hg := HGA.out
  exact (by repeat (first | (with_reducible refine GX.setCell ?_ (by first | (simp; done) | (simp; omega)) _) | with_reducible refine GX.alloc ?_ _ | with_reducible refine GX.drew ?_ | with_reducible refine GX.drewN ?_ _ | with_reducible assumption | with_reducible exact GX.refl _ _ | with_reducible refine GX.ext ?_ (by with_reducible assumption) | with_reducible refine GX.trans ?_ (by with_reducible assumption)))

end Go.Proofs.Ytbddgeoaaklgpaa
