/- Draws of dyadic numbers: the powers of the eighth root, any dyadic number. -/
import Derived.Test.YtamiploliebplaaDoorCrd
import Derived.Test.YtamiploliebplaaDoorDyA
import Derived.Test.YtamiploliebplaaDoorByt
import Derived.Deep.RegionWith
namespace Go.Proofs.YtamiploliebplaaDoor
open Go.RowKit Go.Lib
set_option linter.unusedVariables false
set_option linter.unusedSimpArgs false

set_option maxRecDepth 20000 in
set_option maxHeartbeats 1000000 in
theorem l1TurnOne_any (k : Int) (hk : 0 ≤ k ∧ k < 8) (w : World) :
    Calls Tryd.prog 37 #[.agg #[.int .i64 1, .int .i64 0, .int .i64 0, .int .i64 0], .int .i64 k] w fun e w' => ∃ a b c d : Int, e = .returned (.agg #[.int .i64 a, .int .i64 b, .int .i64 c, .int .i64 d]) ∧ Ext w w' := by
  have hm : Int.tmod k 8 = k := Int.tmod_eq_of_lt hk.1 hk.2
  have hm2 : 0 ≤ Int.tmod (k + 8) 8 ∧ Int.tmod (k + 8) 8 < 8 := ⟨Int.tmod_nonneg _ (by omega), Int.tmod_lt_of_pos _ (by omega)⟩
  go_enter Tryd.func37, Tryd.ntmps37
  go_wp2
  go_loopw [1] (fun uk wr => ∃ j a b c d : Int, uk = .int .i64 j ∧ (0 ≤ j ∧ j < 8) ∧ (-1 ≤ a ∧ a ≤ 1) ∧ (-1 ≤ b ∧ b ≤ 1) ∧ (-1 ≤ c ∧ c ≤ 1) ∧ (-1 ≤ d ∧ d ≤ 1) ∧ Ext w wr ∧ wr.heap[w.heap.size]? = some (.cells #[.int .i64 a, .int .i64 b, .int .i64 c, .int .i64 d] 40 (0, 0)) ∧ wr.heap[w.heap.size + 1]? = some (.cells #[.int .i64 0, .int .i64 0, .int .i64 0, .int .i64 0] 40 (0, 0))) (fun uk _ => (intOf uk).toNat)
  case atStart =>
    refine ⟨_, 1, 0, 0, 0, rfl, ?_, by omega, by omega, by omega, by omega, (by repeat (first | exact Ext.refl _ | assumption | refine Ext.alloc ?_ _ | refine Ext.drew ?_ | refine Ext.drewN ?_ _ | refine Ext.setCell ?_ (by first | omega | (dsimp only; omega) | (simp; done) | (simp; omega)) _ | refine Ext.trans ?_ (by assumption))), heap_alloc_lt (heap_alloc_new _ _), heap_alloc_at _ _ _ (by simp)⟩
    first | exact hm2 | omega
  case round =>
    obtain ⟨j, a, b, c, d, rfl, q0, q1, q2, q3, q4, hx, hb, hr⟩ := hrel
    have hc : ∀ k, wr.cell? ⟨w.heap.size, k, none⟩ = (#[.int .i64 a, .int .i64 b, .int .i64 c, .int .i64 d] : Array Value)[k]? := fun k => cell_of_row _ _ _ _ _ _ hb
    have hf : ∀ k, wr.frozen? ⟨w.heap.size, k, none⟩ = false := fun k => frozen_of_row _ _ _ _ _ hb
    have hcr : ∀ k, wr.cell? ⟨w.heap.size + 1, k, none⟩ = (#[.int .i64 0, .int .i64 0, .int .i64 0, .int .i64 0] : Array Value)[k]? := fun k => cell_of_row _ _ _ _ _ _ hr
    have hfr : ∀ k, wr.frozen? ⟨w.heap.size + 1, k, none⟩ = false := fun k => frozen_of_row _ _ _ _ _ hr
    have hs1 : w.heap.size + 1 < wr.heap.size := (Array.getElem?_eq_some_iff.1 hr).1
    have hl : w.heap.size < wr.heap.size := by omega
    have HB := Lib.hid hb
    have HR := Lib.hid hr
    clear hb hr hm hm2
    by_cases h0 : 0 < j
    · go_wp2
      go_roundw
      case rel => exact ⟨j - 1, -d, a, b, c, rfl, by omega, by omega, by omega, by omega, by omega, (by repeat (first | exact Ext.refl _ | assumption | refine Ext.alloc ?_ _ | refine Ext.drew ?_ | refine Ext.drewN ?_ _ | refine Ext.setCell ?_ (by first | omega | (dsimp only; omega) | (simp; done) | (simp; omega)) _ | refine Ext.trans ?_ (by assumption))), heap_set_at (heap_set_at (heap_set_at (heap_set_at HB.out 0 _) 1 _) 2 _) 3 _, (by repeat (first | (with_reducible exact HR.out) | (with_reducible refine heap_set_ne (by first | (simp; done) | (simp; omega)) ?_) | (with_reducible refine heap_alloc_lt ?_)))⟩
      case measure => simp [intOf]; omega
    · go_wp2
      refine bodyPost_ret (v := .agg #[.int .i64 a, .int .i64 b, .int .i64 c, .int .i64 d]) (by simp [results, Tryd.results37, go_sem, *]) rfl ?_
      exact ⟨⟨_, _, _, _, rfl⟩, (by repeat (first | (with_reducible refine Ext.setCell ?_ (by first | (simp; done) | (simp; omega)) _) | with_reducible refine Ext.alloc ?_ _ | with_reducible refine Ext.drew ?_ | with_reducible refine Ext.drewN ?_ _ | with_reducible assumption | with_reducible exact Ext.refl _ | with_reducible refine Ext.trans ?_ (by with_reducible assumption)))⟩

theorem l2Power_any (k : Int) (hk : 0 ≤ k ∧ k < 8) (w : World) :
    Calls Tryd.prog 85 #[.int .i64 k] w fun e w' => ∃ a b c d : Int, e = .returned (.agg #[.int .i64 a, .int .i64 b, .int .i64 c, .int .i64 d, .int .i64 0]) ∧ Ext w w' := by
  have H := fun w' => Lib.hid (l1TurnOne_any k hk w')
  clear hk
  go_enter Tryd.func85, Tryd.ntmps85
  go_wp2_with fail
  refine ((H _).out).mono ?_
  rintro e w1 ⟨a, b, c, d, rfl, hx1⟩
  obtain ⟨hc1, hf1⟩ := hx1.cells
  have hz1 := hx1.size
  try simp at hz1
  have hs1_0 := sz1 (a := w.heap.size) (b := w1.heap.size) (by omega)
  go_wp2
  refine bodyPost_ret (v := .agg #[.int .i64 a, .int .i64 b, .int .i64 c, .int .i64 d, .int .i64 0]) (by simp [results, Tryd.results85, go_sem, *]) rfl ?_
  exact ⟨_, _, _, _, rfl, (by repeat (first | (with_reducible refine Ext.setCell ?_ (by first | (simp; done) | (simp; omega)) _) | with_reducible refine Ext.alloc ?_ _ | with_reducible refine Ext.drew ?_ | with_reducible refine Ext.drewN ?_ _ | with_reducible assumption | with_reducible exact Ext.refl _ | with_reducible refine Ext.trans ?_ (by with_reducible assumption)))⟩

theorem low_list (i : Nat) : ∃ k : Nat, k ≤ 60 ∧ List.getD [0, 3, 59, 60] i (0 : Int) = (k : Int) := by
  match i with
  | 0 => exact ⟨0, by omega, rfl⟩
  | 1 => exact ⟨3, by omega, rfl⟩
  | 2 => exact ⟨59, by omega, rfl⟩
  | 3 => exact ⟨60, by omega, rfl⟩
  | i + 4 => exact ⟨0, by omega, rfl⟩
set_option maxRecDepth 20000 in
set_option maxHeartbeats 2000000 in
theorem anyDyadic_any (B : Nat) (v : Value) (n : Nat) (at' : Int) (w : World) (h : CU B v n at' w) (ha : 0 ≤ at' ∧ at' ≤ 600000000) :
    Calls Tryd.prog 55 #[.pointer (some ⟨B, 0, none⟩)] w fun e w' => ∃ a b c d k at2 : Int, e = .returned (.agg #[.int .i64 a, .int .i64 b, .int .i64 c, .int .i64 d, .int .i64 k]) ∧ at' ≤ at2 ∧ at2 ≤ at' + 40 ∧ w.grownBy w' (some B) ∧ CU B v n at2 w' := by
  have hl := h.lt
  have HC := Lib.hid h
  have hP := fun a m w' (hc : CU B v n a w') (hb : 0 ≤ a ∧ a ≤ 900000000) (hm : m ≤ 65536) => Lib.hid (pick_any B v n a m w' hc hb hm)
  have hR := fun a w' (hc : CU B v n a w') (hb : 0 ≤ a ∧ a ≤ 800000000) => Lib.hid (curRing_any B v n a w' hc hb)
  have hAR := fun a w' (hc : CU B v n a w') (hb : 0 ≤ a ∧ a ≤ 700000000) => Lib.hid (anyRing_any B v n a w' hc hb)
  have hD := fun a w' (hc : CU B v n a w') (hb : 0 ≤ a ∧ a ≤ 700000000) => Lib.hid (curDyadic_any B v n a w' hc hb)
  clear h
  go_enter Tryd.func55, Tryd.ntmps55
  go_wp2_with fail
  refine ((hP _ _ _ (HC.out.box _) (by omega) (by omega)).out).mono ?_
  rintro e w1 ⟨y, a1, rfl, p1, q1, r1, s1, hg1, hc1⟩
  have HC1 := Lib.hid hc1
  have HG1 := Lib.hid ((GX.refl [B] _).trans (GX.ofGrown hg1))
  clear hg1 hc1
  have u1 : y < 14 := by omega
  have hl1 := HC1.out.lt
  have hb1 : w.heap.size < w1.heap.size := by have := HG1.out.size; simp at this; omega
  clear q1
  by_cases h0 : y = 0
  · have k0 : (y == 0) = true := by simpa using h0
    clear h0
    go_wp2_with fail
    refine ((hR _ _ HC1.out (by omega)).out).mono ?_
    rintro e w2 ⟨y1, y2, y3, y4, a2, rfl, p2, p3, p4, p5, r2, s2, hg2, hc2⟩
    have HC2 := Lib.hid hc2
    have HG2 := Lib.hid ((HG1.out).trans (GX.ofGrown hg2))
    clear hg2 hc2
    have hl2 := HC2.out.lt
    go_wp2_with fail
    refine (among_any B _ n a2 _ (HC2.out.box _) (by omega) w2.heap.size 5 5 [1, 2, 60, 61, -1] (by omega) (by omega) (by omega) (by simp) (fun i hi => lit_cells [1, 2, 60, 61, -1] i hi)).mono ?_
    rintro e w3 ⟨i, a3, hi, rfl, r3, s3, hg3, hc3⟩
    have HC3 := Lib.hid hc3
    have HG3 := Lib.hid ((HG2.out.alloc _).trans (GX.ofGrown hg3))
    clear hg3 hc3
    generalize List.getD [1, 2, 60, 61, -1] i (0 : Int) = z at *
    have hbx := box_kept hl HG3.out
    have hcx : ∀ k, World.cell? w3 ⟨w.heap.size, k, none⟩ = (#[.int .i64 0, .int .i64 0, .int .i64 0, .int .i64 0, .int .i64 0] : Array Value)[k]? := fun k => cell_of_row _ _ _ _ _ _ hbx
    have hfx : ∀ k, World.frozen? w3 ⟨w.heap.size, k, none⟩ = false := fun k => frozen_of_row _ _ _ _ _ hbx
    have hsx : w.heap.size < (w3).heap.size := (Array.getElem?_eq_some_iff.1 hbx).1
    clear hbx
    go_wp2
    refine bodyPost_ret (v := .agg #[.int .i64 y1, .int .i64 y2, .int .i64 y3, .int .i64 y4, .int .i64 z]) (by simp [results, Tryd.results55, go_sem, *]) rfl ?_
    refine ⟨_, _, _, _, _, a3, rfl, by omega, by omega, GX.toGrown ?_, ?_⟩
    · have hg : GX [B] w w3 := ((GX.refl [B] w).alloc _).trans HG3.out
      exact (by repeat (first | (with_reducible refine GX.setCell ?_ (by first | (simp; done) | (simp; omega)) _) | with_reducible refine GX.alloc ?_ _ | with_reducible refine GX.drew ?_ | with_reducible refine GX.drewN ?_ _ | with_reducible assumption | with_reducible exact GX.refl _ _ | with_reducible refine GX.ext ?_ (by with_reducible assumption) | with_reducible refine GX.trans ?_ (by with_reducible assumption)))
    · exact ((((HC3.out.set (by exact hl) _).set (by exact hl) _).set (by exact hl) _).set (by exact hl) _).set (by exact hl) _
  have k0 : (y == 0) = false := by simpa using h0
  by_cases h1 : y = 1
  · have k1 : (y == 1) = true := by simpa using h1
    clear h0 h1
    go_wp2_with fail
    refine ((hAR _ _ HC1.out (by omega)).out).mono ?_
    rintro e w2 ⟨y1, y2, y3, y4, a2, rfl, r2, s2, hg2, hc2⟩
    have HC2 := Lib.hid hc2
    have HG2 := Lib.hid ((HG1.out).trans (GX.ofGrown hg2))
    clear hg2 hc2
    have hl2 := HC2.out.lt
    have hb2 : w.heap.size < w2.heap.size := by have := HG2.out.size; simp at this; omega
    go_wp2_with fail
    refine (l1Good_any y1 y2 y3 y4 _).mono ?_
    rintro e w3 ⟨rfl, hx3⟩
    have HC3 : Hid (CU B v n a2 w3) := (HC2.out.box _).keep hx3
    have HG3 : Hid (GX [B] _ w3) := (HG2.out.alloc _).ext hx3
    have hbx3 : w3.heap[w2.heap.size]? = some (.cells #[.int .i64 y1, .int .i64 y2, .int .i64 y3, .int .i64 y4] 40 (0, 0)) := (hx3.heap (by simp)).trans (heap_alloc_new _ _)
    have hl3 : w2.heap.size < w3.heap.size := (Array.getElem?_eq_some_iff.1 hbx3).1
    have HX3 := Lib.hid hbx3
    clear hx3 hbx3
    cases hrg : Rg y1 y2 y3 y4
    · go_wp2_with fail
      refine ((hD _ _ HC3.out (by omega)).out).mono ?_
      rintro e w4 ⟨b1, b2, b3, b4, b5, a4, rfl, r4, s4, hg4, hc4⟩
      have HC4 := Lib.hid hc4
      have HG4 := Lib.hid ((HG3.out).trans (GX.ofGrown hg4))
      clear hg4 hc4
      have hbx := box_kept hl HG4.out
      have hcx : ∀ k, World.cell? w4 ⟨w.heap.size, k, none⟩ = (#[.int .i64 0, .int .i64 0, .int .i64 0, .int .i64 0, .int .i64 0] : Array Value)[k]? := fun k => cell_of_row _ _ _ _ _ _ hbx
      have hfx : ∀ k, World.frozen? w4 ⟨w.heap.size, k, none⟩ = false := fun k => frozen_of_row _ _ _ _ _ hbx
      have hsx : w.heap.size < (w4).heap.size := (Array.getElem?_eq_some_iff.1 hbx).1
      clear hbx
      go_wp2
      refine bodyPost_ret (v := .agg #[.int .i64 b1, .int .i64 b2, .int .i64 b3, .int .i64 b4, .int .i64 b5]) (by simp [results, Tryd.results55, go_sem, *]) rfl ?_
      refine ⟨_, _, _, _, _, a4, rfl, by omega, by omega, GX.toGrown ?_, ?_⟩
      · have hg : GX [B] w w4 := ((GX.refl [B] w).alloc _).trans HG4.out
        exact (by repeat (first | (with_reducible refine GX.setCell ?_ (by first | (simp; done) | (simp; omega)) _) | with_reducible refine GX.alloc ?_ _ | with_reducible refine GX.drew ?_ | with_reducible refine GX.drewN ?_ _ | with_reducible assumption | with_reducible exact GX.refl _ _ | with_reducible refine GX.ext ?_ (by with_reducible assumption) | with_reducible refine GX.trans ?_ (by with_reducible assumption)))
      · exact ((((HC4.out.set (by exact hl) _).set (by exact hl) _).set (by exact hl) _).set (by exact hl) _).set (by exact hl) _
    · have hc3 : ∀ k, w3.cell? ⟨w2.heap.size, k, none⟩ = (#[.int .i64 y1, .int .i64 y2, .int .i64 y3, .int .i64 y4] : Array Value)[k]? := fun k => cell_of_row _ _ _ _ _ _ HX3.out
      go_wp2
      clear hP hR hAR hD HC HC1 HG1 HC2 HG2
      have hl3B := HC3.out.lt
      have HAm : Hid (Calls Tryd.prog 54 #[.pointer (some ⟨B, 0, none⟩), .slice (some ⟨w3.heap.size, 0, none⟩) 4 4] (w3.alloc (.cells #[.int .i64 0, .int .i64 3, .int .i64 59, .int .i64 60] 3)).drew fun e w' => ∃ (k : Nat) (a4 : Int), k ≤ 60 ∧ e = .returned (.int .i64 k) ∧ a2 ≤ a4 ∧ a4 ≤ a2 + 2 ∧ GX [B] (w.alloc (.cells #[.int .i64 0, .int .i64 0, .int .i64 0, .int .i64 0, .int .i64 0] 46)) w' ∧ w'.heap[w2.heap.size]? = some (.cells #[.int .i64 y1, .int .i64 y2, .int .i64 y3, .int .i64 y4] 40 (0, 0)) ∧ CU B v n a4 w') := by
        refine (among_any B _ n a2 _ (HC3.out.box _).drew (by omega) w3.heap.size 4 4 [0, 3, 59, 60] (by omega) (by omega) (by omega) (by show _ < (w3.alloc _).heap.size; simp) (fun i hi => lit_cells (w := w3) [0, 3, 59, 60] i hi)).mono ?_
        rintro e w4 ⟨i, a4, hi, rfl, r4, s4, hg4, hc4⟩
        obtain ⟨k, hk, hkv⟩ := low_list i
        rw [hkv]
        exact ⟨k, a4, hk, rfl, r4, s4, ((HG3.out.alloc _).drew).trans (GX.ofGrown hg4), ((GX.ofGrown hg4).heap (k := w2.heap.size) (by show _ < (w3.alloc _).heap.size; simp; omega) (by simp; omega)).trans (heap_alloc_lt HX3.out), hc4⟩
      have HLo : ∀ (k : Nat) (W : World) (a4 : Int), k ≤ 60 → GX [B] (w.alloc (.cells #[.int .i64 0, .int .i64 0, .int .i64 0, .int .i64 0, .int .i64 0] 46)) W → CU B v n a4 W → Hid (Calls Tryd.prog 71 #[.agg #[.int .i64 y1, .int .i64 y2, .int .i64 y3, .int .i64 y4], .int .i64 k] W fun e w' => ∃ b1 b2 b3 b4 b5 : Int, e = .returned (.agg #[.int .i64 b1, .int .i64 b2, .int .i64 b3, .int .i64 b4, .int .i64 b5]) ∧ GX [B] (w.alloc (.cells #[.int .i64 0, .int .i64 0, .int .i64 0, .int .i64 0, .int .i64 0] 46)) w' ∧ w'.heap[w.heap.size]? = some (.cells #[.int .i64 0, .int .i64 0, .int .i64 0, .int .i64 0, .int .i64 0] 46 (0, 0)) ∧ CU B v n a4 w') := by
        intro k W a4 hk hG hC
        refine (l2Low_any k hk ⟨y1, y2, y3, y4⟩ hrg W).mono ?_
        rintro e w5 ⟨rfl, hx5⟩
        exact ⟨_, _, _, _, _, rfl, hG.ext hx5, box_kept hl (hG.ext hx5), hC.keep hx5⟩
      clear hrg HC3 HG3 ha p1 u1 k0 k1 hb1 hb2 hl1 hl2
      go_region_with (first
        | (go_at_call 54; refine HAm.out.mono ?_; rintro e w4 ⟨k, a4, hk, rfl, r4, s4, hg4, hbx4, hc4⟩; have hc4x : ∀ k, w4.cell? ⟨w2.heap.size, k, none⟩ = (#[.int .i64 y1, .int .i64 y2, .int .i64 y3, .int .i64 y4] : Array Value)[k]? := (fun k => cell_of_row _ _ _ _ _ _ hbx4); have HC4 := Lib.hid hc4; have HG4 := Lib.hid hg4; clear hg4 hc4 hbx4)
        | (go_at_call 71; refine (HLo _ _ _ hk (by first | exact HG4.out | exact HG4.out.drew) (by first | exact HC4.out | exact HC4.out.drew)).out.mono ?_; rintro e w5 ⟨b1, b2, b3, b4, b5, rfl, hg5, hbx5, hc5⟩; have hc5x : ∀ k, w5.cell? ⟨w.heap.size, k, none⟩ = (#[.int .i64 0, .int .i64 0, .int .i64 0, .int .i64 0, .int .i64 0] : Array Value)[k]? := (fun k => cell_of_row _ _ _ _ _ _ hbx5); have hf5x : ∀ k, w5.frozen? ⟨w.heap.size, k, none⟩ = false := (fun k => frozen_of_row _ _ _ _ _ hbx5); have hs5x := (Array.getElem?_eq_some_iff.1 hbx5).1; have HC5 := Lib.hid hc5; have HG5 := Lib.hid hg5; clear hg5 hc5 hbx5))
      all_goals
        go_wp2
        refine bodyPost_ret (v := .agg #[.int .i64 b1, .int .i64 b2, .int .i64 b3, .int .i64 b4, .int .i64 b5]) (by simp [results, Tryd.results55, go_sem, *]) rfl ?_
        refine ⟨_, _, _, _, _, a4, rfl, by omega, by omega, GX.toGrown ?_, ?_⟩
        · have hg : GX [B] w w5 := ((GX.refl [B] w).alloc _).trans HG5.out
          exact (by repeat (first | (with_reducible refine GX.setCell ?_ (by first | (simp; done) | (simp; omega)) _) | with_reducible refine GX.alloc ?_ _ | with_reducible refine GX.drew ?_ | with_reducible refine GX.drewN ?_ _ | with_reducible assumption | with_reducible exact GX.refl _ _ | with_reducible refine GX.ext ?_ (by with_reducible assumption) | with_reducible refine GX.trans ?_ (by with_reducible assumption)))
        · repeat (first | with_reducible exact HC5.out | with_reducible refine CU.set ?_ (by exact hl) _ | with_reducible refine CU.drew ?_)
  have k1 : (y == 1) = false := by simpa using h1
  by_cases h2 : y = 2
  · have k2 : (y == 2) = true := by simpa using h2
    clear h0 h1 h2
    go_wp2_with fail
    refine ((hP _ _ _ HC1.out (by omega) (by omega)).out).mono ?_
    rintro e w2 ⟨z, a2, rfl, p2, q2, r2, s2, hg2, hc2⟩
    have HC2 := Lib.hid hc2
    have HG2 := Lib.hid ((HG1.out).trans (GX.ofGrown hg2))
    clear hg2 hc2
    have u2 : 0 ≤ z ∧ z < 8 := by omega
    clear q2
    go_wp2_with fail
    refine (l2Power_any z u2 w2).mono ?_
    rintro e w3 ⟨b1, b2, b3, b4, rfl, hx3⟩
    have HC3 : Hid (CU B v n a2 w3) := HC2.out.keep hx3
    have HG3 : Hid (GX [B] _ w3) := HG2.out.ext hx3
    clear hx3
    have hbx := box_kept hl HG3.out
    have hcx : ∀ k, World.cell? w3 ⟨w.heap.size, k, none⟩ = (#[.int .i64 0, .int .i64 0, .int .i64 0, .int .i64 0, .int .i64 0] : Array Value)[k]? := fun k => cell_of_row _ _ _ _ _ _ hbx
    have hfx : ∀ k, World.frozen? w3 ⟨w.heap.size, k, none⟩ = false := fun k => frozen_of_row _ _ _ _ _ hbx
    have hsx : w.heap.size < (w3).heap.size := (Array.getElem?_eq_some_iff.1 hbx).1
    clear hbx
    go_wp2
    refine bodyPost_ret (v := .agg #[.int .i64 b1, .int .i64 b2, .int .i64 b3, .int .i64 b4, .int .i64 0]) (by simp [results, Tryd.results55, go_sem, *]) rfl ?_
    refine ⟨_, _, _, _, _, a2, rfl, by omega, by omega, GX.toGrown ?_, ?_⟩
    · have hg : GX [B] w w3 := ((GX.refl [B] w).alloc _).trans HG3.out
      exact (by repeat (first | (with_reducible refine GX.setCell ?_ (by first | (simp; done) | (simp; omega)) _) | with_reducible refine GX.alloc ?_ _ | with_reducible refine GX.drew ?_ | with_reducible refine GX.drewN ?_ _ | with_reducible assumption | with_reducible exact GX.refl _ _ | with_reducible refine GX.ext ?_ (by with_reducible assumption) | with_reducible refine GX.trans ?_ (by with_reducible assumption)))
    · exact ((((HC3.out.set (by exact hl) _).set (by exact hl) _).set (by exact hl) _).set (by exact hl) _).set (by exact hl) _
  have k2 : (y == 2) = false := by simpa using h2
  clear h0 h1 h2
  go_wp2_with fail
  refine ((hD _ _ HC1.out (by omega)).out).mono ?_
  rintro e w2 ⟨b1, b2, b3, b4, b5, a2, rfl, r2, s2, hg2, hc2⟩
  have HC2 := Lib.hid hc2
  have HG2 := Lib.hid ((HG1.out).trans (GX.ofGrown hg2))
  clear hg2 hc2
  have hbx := box_kept hl HG2.out
  have hcx : ∀ k, World.cell? w2 ⟨w.heap.size, k, none⟩ = (#[.int .i64 0, .int .i64 0, .int .i64 0, .int .i64 0, .int .i64 0] : Array Value)[k]? := fun k => cell_of_row _ _ _ _ _ _ hbx
  have hfx : ∀ k, World.frozen? w2 ⟨w.heap.size, k, none⟩ = false := fun k => frozen_of_row _ _ _ _ _ hbx
  have hsx : w.heap.size < (w2).heap.size := (Array.getElem?_eq_some_iff.1 hbx).1
  clear hbx
  go_wp2
  refine bodyPost_ret (v := .agg #[.int .i64 b1, .int .i64 b2, .int .i64 b3, .int .i64 b4, .int .i64 b5]) (by simp [results, Tryd.results55, go_sem, *]) rfl ?_
  refine ⟨_, _, _, _, _, a2, rfl, by omega, by omega, GX.toGrown ?_, ?_⟩
  · have hg : GX [B] w w2 := ((GX.refl [B] w).alloc _).trans HG2.out
    exact (by repeat (first | (with_reducible refine GX.setCell ?_ (by first | (simp; done) | (simp; omega)) _) | with_reducible refine GX.alloc ?_ _ | with_reducible refine GX.drew ?_ | with_reducible refine GX.drewN ?_ _ | with_reducible assumption | with_reducible exact GX.refl _ _ | with_reducible refine GX.ext ?_ (by with_reducible assumption) | with_reducible refine GX.trans ?_ (by with_reducible assumption)))
  · exact ((((HC2.out.set (by exact hl) _).set (by exact hl) _).set (by exact hl) _).set (by exact hl) _).set (by exact hl) _

end Go.Proofs.YtamiploliebplaaDoor
