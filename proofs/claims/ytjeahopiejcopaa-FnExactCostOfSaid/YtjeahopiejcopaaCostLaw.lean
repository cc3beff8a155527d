/- The laws on CostOf and IsValidReplacement. -/
import Derived.Test.YtjeahopiejcopaaCost
import Derived.Test.YtjeahopiejcopaaArgS
import Derived.Deep.RegionWith
namespace Go.Proofs.Ytjeahopiejcopaa
open Go.RowKit

set_option maxRecDepth 20000 in
set_option maxHeartbeats 2000000 in
theorem law_CostOf (q : Int) {v : Value} {m : Nat} {xs : List Int} (w : World) (h : RV w 3 v m xs) :
    Calls Try.prog 5 #[.agg #[.int .i64 q, v]] w fun e w' => e = .returned (.bool true) ∧ Ext w w' := by
  have HZ := fun w' (hx : Ext w w') => Lib.hid (szCircuit_any q 1048576 (by omega) w' (h.ext hx))
  by_cases hm : (m : Int) ≤ 1048576
  case neg =>
    rw [if_neg hm] at HZ
    obtain ⟨_, a, cap, rfl, c1, c2, _⟩ := h
    go_enter Try.func5, Try.ntmps5
    go_wp2_with fail
    refine (HZ _ (by repeat (first | exact Ext.refl _ | assumption | refine Ext.alloc ?_ _ | refine Ext.drew ?_ | refine Ext.drewN ?_ _ | refine Ext.setCell ?_ (by first | omega | (dsimp only; omega) | (simp; done) | (simp; omega)) _ | refine Ext.trans ?_ (by assumption)))).out.mono ?_
    rintro e w1 ⟨rfl, hx1⟩
    go_wp2
    go_ret
    exact ⟨rfl, (by repeat (first | exact Ext.refl _ | assumption | refine Ext.alloc ?_ _ | refine Ext.drew ?_ | refine Ext.drewN ?_ _ | refine Ext.setCell ?_ (by first | omega | (dsimp only; omega) | (simp; done) | (simp; omega)) _ | refine Ext.trans ?_ (by assumption)))⟩
  have hm2 : m ≤ 2000000 := by omega
  have hml : ¬ ((1048576 : Int) - m < 0) := by omega
  rw [if_pos hm] at HZ
  have HT := fun w' (hx : Ext w w') => Lib.hid (toCircuit_any q hm2 w' (h.ext hx))
  have HL := Lib.hid h.1
  have HS := fun v' w' (h' : RV w' 3 v' m xs) => Lib.hid (s_costOf_any q hm2 w' h')
  have HI := fun v' w' (h' : RV w' 3 v' m xs) => Lib.hid (costOf_any q hm2 w' h')
  have HQ := fun b1 b2 v1 v2 w' h1 h2 => Lib.hid (eqCircuit_same (b1 := b1) (b2 := b2) (v1 := v1) (v2 := v2) q h.1 hm2 w' h1 h2)
  generalize costT q xs m = k1 at *
  generalize costW q xs m = k2 at *
  generalize costG q xs m = k3 at *
  generalize cOk q xs m = ok at *
  obtain ⟨_, a, cap, rfl, c1, c2, hh⟩ := h
  clear hh
  go_enter Try.func5, Try.ntmps5
  go_wp2_with fail
  refine (HZ _ (by repeat (first | exact Ext.refl _ | assumption | refine Ext.alloc ?_ _ | refine Ext.drew ?_ | refine Ext.drewN ?_ _ | refine Ext.setCell ?_ (by first | omega | (dsimp only; omega) | (simp; done) | (simp; omega)) _ | refine Ext.trans ?_ (by assumption)))).out.mono ?_
  rintro e w1 ⟨rfl, hx1⟩
  obtain ⟨hc1, hf1⟩ := hx1.cells
  have hz1 := hx1.size
  try simp at hz1
  have hs1_0 := sz1 (a := w.heap.size) (b := w1.heap.size) (by omega)
  go_wp2_with fail
  refine (HT _ (by repeat (first | exact Ext.refl _ | assumption | refine Ext.alloc ?_ _ | refine Ext.drew ?_ | refine Ext.drewN ?_ _ | refine Ext.setCell ?_ (by first | omega | (dsimp only; omega) | (simp; done) | (simp; omega)) _ | refine Ext.trans ?_ (by assumption)))).out.mono ?_
  rintro e w2 ⟨v2, rfl, o2, hx2⟩
  obtain ⟨hc2, hf2⟩ := hx2.cells
  have hz2 := hx2.size
  try simp at hz2
  have hs2_0 := sz1 (a := w.heap.size) (b := w2.heap.size) (by omega)
  have R2 := Lib.hid (RV.own o2 HL.out)
  clear o2
  go_wp2_with fail
  refine (HS _ _ R2.out).out.mono ?_
  rintro e w3 ⟨rfl, hx3⟩
  obtain ⟨hc3, hf3⟩ := hx3.cells
  have hz3 := hx3.size
  try simp at hz3
  have hs3_0 := sz1 (a := w.heap.size) (b := w3.heap.size) (by omega)
  clear R2
  go_wp2_with fail
  refine (HT _ (by repeat (first | exact Ext.refl _ | assumption | refine Ext.alloc ?_ _ | refine Ext.drew ?_ | refine Ext.drewN ?_ _ | refine Ext.setCell ?_ (by first | omega | (dsimp only; omega) | (simp; done) | (simp; omega)) _ | refine Ext.trans ?_ (by assumption)))).out.mono ?_
  rintro e w4 ⟨v4, rfl, o4, hx4⟩
  obtain ⟨hc4, hf4⟩ := hx4.cells
  have hz4 := hx4.size
  try simp at hz4
  have hs4_0 := sz1 (a := w.heap.size) (b := w4.heap.size) (by omega)
  have hs4_1 := sz1 (a := w3.heap.size) (b := w4.heap.size) (by omega)
  obtain ⟨a4, cp4, rfl, q1, q2, q3⟩ := own_shape o4
  have O4 := Lib.hid o4
  clear o4 q3
  go_wp2_with fail
  refine (HI _ _ (RV.own (own_ext O4.out (by repeat (first | exact Ext.refl _ | assumption | refine Ext.alloc ?_ _ | refine Ext.drew ?_ | refine Ext.drewN ?_ _ | refine Ext.setCell ?_ (by first | omega | (dsimp only; omega) | (simp; done) | (simp; omega)) _ | refine Ext.trans ?_ (by assumption)))) HL.out)).out.mono ?_
  rintro e w5 ⟨rfl, hx5⟩
  obtain ⟨hc5, hf5⟩ := hx5.cells
  have hz5 := hx5.size
  try simp at hz5
  have hs5_0 := sz1 (a := w.heap.size) (b := w5.heap.size) (by omega)
  have hs5_1 := sz1 (a := w3.heap.size) (b := w5.heap.size) (by omega)
  have hs5_2 := sz1 (a := w4.heap.size) (b := w5.heap.size) (by omega)
  go_wp2_with fail
  refine (eqCost_same _ _ _ _).mono ?_
  rintro e w6 ⟨rfl, hx6⟩
  obtain ⟨hc6, hf6⟩ := hx6.cells
  have hz6 := hx6.size
  try simp at hz6
  have hs6_0 := sz1 (a := w.heap.size) (b := w6.heap.size) (by omega)
  have hs6_1 := sz1 (a := w3.heap.size) (b := w6.heap.size) (by omega)
  have hs6_2 := sz1 (a := w4.heap.size) (b := w6.heap.size) (by omega)
  have hs6_3 := sz1 (a := w5.heap.size) (b := w6.heap.size) (by omega)
  have O6 := Lib.hid (own_ext O4.out (((((Ext.refl w4).alloc _).trans hx5).alloc _).trans hx6))
  have B6 := (((((Ext.refl (w4.alloc (.cells #[.int .i64 q, .slice a4 m cp4] 49))).trans hx5).alloc _).trans hx6).heap (k := w4.heap.size) (by simp)).trans (heap_alloc_new _ _)
  have A6 := ((((((((Ext.refl (w.alloc (.cells #[.int .i64 q, .slice a m cap] 42))).trans hx1).trans hx2).trans hx3).alloc _).trans hx4).alloc _).trans hx5)
  have A7 := (((A6.alloc _).trans hx6).heap (k := w.heap.size) (by simp)).trans (heap_alloc_new _ _)
  have E6 : Ext w w6 := (by repeat (first | (with_reducible refine Ext.setCell ?_ (by first | (simp; done) | (simp; omega)) _) | with_reducible refine Ext.alloc ?_ _ | with_reducible refine Ext.drew ?_ | with_reducible refine Ext.drewN ?_ _ | with_reducible assumption | with_reducible exact Ext.refl _ | with_reducible refine Ext.trans ?_ (by with_reducible assumption)))
  have E6' := Lib.hid E6
  have lb := (Array.getElem?_eq_some_iff.1 B6).1
  have la := (Array.getElem?_eq_some_iff.1 A7).1
  have zB : ∀ k, w6.cell? ⟨w4.heap.size, k, none⟩ = (#[.int .i64 q, .slice a4 m cp4] : Array Value)[k]? := fun k => cell_of_row _ _ _ _ _ _ B6
  have zA : ∀ k, w6.cell? ⟨w.heap.size, k, none⟩ = (#[.int .i64 q, .slice a m cap] : Array Value)[k]? := fun k => cell_of_row _ _ _ _ _ _ A7
  go_wp2
  clear hx1 hx2 hx3 hx4 hx5 hx6 hc1 hc2 hc3 hc4 hc5 hc6 hf1 hf2 hf3 hf4 hf5 hf6 hz1 hz2 hz3 hz4 hz5 hz6 hs1_0 hs2_0 hs3_0 hs4_0 hs4_1 hs5_0 hs5_1 hs5_2 hs6_0 hs6_1 hs6_2 hs6_3 B6 A6 A7 E6 HS HI HZ
  generalize w4.heap.size = b4 at *
  go_region_with (first
    | (go_at_call 29; refine (HT _ (by first | exact E6'.out.drew | exact E6'.out.drew.drewN _ | exact E6'.out.drewN _)).out.mono ?_; rintro e w7 ⟨v7, rfl, o7, hx7⟩; have O7 := Lib.hid o7; have O8 := Lib.hid (own_ext (own_ext O6.out (by first | exact (Ext.refl w6).drew | exact (Ext.refl w6).drew.drewN _)) hx7); have X7 := Lib.hid (E6'.out.drew.trans hx7); have hzB := fun k => (hx7.cells.1 b4 k (by first | exact lb | simpa using lb)); clear o7 hx7)
    | (go_at_call 32; refine (HQ _ _ _ _ _ O8.out O7.out).out.mono ?_; rintro e w8 ⟨rfl, hx8⟩; have X8 := Lib.hid (X7.out.trans hx8); clear hx8))
  all_goals
    go_wp2
    go_ret
    exact ⟨rfl, X8.out⟩

theorem law_CostOf_c (cs : Array Value) {n : Nat} {w0 : World} (hs : Shape Try.prog w0 n 42 (Value.agg cs).cells.toList) (w : World) (hw : w0 = w := by rfl) :
    Calls Try.prog 5 #[.agg cs] w fun e w' => e = .returned (.bool true) ∧ Ext w w' := by
  subst hw
  obtain ⟨q, v, m, xs, rfl, h, _⟩ := circ_arg hs
  exact law_CostOf q w0 h

end Go.Proofs.Ytjeahopiejcopaa
