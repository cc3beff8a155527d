/- The law on IsValidReplacement. -/
import Derived.Test.YtjeahopiejcopaaRepl
import Derived.Test.YtjeahopiejcopaaArgS
import Derived.Deep.RegionWith
namespace Go.Proofs.Ytjeahopiejcopaa
open Go.RowKit

set_option maxRecDepth 20000 in
set_option maxHeartbeats 2000000 in
theorem law_IsValidReplacement (q t : Int) {v1 v2 : Value} {m1 m2 : Nat} {xs ys : List Int} (w : World) (h1 : RV w 3 v1 m1 xs) (h2 : RV w 3 v2 m2 ys) :
    Calls Try.prog 3 #[.int .i64 q, .agg #[.int .i64 t, v1, v2]] w fun e w' => e = .returned (.bool true) ∧ Ext w w' := by
  have HZ := fun w' (hx : Ext w w') => Lib.hid (szReplacement_any t 1048576 (by omega) w' (h1.ext hx) (h2.ext hx))
  by_cases hm : (m1 : Int) + m2 ≤ 1048576
  case neg =>
    rw [if_neg hm] at HZ
    obtain ⟨_, a, cap, rfl, c1, c2, _⟩ := h1
    obtain ⟨_, a', cap', rfl, c3, c4, _⟩ := h2
    go_enter Try.func3, Try.ntmps3
    go_wp2_with fail
    refine (HZ _ (by repeat (first | exact Ext.refl _ | assumption | refine Ext.alloc ?_ _ | refine Ext.drew ?_ | refine Ext.drewN ?_ _ | refine Ext.setCell ?_ (by first | omega | (dsimp only; omega) | (simp; done) | (simp; omega)) _ | refine Ext.trans ?_ (by assumption)))).out.mono ?_
    rintro e w1 ⟨rfl, hx1⟩
    go_wp2
    go_ret
    exact ⟨rfl, (by repeat (first | exact Ext.refl _ | assumption | refine Ext.alloc ?_ _ | refine Ext.drew ?_ | refine Ext.drewN ?_ _ | refine Ext.setCell ?_ (by first | omega | (dsimp only; omega) | (simp; done) | (simp; omega)) _ | refine Ext.trans ?_ (by assumption)))⟩
  have hm1 : m1 ≤ 2000000 := by omega
  have hm2 : m2 ≤ 2000000 := by omega
  have hml : ¬ ((1048576 : Int) - m1 - m2 < 0) := by omega
  rw [if_pos hm] at HZ
  have HT := fun w' (hx : Ext w w') => Lib.hid (toReplacement_any t hm1 hm2 w' (h1.ext hx) (h2.ext hx))
  have HL1 := Lib.hid h1.1
  have HL2 := Lib.hid h2.1
  have HS := fun v1' v2' w' (h1' : RV w' 3 v1' m1 xs) (h2' : RV w' 3 v2' m2 ys) => Lib.hid (s_isValidReplacement_any q t hm1 hm2 w' h1' h2')
  have HI := fun v1' v2' w' (h1' : RV w' 3 v1' m1 xs) (h2' : RV w' 3 v2' m2 ys) => Lib.hid (isValidReplacement_any q t hm1 hm2 w' h1' h2')
  have HQ := fun b1 b2 b3 b4 v1 v2 v3 v4 w' k1 k2 k3 k4 => Lib.hid (eqReplacement_same (b1 := b1) (b2 := b2) (b3 := b3) (b4 := b4) (v1 := v1) (v2 := v2) (v3 := v3) (v4 := v4) t h1.1 hm1 h2.1 hm2 w' k1 k2 k3 k4)
  generalize rOk q t xs m1 ys m2 = ok at *
  obtain ⟨_, a, cap, rfl, c1, c2, hh⟩ := h1
  clear hh
  obtain ⟨_, a', cap', rfl, c3, c4, hh⟩ := h2
  clear hh
  go_enter Try.func3, Try.ntmps3
  go_wp2_with fail
  refine (HZ _ (by repeat (first | exact Ext.refl _ | assumption | refine Ext.alloc ?_ _ | refine Ext.drew ?_ | refine Ext.drewN ?_ _ | refine Ext.setCell ?_ (by first | omega | (dsimp only; omega) | (simp; done) | (simp; omega)) _ | refine Ext.trans ?_ (by assumption)))).out.mono ?_
  rintro e w1 ⟨rfl, hx1⟩
  obtain ⟨hc1, hf1⟩ := hx1.cells
  have hz1 := hx1.size
  try simp at hz1
  have hs1_0 := sz1 (a := w.heap.size) (b := w1.heap.size) (by omega)
  go_wp2_with fail
  refine (HT _ (by repeat (first | exact Ext.refl _ | assumption | refine Ext.alloc ?_ _ | refine Ext.drew ?_ | refine Ext.drewN ?_ _ | refine Ext.setCell ?_ (by first | omega | (dsimp only; omega) | (simp; done) | (simp; omega)) _ | refine Ext.trans ?_ (by assumption)))).out.mono ?_
  rintro e w2 ⟨u1, u2, rfl, o1, o2, _, hx2⟩
  obtain ⟨hc2, hf2⟩ := hx2.cells
  have hz2 := hx2.size
  try simp at hz2
  have hs2_0 := sz1 (a := w.heap.size) (b := w2.heap.size) (by omega)
  have R1 := Lib.hid (RV.own o1 HL1.out)
  have R2 := Lib.hid (RV.own o2 HL2.out)
  clear o1 o2
  go_wp2_with fail
  refine (HS _ _ _ R1.out R2.out).out.mono ?_
  rintro e w3 ⟨rfl, hx3⟩
  obtain ⟨hc3, hf3⟩ := hx3.cells
  have hz3 := hx3.size
  try simp at hz3
  have hs3_0 := sz1 (a := w.heap.size) (b := w3.heap.size) (by omega)
  clear R1 R2
  go_wp2_with fail
  refine (HT _ (by repeat (first | exact Ext.refl _ | assumption | refine Ext.alloc ?_ _ | refine Ext.drew ?_ | refine Ext.drewN ?_ _ | refine Ext.setCell ?_ (by first | omega | (dsimp only; omega) | (simp; done) | (simp; omega)) _ | refine Ext.trans ?_ (by assumption)))).out.mono ?_
  rintro e w4 ⟨u3, u4, rfl, o1, o2, _, hx4⟩
  obtain ⟨hc4, hf4⟩ := hx4.cells
  have hz4 := hx4.size
  try simp at hz4
  have hs4_0 := sz1 (a := w.heap.size) (b := w4.heap.size) (by omega)
  obtain ⟨a3, cp3, rfl, q1, q2, q3⟩ := own_shape o1
  obtain ⟨a4, cp4, rfl, q4, q5, q6⟩ := own_shape o2
  have O3 := Lib.hid o1
  have O4 := Lib.hid o2
  clear o1 o2 q3 q6
  go_wp2_with fail
  refine (HI _ _ _ (RV.own (own_ext O3.out (by repeat (first | exact Ext.refl _ | assumption | refine Ext.alloc ?_ _ | refine Ext.drew ?_ | refine Ext.drewN ?_ _ | refine Ext.setCell ?_ (by first | omega | (dsimp only; omega) | (simp; done) | (simp; omega)) _ | refine Ext.trans ?_ (by assumption)))) HL1.out) (RV.own (own_ext O4.out (by repeat (first | exact Ext.refl _ | assumption | refine Ext.alloc ?_ _ | refine Ext.drew ?_ | refine Ext.drewN ?_ _ | refine Ext.setCell ?_ (by first | omega | (dsimp only; omega) | (simp; done) | (simp; omega)) _ | refine Ext.trans ?_ (by assumption)))) HL2.out)).out.mono ?_
  rintro e w5 ⟨rfl, hx5⟩
  obtain ⟨hc5, hf5⟩ := hx5.cells
  have hz5 := hx5.size
  try simp at hz5
  have hs5_0 := sz1 (a := w.heap.size) (b := w5.heap.size) (by omega)
  have hs5_1 := sz1 (a := w4.heap.size) (b := w5.heap.size) (by omega)
  have O5 := Lib.hid (own_ext O3.out (((Ext.refl w4).alloc _).trans hx5))
  have O6 := Lib.hid (own_ext O4.out (((Ext.refl w4).alloc _).trans hx5))
  have B6 := ((((Ext.refl (w4.alloc (.cells #[.int .i64 t, .slice a3 m1 cp3, .slice a4 m2 cp4] 29))).trans hx5)).heap (k := w4.heap.size) (by simp)).trans (heap_alloc_new _ _)
  have A6 := (((((Ext.refl (w.alloc (.cells #[.int .i64 t, .slice a m1 cap, .slice a' m2 cap'] 24))).trans hx1).trans hx2).trans hx3).trans hx4)
  have A7 := (((A6.alloc _).trans hx5).heap (k := w.heap.size) (by simp)).trans (heap_alloc_new _ _)
  have E6 : Ext w w5 := (by repeat (first | (with_reducible refine Ext.setCell ?_ (by first | (simp; done) | (simp; omega)) _) | with_reducible refine Ext.alloc ?_ _ | with_reducible refine Ext.drew ?_ | with_reducible refine Ext.drewN ?_ _ | with_reducible assumption | with_reducible exact Ext.refl _ | with_reducible refine Ext.trans ?_ (by with_reducible assumption)))
  have E6' := Lib.hid E6
  have lb := (Array.getElem?_eq_some_iff.1 B6).1
  have la := (Array.getElem?_eq_some_iff.1 A7).1
  have zB : ∀ k, w5.cell? ⟨w4.heap.size, k, none⟩ = (#[.int .i64 t, .slice a3 m1 cp3, .slice a4 m2 cp4] : Array Value)[k]? := fun k => cell_of_row _ _ _ _ _ _ B6
  have zA : ∀ k, w5.cell? ⟨w.heap.size, k, none⟩ = (#[.int .i64 t, .slice a m1 cap, .slice a' m2 cap'] : Array Value)[k]? := fun k => cell_of_row _ _ _ _ _ _ A7
  go_wp2
  clear hx1 hx2 hx3 hx4 hx5 hc1 hc2 hc3 hc4 hc5 hf1 hf2 hf3 hf4 hf5 hz1 hz2 hz3 hz4 hz5 hs1_0 hs2_0 hs3_0 hs4_0 hs5_0 hs5_1 B6 A6 A7 E6 HS HI HZ O3 O4
  generalize w4.heap.size = b4 at *
  go_region_with (first
    | (go_at_call 16; refine (HT _ (by first | exact E6'.out.drew | exact E6'.out.drew.drewN _ | exact E6'.out.drewN _)).out.mono ?_; rintro e w7 ⟨u5, u6, rfl, o7, o8, _, hx7⟩; have O7 := Lib.hid o7; have O8 := Lib.hid o8; have O9 := Lib.hid (own_ext (own_ext O5.out (by first | exact (Ext.refl w5).drew | exact (Ext.refl w5).drew.drewN _)) hx7); have O10 := Lib.hid (own_ext (own_ext O6.out (by first | exact (Ext.refl w5).drew | exact (Ext.refl w5).drew.drewN _)) hx7); have X7 := Lib.hid (E6'.out.drew.trans hx7); have hzB := fun k => (hx7.cells.1 b4 k (by first | exact lb | simpa using lb)); clear o7 o8 hx7)
    | (go_at_call 18; refine (HQ _ _ _ _ _ _ _ _ _ O9.out O10.out O7.out O8.out).out.mono ?_; rintro e w8 ⟨rfl, hx8⟩; have X8 := Lib.hid (X7.out.trans hx8); clear hx8))
  all_goals
    go_wp2
    go_ret
    exact ⟨rfl, X8.out⟩

theorem law_IsValidReplacement_c (q : Int) (cs : Array Value) {n : Nat} {w0 : World} (_ : I64 [q]) (hs : Shape Try.prog w0 n 24 (Value.agg cs).cells.toList) (w : World) (hw : w0 = w := by rfl) :
    Calls Try.prog 3 #[.int .i64 q, .agg cs] w fun e w' => e = .returned (.bool true) ∧ Ext w w' := by
  subst hw
  obtain ⟨t, v1, v2, m1, m2, xs, ys, rfl, h1, h2, _⟩ := repl_arg hs
  exact law_IsValidReplacement q t w0 h1 h2

end Go.Proofs.Ytjeahopiejcopaa
