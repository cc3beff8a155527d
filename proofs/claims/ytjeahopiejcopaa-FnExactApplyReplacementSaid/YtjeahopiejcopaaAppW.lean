/- The law on ApplyReplacement. -/
import Derived.Test.YtjeahopiejcopaaAppU
import Derived.Test.YtjeahopiejcopaaAppV
import Derived.Test.YtjeahopiejcopaaCirM
import Derived.Test.YtjeahopiejcopaaZn
import Derived.Deep.RegionHeld3
import Derived.Deep.Cut
namespace Go.Proofs.Ytjeahopiejcopaa
open Go.RowKit Go.Lib
set_option linter.unusedVariables false
set_option linter.unusedSimpArgs false

theorem law_ApplyReplacement_ee {a b : World} (h : a = b) : Ext a b := by subst h; exact Ext.refl _

set_option maxRecDepth 20000 in
set_option maxHeartbeats 20000000 in
theorem law_ApplyReplacement (q : Int) {v1 : Value} {n : Nat} {xs : List Int} (t : Int) {v2 v3 : Value} {m l : Nat} {ys zs : List Int} (w : World) (h0_0 : RV w 3 v1 n xs) (h1_0 : RV w 3 v2 m ys) (h1_1 : RV w 3 v3 l zs) :
    Calls Try.prog 7 #[.agg #[.int .i64 q, v1], .agg #[.int .i64 t, v2, v3]] w fun e w' => e = .returned (.bool true) ∧ Ext w w' := by
  have HZ0 := fun l (hl : 0 ≤ l ∧ l ≤ 1048576) w' (hx : Ext w w') => Lib.hid (szCircuit_any q l hl w' (h0_0.ext hx))
  have HT0 := fun hm0 w' (hx : Ext w w') => Lib.hid (toCircuit_any q hm0 w' (h0_0.ext hx))
  have HL0_0 := Lib.hid h0_0.1
  have HZ1 := fun l (hl : 0 ≤ l ∧ l ≤ 1048576) w' (hx : Ext w w') => Lib.hid (szReplacement_any t l hl w' (h1_0.ext hx) (h1_1.ext hx))
  have HT1 := fun hm0 hm1 w' (hx : Ext w w') => Lib.hid (toReplacement_any t hm0 hm1 w' (h1_0.ext hx) (h1_1.ext hx))
  have HL1_0 := Lib.hid h1_0.1
  have HL1_1 := Lib.hid h1_1.1
  have hlen := ap_lenN (q := q) (t := t) h0_0.1 h1_1.1 (ys := ys) (m := m)
  have hle := ap_leN q xs n t ys m zs l
  have HS := fun hn hm hl x0_0 x1_0 x1_1 w' (k0_0 : RVs w' 3 x0_0 n xs) (k1_0 : RV w' 3 x1_0 m ys) (k1_1 : RV w' 3 x1_1 l zs) => Lib.hid (s_applyReplacement_any q t hn hm hl w' k0_0 k1_0 k1_1)
  have HI := fun hn hm hl x0_0 x1_0 x1_1 w' (k0_0 : RVs w' 3 x0_0 n xs) (k1_0 : RV w' 3 x1_0 m ys) (k1_1 : RV w' 3 x1_1 l zs) => Lib.hid (applyReplacement_any q t hn hm hl w' k0_0 k1_0 k1_1)
  obtain ⟨-, a1, c1, rfl, q1_0_0, q2_0_0, hh⟩ := h0_0
  clear hh
  obtain ⟨-, a2, c2, rfl, q1_1_0, q2_1_0, hh⟩ := h1_0
  clear hh
  obtain ⟨-, a3, c3, rfl, q1_1_1, q2_1_1, hh⟩ := h1_1
  clear hh
  generalize apQ q xs n t ys m zs l = qq at *
  generalize apL q xs n t ys m zs l = LL at *
  generalize apN q xs n t ys m zs l = nn at *
  generalize apOk q xs n t ys m zs l = ok at *
  have HLL := Lib.hid hlen
  clear hlen
  have HZ0 := HZ0 ((1048576 : Int)) (by omega)
  by_cases hm0 : (n : Int) ≤ (1048576 : Int)
  case neg =>
    simp only [if_neg hm0] at HZ0
    go_enter Try.func7, Try.ntmps7
    go_wp2_with fail
    refine (HZ0 _ (by repeat (first | (with_reducible refine Ext.setCell ?_ (by first | (simp; done) | (simp; omega)) _) | with_reducible refine Ext.alloc ?_ _ | with_reducible refine Ext.drew ?_ | with_reducible refine Ext.drewN ?_ _ | with_reducible assumption | with_reducible exact Ext.refl _ | with_reducible refine Ext.trans ?_ (by with_reducible assumption)))).out.mono ?_
    rintro e w1 ⟨rfl, hx1⟩
    obtain ⟨hc1, hf1⟩ := hx1.cells
    have hz1 := hx1.size
    try simp at hz1
    try have hb1_1 : w.heap.size < w1.heap.size := by omega
    try have hb1_2 : w.heap.size + 1 < w1.heap.size := by omega
    try have hb1_3 : w.heap.size + 2 < w1.heap.size := by omega
    go_wp2
    go_ret
    exact ⟨rfl, (by repeat (first | (with_reducible refine Ext.setCell ?_ (by first | (simp; done) | (simp; omega)) _) | with_reducible refine Ext.alloc ?_ _ | with_reducible refine Ext.drew ?_ | with_reducible refine Ext.drewN ?_ _ | with_reducible assumption | with_reducible exact Ext.refl _ | with_reducible refine Ext.trans ?_ (by with_reducible assumption)))⟩
  simp only [if_pos hm0] at HZ0
  have hr0 : ¬ ((1048576 : Int) - n < 0) := by omega
  have HZ1 := HZ1 ((1048576 : Int) - n) (by omega)
  by_cases hm1 : (m : Int) + (l : Int) ≤ (1048576 : Int) - n
  case neg =>
    simp only [if_neg hm1] at HZ1
    go_enter Try.func7, Try.ntmps7
    go_wp2_with fail
    refine (HZ0 _ (by repeat (first | (with_reducible refine Ext.setCell ?_ (by first | (simp; done) | (simp; omega)) _) | with_reducible refine Ext.alloc ?_ _ | with_reducible refine Ext.drew ?_ | with_reducible refine Ext.drewN ?_ _ | with_reducible assumption | with_reducible exact Ext.refl _ | with_reducible refine Ext.trans ?_ (by with_reducible assumption)))).out.mono ?_
    rintro e w1 ⟨rfl, hx1⟩
    obtain ⟨hc1, hf1⟩ := hx1.cells
    have hz1 := hx1.size
    try simp at hz1
    try have hb1_1 : w.heap.size < w1.heap.size := by omega
    try have hb1_2 : w.heap.size + 1 < w1.heap.size := by omega
    try have hb1_3 : w.heap.size + 2 < w1.heap.size := by omega
    go_wp2_with fail
    refine (HZ1 _ (by repeat (first | (with_reducible refine Ext.setCell ?_ (by first | (simp; done) | (simp; omega)) _) | with_reducible refine Ext.alloc ?_ _ | with_reducible refine Ext.drew ?_ | with_reducible refine Ext.drewN ?_ _ | with_reducible assumption | with_reducible exact Ext.refl _ | with_reducible refine Ext.trans ?_ (by with_reducible assumption)))).out.mono ?_
    rintro e w2 ⟨rfl, hx2⟩
    obtain ⟨hc2, hf2⟩ := hx2.cells
    have hz2 := hx2.size
    try simp at hz2
    try have hb2_1 : w.heap.size < w2.heap.size := by omega
    try have hb2_2 : w.heap.size + 1 < w2.heap.size := by omega
    try have hb2_3 : w.heap.size + 2 < w2.heap.size := by omega
    go_wp2
    go_ret
    exact ⟨rfl, (by repeat (first | (with_reducible refine Ext.setCell ?_ (by first | (simp; done) | (simp; omega)) _) | with_reducible refine Ext.alloc ?_ _ | with_reducible refine Ext.drew ?_ | with_reducible refine Ext.drewN ?_ _ | with_reducible assumption | with_reducible exact Ext.refl _ | with_reducible refine Ext.trans ?_ (by with_reducible assumption)))⟩
  simp only [if_pos hm1] at HZ1
  have hr1 : ¬ ((1048576 : Int) - n - m - l < 0) := by omega
  have HT0 := HT0 (by omega)
  have HT1 := HT1 (by omega) (by omega)
  have HS := HS (by omega) (by omega) (by omega)
  have HI := HI (by omega) (by omega) (by omega)
  go_enter Try.func7, Try.ntmps7
  go_wp2_with fail
  refine (HZ0 _ (((Ext.refl w).alloc _).alloc _)).out.mono ?_
  rintro e w1 ⟨rfl, hx_1⟩
  have h_b1_1 : Hid (w1.heap[w.heap.size]? = some (.cells #[.int .i64 q, .slice a1 n c1] 42 (0, 0))) := heap_keep hx_1 (heap_alloc_lt (heap_alloc_new _ _))
  have h_b2_1 : Hid (w1.heap[w.heap.size + 1]? = some (.cells #[.int .i64 t, .slice a2 m c2, .slice a3 l c3] 24 (0, 0))) := heap_keep hx_1 (heap_alloc_at _ _ _ (by simp))
  have hE_1 := Lib.hid (((((Ext.refl w).alloc _).alloc _)).trans hx_1)
  have s_1 := hx_1.size
  try simp at s_1
  clear hx_1
  have z_b2 := fun k => cell_of_row _ _ k _ _ _ h_b2_1.out
  have l_b2 := (Array.getElem?_eq_some_iff.1 h_b2_1.out).1
  go_wp2_with fail
  refine (HZ1 _ hE_1.out).out.mono ?_
  rintro e w2 ⟨rfl, hx_2⟩
  have h_b1_2 : Hid (w2.heap[w.heap.size]? = some (.cells #[.int .i64 q, .slice a1 n c1] 42 (0, 0))) := heap_keep hx_2 h_b1_1.out
  have h_b2_2 : Hid (w2.heap[w.heap.size + 1]? = some (.cells #[.int .i64 t, .slice a2 m c2, .slice a3 l c3] 24 (0, 0))) := heap_keep hx_2 h_b2_1.out
  have hE_2 := Lib.hid ((hE_1.out).trans hx_2)
  have s_2 := hx_2.size
  try simp at s_2
  clear z_b2 l_b2 h_b1_1 h_b2_1 hE_1 hx_2
  have z_b1 := fun k => cell_of_row _ _ k _ _ _ h_b1_2.out
  have l_b1 := (Array.getElem?_eq_some_iff.1 h_b1_2.out).1
  have z_b2 := fun k => cell_of_row _ _ k _ _ _ h_b2_2.out
  have l_b2 := (Array.getElem?_eq_some_iff.1 h_b2_2.out).1
  have HK3 : Hid (∀ w', Ext w2 w' → (w'.cell? ⟨w.heap.size, 0, none⟩ = some (.int .i64 q) ∧ w'.cell? ⟨w.heap.size, 1, none⟩ = some (.slice a1 n c1) ∧ w'.cell? ⟨w.heap.size + 1, 0, none⟩ = some (.int .i64 t) ∧ w'.cell? ⟨w.heap.size + 1, 1, none⟩ = some (.slice a2 m c2) ∧ w'.cell? ⟨w.heap.size + 1, 2, none⟩ = some (.slice a3 l c3))) := fun w' hx =>
    ⟨(hx.cells.1 _ 0 l_b1).trans (z_b1 0), (hx.cells.1 _ 1 l_b1).trans (z_b1 1), (hx.cells.1 _ 0 l_b2).trans (z_b2 0), (hx.cells.1 _ 1 l_b2).trans (z_b2 1), (hx.cells.1 _ 2 l_b2).trans (z_b2 2)⟩
  have hE_w := hE_2.out
  go_upto_region 8 with fail
  go_cut [6, 7] from 27 (fun u6 u7 wx => ∃ (B : Nat) (aF0 : Option Addr) (cF0 : Nat), u6 = .pointer (some ⟨B, 0, none⟩) ∧ u7 = .bool ok ∧ w2.heap.size ≤ B ∧ wx.heap[B]? = some (.cells #[.int .i64 qq, .slice aF0 nn cF0] 49 (0, 0)) ∧ wx.ownsRow w2.heap.size 98 3 (.slice aF0 nn cF0) nn (IL LL) ∧ Ext w2 wx)
  case first =>
    go_region_held3 (fun w' => w'.cell? ⟨w.heap.size, 0, none⟩ = some (.int .i64 q) ∧ w'.cell? ⟨w.heap.size, 1, none⟩ = some (.slice a1 n c1) ∧ w'.cell? ⟨w.heap.size + 1, 0, none⟩ = some (.int .i64 t) ∧ w'.cell? ⟨w.heap.size + 1, 1, none⟩ = some (.slice a2 m c2) ∧ w'.cell? ⟨w.heap.size + 1, 2, none⟩ = some (.slice a3 l c3)) (exact HK3.out _ (by repeat (first | (with_reducible refine Ext.setCell ?_ (by first | (simp; done) | (simp; omega)) _) | with_reducible refine Ext.alloc ?_ _ | with_reducible refine Ext.drew ?_ | with_reducible refine Ext.drewN ?_ _ | with_reducible assumption | with_reducible exact Ext.refl _ | with_reducible refine Ext.trans ?_ (by with_reducible assumption))))
      (first
      | (go_at_call 29; (with_reducible refine Calls.mono (HT0 _ ?_).out ?_); (next => exact (by repeat (first | (with_reducible refine Ext.setCell ?_ (by first | (simp; done) | (simp; omega)) _) | with_reducible refine Ext.alloc ?_ _ | with_reducible refine Ext.drew ?_ | with_reducible refine Ext.drewN ?_ _ | with_reducible assumption | with_reducible exact Ext.refl _ | with_reducible refine Ext.trans ?_ (by with_reducible assumption)))); rintro e wA0 ⟨u0, rfl, oo0, hxA0⟩; have R0_0 := Lib.hid (RVs.own oo0 HL0_0.out); obtain ⟨aA0_0, cA0_0, rfl, q1A, q2A, q3A⟩ := own_shape oo0; clear q1A q2A q3A oo0; obtain ⟨hcA0, hfA0⟩ := hxA0.cells; have hsA0 := hxA0.size; (try simp at hsA0); (try have l2A0 : w2.heap.size < wA0.heap.size := (by omega)); (try have lA1_0 : wA1.heap.size < wA0.heap.size := (by omega)))
      | (go_at_call 16; (with_reducible refine Calls.mono (HT1 _ ?_).out ?_); (next => exact (by repeat (first | (with_reducible refine Ext.setCell ?_ (by first | (simp; done) | (simp; omega)) _) | with_reducible refine Ext.alloc ?_ _ | with_reducible refine Ext.drew ?_ | with_reducible refine Ext.drewN ?_ _ | with_reducible assumption | with_reducible exact Ext.refl _ | with_reducible refine Ext.trans ?_ (by with_reducible assumption)))); rintro e wA1 ⟨u0, u1, rfl, oo0, oo1, -, hxA1⟩; have R1_0 := Lib.hid (RV.own oo0 HL1_0.out); obtain ⟨aA1_0, cA1_0, rfl, q1A, q2A, q3A⟩ := own_shape oo0; clear q1A q2A q3A oo0; have R1_1 := Lib.hid (RV.own oo1 HL1_1.out); obtain ⟨aA1_1, cA1_1, rfl, q1A, q2A, q3A⟩ := own_shape oo1; clear q1A q2A q3A oo1; obtain ⟨hcA1, hfA1⟩ := hxA1.cells; have hsA1 := hxA1.size; (try simp at hsA1); (try have l2A1 : w2.heap.size < wA1.heap.size := (by omega)); (try have lA0_1 : wA0.heap.size < wA1.heap.size := (by omega)))
      | (go_at_call 39; (with_reducible refine Calls.mono (HS _ _ _ _ ?_ ?_ ?_).out ?_); (next => exact R0_0.out.ext (by repeat (first | (with_reducible refine Ext.setCell ?_ (by first | (simp; done) | (simp; omega)) _) | with_reducible refine Ext.alloc ?_ _ | with_reducible refine Ext.drew ?_ | with_reducible refine Ext.drewN ?_ _ | with_reducible assumption | with_reducible exact Ext.refl _ | with_reducible refine Ext.trans ?_ (by with_reducible assumption)))); (next => exact R1_0.out.ext (by repeat (first | (with_reducible refine Ext.setCell ?_ (by first | (simp; done) | (simp; omega)) _) | with_reducible refine Ext.alloc ?_ _ | with_reducible refine Ext.drew ?_ | with_reducible refine Ext.drewN ?_ _ | with_reducible assumption | with_reducible exact Ext.refl _ | with_reducible refine Ext.trans ?_ (by with_reducible assumption)))); (next => exact R1_1.out.ext (by repeat (first | (with_reducible refine Ext.setCell ?_ (by first | (simp; done) | (simp; omega)) _) | with_reducible refine Ext.alloc ?_ _ | with_reducible refine Ext.drew ?_ | with_reducible refine Ext.drewN ?_ _ | with_reducible assumption | with_reducible exact Ext.refl _ | with_reducible refine Ext.trans ?_ (by with_reducible assumption)))); rintro e wF ⟨u0, rfl, oo0, hxF⟩; have OF0 := Lib.hid oo0; obtain ⟨aF0, cF0, rfl, q1F, q2F, q3F⟩ := own_shape oo0; clear q1F q2F q3F oo0; obtain ⟨hcF, hfF⟩ := hxF.cells; have hsF := hxF.size; (try simp at hsF); (try have l2F : w2.heap.size < wF.heap.size := (by omega)); (try have lA0F : wA0.heap.size < wF.heap.size := (by omega)); (try have lA1F : wA1.heap.size < wF.heap.size := (by omega))))
    all_goals
      go_wp2_with fail
      go_meet
      refine ⟨_, aF0, cF0, rfl, rfl, ?_, ?_, ?_, (by repeat (first | (with_reducible refine Ext.setCell ?_ (by first | (simp; done) | (simp; omega)) _) | with_reducible refine Ext.alloc ?_ _ | with_reducible refine Ext.drew ?_ | with_reducible refine Ext.drewN ?_ _ | with_reducible assumption | with_reducible exact Ext.refl _ | with_reducible refine Ext.trans ?_ (by with_reducible assumption)))⟩
      · omega
      · first
        | (with_reducible exact heap_alloc_new _ _)
        | (with_reducible refine heap_set2 (a := .int .i64 0) (b := .slice none 0 0) (heap_keep hxF ?_); ((try with_reducible refine heap_dr ?_); first | (with_reducible exact heap_alloc_new _ _) | (with_reducible refine heap_keep hxA0 ?_; ((try with_reducible refine heap_dr ?_); first | (with_reducible exact heap_alloc_new _ _) | (with_reducible refine heap_keep hxA1 ?_; ((try with_reducible refine heap_dr ?_); first | (with_reducible exact heap_alloc_new _ _))))) | (with_reducible refine heap_keep hxA1 ?_; ((try with_reducible refine heap_dr ?_); first | (with_reducible exact heap_alloc_new _ _) | (with_reducible refine heap_keep hxA0 ?_; ((try with_reducible refine heap_dr ?_); first | (with_reducible exact heap_alloc_new _ _)))))))
      · first
        | (with_reducible refine own_base (own_ext OF0.out ((Ext.refl _).alloc _)) ?_; first | omega | (simp <;> omega))
        | (with_reducible refine own_base (own_set (own_set OF0.out ?_ _) ?_ _) ?_ <;> first | omega | (simp <;> omega))
  case rest =>
    clear HK3 hE_w z_b1 l_b1 z_b2 l_b2
    obtain ⟨B_3, a_3_0, c_3_0, rfl, rfl, hB_3, hb_3, o0, hx_3⟩ := hcut
    obtain ⟨w3, rfl⟩ : ∃ x, x = wc := ⟨_, rfl⟩
    have h_b1_3 : Hid (w3.heap[w.heap.size]? = some (.cells #[.int .i64 q, .slice a1 n c1] 42 (0, 0))) := heap_keep hx_3 h_b1_2.out
    have h_b2_3 : Hid (w3.heap[w.heap.size + 1]? = some (.cells #[.int .i64 t, .slice a2 m c2, .slice a3 l c3] 24 (0, 0))) := heap_keep hx_3 h_b2_2.out
    have hE_3 := Lib.hid ((hE_2.out).trans hx_3)
    have s_3 := hx_3.size
    try simp at s_3
    have h_b3_3 := Lib.hid hb_3
    have sB_3 := (Array.getElem?_eq_some_iff.1 hb_3).1
    have o_3_0_3 := Lib.hid o0
    have lim_3_0 : Hid (∀ k, (Value.slice a_3_0 nn c_3_0).ownBlock = some k → w2.heap.size ≤ k ∧ k < w3.heap.size) := fun k hk => o_3_0_3.out.lt k hk
    clear hb_3 o0 hx_3 h_b1_2 h_b2_2 hE_2
    have z_b1 := fun k => cell_of_row _ _ k _ _ _ h_b1_3.out
    have l_b1 := (Array.getElem?_eq_some_iff.1 h_b1_3.out).1
    go_wp2_with fail
    refine (HT0 _ hE_3.out).out.mono ?_
    rintro e w4 ⟨u0, rfl, o0, hx_4⟩
    have h_b1_4 : Hid (w4.heap[w.heap.size]? = some (.cells #[.int .i64 q, .slice a1 n c1] 42 (0, 0))) := heap_keep hx_4 h_b1_3.out
    have h_b2_4 : Hid (w4.heap[w.heap.size + 1]? = some (.cells #[.int .i64 t, .slice a2 m c2, .slice a3 l c3] 24 (0, 0))) := heap_keep hx_4 h_b2_3.out
    have h_b3_4 : Hid (w4.heap[B_3]? = some (.cells #[.int .i64 qq, .slice a_3_0 nn c_3_0] 49 (0, 0))) := heap_keep hx_4 h_b3_3.out
    have o_3_0_4 := Lib.hid (own_ext o_3_0_3.out hx_4)
    have hE_4 := Lib.hid ((hE_3.out).trans hx_4)
    have s_4 := hx_4.size
    try simp at s_4
    have o_4_0_4 := Lib.hid o0
    obtain ⟨a_4, c_4, rfl, p1, p2, p3⟩ := own_shape o0
    clear o0 p1 p2 p3
    have lim_4_0 : Hid (∀ k, (Value.slice a_4 n c_4).ownBlock = some k → w3.heap.size ≤ k ∧ k < w4.heap.size) := fun k hk => by have h := o_4_0_4.out.lt k hk; (try simp at h); omega
    clear z_b1 l_b1 h_b1_3 h_b2_3 h_b3_3 o_3_0_3 hE_3 hx_4
    have z_b2 := fun k => cell_of_row _ _ k _ _ _ h_b2_4.out
    have l_b2 := (Array.getElem?_eq_some_iff.1 h_b2_4.out).1
    go_wp2_with fail
    refine (HT1 _ (hE_4.out.alloc _)).out.mono ?_
    rintro e w5 ⟨u0, u1, rfl, o0, o1, ⟨sx, osx, hsx⟩, hx_5⟩
    have dj_5 := Lib.hid (fun k (h1 : u0.ownBlock = some k) (h2 : u1.ownBlock = some k) => (by have := (osx.lt k h2).1; have := hsx k h1; omega : False))
    clear osx hsx
    have h_b1_5 : Hid (w5.heap[w.heap.size]? = some (.cells #[.int .i64 q, .slice a1 n c1] 42 (0, 0))) := heap_keep hx_5 (heap_alloc_lt h_b1_4.out)
    have h_b2_5 : Hid (w5.heap[w.heap.size + 1]? = some (.cells #[.int .i64 t, .slice a2 m c2, .slice a3 l c3] 24 (0, 0))) := heap_keep hx_5 (heap_alloc_lt h_b2_4.out)
    have h_b3_5 : Hid (w5.heap[B_3]? = some (.cells #[.int .i64 qq, .slice a_3_0 nn c_3_0] 49 (0, 0))) := heap_keep hx_5 (heap_alloc_lt h_b3_4.out)
    have h_b4_5 : Hid (w5.heap[w4.heap.size]? = some (.cells #[.int .i64 q, .slice a_4 n c_4] 49 (0, 0))) := heap_keep hx_5 (heap_alloc_new _ _)
    have o_3_0_5 := Lib.hid (own_ext (own_ext o_3_0_4.out ((Ext.refl _).alloc _)) hx_5)
    have o_4_0_5 := Lib.hid (own_ext (own_ext o_4_0_4.out ((Ext.refl _).alloc _)) hx_5)
    have hE_5 := Lib.hid (((hE_4.out.alloc _)).trans hx_5)
    have s_5 := hx_5.size
    try simp at s_5
    have o_5_0_5 := Lib.hid o0
    obtain ⟨a_5_0, c_5_0, rfl, p1, p2, p3⟩ := own_shape o0
    clear o0 p1 p2 p3
    have lim_5_0 : Hid (∀ k, (Value.slice a_5_0 m c_5_0).ownBlock = some k → w4.heap.size + 1 ≤ k ∧ k < w5.heap.size) := fun k hk => by have h := o_5_0_5.out.lt k hk; (try simp at h); omega
    have o_5_1_5 := Lib.hid o1
    obtain ⟨a_5_1, c_5_1, rfl, p1, p2, p3⟩ := own_shape o1
    clear o1 p1 p2 p3
    have lim_5_1 : Hid (∀ k, (Value.slice a_5_1 l c_5_1).ownBlock = some k → w4.heap.size + 1 ≤ k ∧ k < w5.heap.size) := fun k hk => by have h := o_5_1_5.out.lt k hk; (try simp at h); omega
    clear z_b2 l_b2 h_b1_4 h_b2_4 h_b3_4 o_3_0_4 o_4_0_4 hE_4 hx_5
    have z_b4 := fun k => cell_of_row _ _ k _ _ _ h_b4_5.out
    have l_b4 := (Array.getElem?_eq_some_iff.1 h_b4_5.out).1
    go_wp2_with fail
    refine (HI _ _ _ _ (RVs.own (own_ext o_4_0_5.out ((Ext.refl _).alloc _)) HL0_0.out) (RV.own (own_ext o_5_0_5.out ((Ext.refl _).alloc _)) HL1_0.out) (RV.own (own_ext o_5_1_5.out ((Ext.refl _).alloc _)) HL1_1.out)).out.mono ?_
    rintro e w6 ⟨u0, rfl, o0, hx_6⟩
    have h_b1_6 : Hid (w6.heap[w.heap.size]? = some (.cells #[.int .i64 q, .slice a1 n c1] 42 (0, 0))) := heap_keep hx_6 (heap_alloc_lt h_b1_5.out)
    have h_b2_6 : Hid (w6.heap[w.heap.size + 1]? = some (.cells #[.int .i64 t, .slice a2 m c2, .slice a3 l c3] 24 (0, 0))) := heap_keep hx_6 (heap_alloc_lt h_b2_5.out)
    have h_b3_6 : Hid (w6.heap[B_3]? = some (.cells #[.int .i64 qq, .slice a_3_0 nn c_3_0] 49 (0, 0))) := heap_keep hx_6 (heap_alloc_lt h_b3_5.out)
    have h_b4_6 : Hid (w6.heap[w4.heap.size]? = some (.cells #[.int .i64 q, .slice a_4 n c_4] 49 (0, 0))) := heap_keep hx_6 (heap_alloc_lt h_b4_5.out)
    have h_b5_6 : Hid (w6.heap[w5.heap.size]? = some (.cells #[.int .i64 t, .slice a_5_0 m c_5_0, .slice a_5_1 l c_5_1] 29 (0, 0))) := heap_keep hx_6 (heap_alloc_new _ _)
    have o_3_0_6 := Lib.hid (own_ext (own_ext o_3_0_5.out ((Ext.refl _).alloc _)) hx_6)
    have o_4_0_6 := Lib.hid (own_ext (own_ext o_4_0_5.out ((Ext.refl _).alloc _)) hx_6)
    have o_5_0_6 := Lib.hid (own_ext (own_ext o_5_0_5.out ((Ext.refl _).alloc _)) hx_6)
    have o_5_1_6 := Lib.hid (own_ext (own_ext o_5_1_5.out ((Ext.refl _).alloc _)) hx_6)
    have hE_6 := Lib.hid (((hE_5.out.alloc _)).trans hx_6)
    have s_6 := hx_6.size
    try simp at s_6
    have o_6_0_6 := Lib.hid o0
    obtain ⟨a_6_0, c_6_0, rfl, p1, p2, p3⟩ := own_shape o0
    clear o0 p1 p2 p3
    have lim_6_0 : Hid (∀ k, (Value.slice a_6_0 nn c_6_0).ownBlock = some k → w5.heap.size + 1 ≤ k ∧ k < w6.heap.size) := fun k hk => by have h := o_6_0_6.out.lt k hk; (try simp at h); omega
    clear z_b4 l_b4 h_b1_5 h_b2_5 h_b3_5 h_b4_5 o_3_0_5 o_4_0_5 o_5_0_5 o_5_1_5 hE_5 hx_6
    have z_b3 := fun k => cell_of_row _ _ k _ _ _ h_b3_6.out
    have l_b3 := (Array.getElem?_eq_some_iff.1 h_b3_6.out).1
    go_wp2_with fail
    refine (eqCircuit_same qq HLL.out (by omega) _ (own_ext o_6_0_6.out ((Ext.refl _).alloc _)) (own_ext o_3_0_6.out ((Ext.refl _).alloc _))).mono ?_
    rintro e w7 ⟨rfl, hx_7⟩
    have h_b1_7 : Hid (w7.heap[w.heap.size]? = some (.cells #[.int .i64 q, .slice a1 n c1] 42 (0, 0))) := heap_keep hx_7 (heap_alloc_lt h_b1_6.out)
    have h_b2_7 : Hid (w7.heap[w.heap.size + 1]? = some (.cells #[.int .i64 t, .slice a2 m c2, .slice a3 l c3] 24 (0, 0))) := heap_keep hx_7 (heap_alloc_lt h_b2_6.out)
    have h_b3_7 : Hid (w7.heap[B_3]? = some (.cells #[.int .i64 qq, .slice a_3_0 nn c_3_0] 49 (0, 0))) := heap_keep hx_7 (heap_alloc_lt h_b3_6.out)
    have h_b4_7 : Hid (w7.heap[w4.heap.size]? = some (.cells #[.int .i64 q, .slice a_4 n c_4] 49 (0, 0))) := heap_keep hx_7 (heap_alloc_lt h_b4_6.out)
    have h_b5_7 : Hid (w7.heap[w5.heap.size]? = some (.cells #[.int .i64 t, .slice a_5_0 m c_5_0, .slice a_5_1 l c_5_1] 29 (0, 0))) := heap_keep hx_7 (heap_alloc_lt h_b5_6.out)
    have h_b6_7 : Hid (w7.heap[w6.heap.size]? = some (.cells #[.int .i64 qq, .slice a_6_0 nn c_6_0] 49 (0, 0))) := heap_keep hx_7 (heap_alloc_new _ _)
    have o_3_0_7 := Lib.hid (own_ext (own_ext o_3_0_6.out ((Ext.refl _).alloc _)) hx_7)
    have o_4_0_7 := Lib.hid (own_ext (own_ext o_4_0_6.out ((Ext.refl _).alloc _)) hx_7)
    have o_5_0_7 := Lib.hid (own_ext (own_ext o_5_0_6.out ((Ext.refl _).alloc _)) hx_7)
    have o_5_1_7 := Lib.hid (own_ext (own_ext o_5_1_6.out ((Ext.refl _).alloc _)) hx_7)
    have o_6_0_7 := Lib.hid (own_ext (own_ext o_6_0_6.out ((Ext.refl _).alloc _)) hx_7)
    have hE_7 := Lib.hid (((hE_6.out.alloc _)).trans hx_7)
    have s_7 := hx_7.size
    try simp at s_7
    clear z_b3 l_b3 h_b1_6 h_b2_6 h_b3_6 h_b4_6 h_b5_6 o_3_0_6 o_4_0_6 o_5_0_6 o_5_1_6 o_6_0_6 hE_6 hx_7
    -- arguments as they were
    have z_b4 := fun k => cell_of_row _ _ k _ _ _ h_b4_7.out
    have l_b4 := (Array.getElem?_eq_some_iff.1 h_b4_7.out).1
    have z_b1 := fun k => cell_of_row _ _ k _ _ _ h_b1_7.out
    have l_b1 := (Array.getElem?_eq_some_iff.1 h_b1_7.out).1
    have HK : Hid (∀ w', Ext w7 w' → (w'.cell? ⟨w4.heap.size, 0, none⟩ = some (.int .i64 q) ∧ w'.cell? ⟨w4.heap.size, 1, none⟩ = some (.slice a_4 n c_4) ∧ w'.cell? ⟨w.heap.size, 0, none⟩ = some (.int .i64 q) ∧ w'.cell? ⟨w.heap.size, 1, none⟩ = some (.slice a1 n c1))) := fun w' hx =>
      ⟨(hx.cells.1 _ 0 l_b4).trans (z_b4 0), (hx.cells.1 _ 1 l_b4).trans (z_b4 1), (hx.cells.1 _ 0 l_b1).trans (z_b1 0), (hx.cells.1 _ 1 l_b1).trans (z_b1 1)⟩
    have hE_ := hE_7.out
    go_wp2_with fail
    go_region_held3 (fun w' => w'.cell? ⟨w4.heap.size, 0, none⟩ = some (.int .i64 q) ∧ w'.cell? ⟨w4.heap.size, 1, none⟩ = some (.slice a_4 n c_4) ∧ w'.cell? ⟨w.heap.size, 0, none⟩ = some (.int .i64 q) ∧ w'.cell? ⟨w.heap.size, 1, none⟩ = some (.slice a1 n c1)) (exact HK.out _ (by repeat (first | (with_reducible refine Ext.setCell ?_ (by first | (simp; done) | (simp; omega)) _) | with_reducible refine Ext.alloc ?_ _ | with_reducible refine Ext.drew ?_ | with_reducible refine Ext.drewN ?_ _ | with_reducible assumption | with_reducible exact Ext.refl _ | with_reducible refine Ext.trans ?_ (by with_reducible assumption))))
      (first
      | (go_at_call 29; (with_reducible refine (HT0 _ (by repeat (first | (with_reducible refine Ext.setCell ?_ (by first | (simp; done) | (simp; omega)) _) | with_reducible refine Ext.alloc ?_ _ | with_reducible refine Ext.drew ?_ | with_reducible refine Ext.drewN ?_ _ | with_reducible assumption | with_reducible exact Ext.refl _ | with_reducible refine Ext.trans ?_ (by with_reducible assumption)))).out.mono ?_); rintro e w8 ⟨u0, rfl, oo0, hx_8⟩; have OO0 := Lib.hid oo0; obtain ⟨aE0, cE0, rfl, q1E, q2E, q3E⟩ := own_shape oo0; clear q1E q2E q3E oo0)
      | (go_at_call 32; (with_reducible refine (eqCircuit_same q HL0_0.out (by omega) _ (own_ext o_4_0_7.out (by repeat (first | (with_reducible refine Ext.setCell ?_ (by first | (simp; done) | (simp; omega)) _) | with_reducible refine Ext.alloc ?_ _ | with_reducible refine Ext.drew ?_ | with_reducible refine Ext.drewN ?_ _ | with_reducible assumption | with_reducible exact Ext.refl _ | with_reducible refine Ext.trans ?_ (by with_reducible assumption)))) OO0.out).mono ?_); rintro e w9 ⟨rfl, hx_9⟩))
    have hxx_9 : Ext w7 w9 := (by repeat (first | (with_reducible refine Ext.setCell ?_ (by first | (simp; done) | (simp; omega)) _) | with_reducible refine Ext.alloc ?_ _ | with_reducible refine Ext.drew ?_ | with_reducible refine Ext.drewN ?_ _ | with_reducible assumption | with_reducible exact Ext.refl _ | with_reducible refine Ext.trans ?_ (by with_reducible assumption)))
    have h_b1_9 : Hid (w9.heap[w.heap.size]? = some (.cells #[.int .i64 q, .slice a1 n c1] 42 (0, 0))) := heap_keep hxx_9 h_b1_7.out
    have h_b2_9 : Hid (w9.heap[w.heap.size + 1]? = some (.cells #[.int .i64 t, .slice a2 m c2, .slice a3 l c3] 24 (0, 0))) := heap_keep hxx_9 h_b2_7.out
    have h_b3_9 : Hid (w9.heap[B_3]? = some (.cells #[.int .i64 qq, .slice a_3_0 nn c_3_0] 49 (0, 0))) := heap_keep hxx_9 h_b3_7.out
    have h_b4_9 : Hid (w9.heap[w4.heap.size]? = some (.cells #[.int .i64 q, .slice a_4 n c_4] 49 (0, 0))) := heap_keep hxx_9 h_b4_7.out
    have h_b5_9 : Hid (w9.heap[w5.heap.size]? = some (.cells #[.int .i64 t, .slice a_5_0 m c_5_0, .slice a_5_1 l c_5_1] 29 (0, 0))) := heap_keep hxx_9 h_b5_7.out
    have h_b6_9 : Hid (w9.heap[w6.heap.size]? = some (.cells #[.int .i64 qq, .slice a_6_0 nn c_6_0] 49 (0, 0))) := heap_keep hxx_9 h_b6_7.out
    have o_3_0_9 := Lib.hid (own_ext o_3_0_7.out hxx_9)
    have o_4_0_9 := Lib.hid (own_ext o_4_0_7.out hxx_9)
    have o_5_0_9 := Lib.hid (own_ext o_5_0_7.out hxx_9)
    have o_5_1_9 := Lib.hid (own_ext o_5_1_7.out hxx_9)
    have o_6_0_9 := Lib.hid (own_ext o_6_0_7.out hxx_9)
    have hE_9 := Lib.hid ((hE_7.out).trans hxx_9)
    have s_9 := hxx_9.size
    try simp at s_9
    clear z_b4 l_b4 z_b1 l_b1 h_b1_7 h_b2_7 h_b3_7 h_b4_7 h_b5_7 h_b6_7 o_3_0_7 o_4_0_7 o_5_0_7 o_5_1_7 o_6_0_7 hE_7 hx_8 hx_9 hxx_9 HK hE_ OO0
    -- arguments as they were
    have z_b5 := fun k => cell_of_row _ _ k _ _ _ h_b5_9.out
    have l_b5 := (Array.getElem?_eq_some_iff.1 h_b5_9.out).1
    have z_b2 := fun k => cell_of_row _ _ k _ _ _ h_b2_9.out
    have l_b2 := (Array.getElem?_eq_some_iff.1 h_b2_9.out).1
    have HK : Hid (∀ w', Ext w9 w' → (w'.cell? ⟨w5.heap.size, 0, none⟩ = some (.int .i64 t) ∧ w'.cell? ⟨w5.heap.size, 1, none⟩ = some (.slice a_5_0 m c_5_0) ∧ w'.cell? ⟨w5.heap.size, 2, none⟩ = some (.slice a_5_1 l c_5_1) ∧ w'.cell? ⟨w.heap.size + 1, 0, none⟩ = some (.int .i64 t) ∧ w'.cell? ⟨w.heap.size + 1, 1, none⟩ = some (.slice a2 m c2) ∧ w'.cell? ⟨w.heap.size + 1, 2, none⟩ = some (.slice a3 l c3))) := fun w' hx =>
      ⟨(hx.cells.1 _ 0 l_b5).trans (z_b5 0), (hx.cells.1 _ 1 l_b5).trans (z_b5 1), (hx.cells.1 _ 2 l_b5).trans (z_b5 2), (hx.cells.1 _ 0 l_b2).trans (z_b2 0), (hx.cells.1 _ 1 l_b2).trans (z_b2 1), (hx.cells.1 _ 2 l_b2).trans (z_b2 2)⟩
    have hE_ := hE_9.out
    go_wp2_with fail
    go_region_held3 (fun w' => w'.cell? ⟨w5.heap.size, 0, none⟩ = some (.int .i64 t) ∧ w'.cell? ⟨w5.heap.size, 1, none⟩ = some (.slice a_5_0 m c_5_0) ∧ w'.cell? ⟨w5.heap.size, 2, none⟩ = some (.slice a_5_1 l c_5_1) ∧ w'.cell? ⟨w.heap.size + 1, 0, none⟩ = some (.int .i64 t) ∧ w'.cell? ⟨w.heap.size + 1, 1, none⟩ = some (.slice a2 m c2) ∧ w'.cell? ⟨w.heap.size + 1, 2, none⟩ = some (.slice a3 l c3)) (exact HK.out _ (by repeat (first | (with_reducible refine Ext.setCell ?_ (by first | (simp; done) | (simp; omega)) _) | with_reducible refine Ext.alloc ?_ _ | with_reducible refine Ext.drew ?_ | with_reducible refine Ext.drewN ?_ _ | with_reducible assumption | with_reducible exact Ext.refl _ | with_reducible refine Ext.trans ?_ (by with_reducible assumption))))
      (first
      | (go_at_call 16; (with_reducible refine (HT1 _ (by repeat (first | (with_reducible refine Ext.setCell ?_ (by first | (simp; done) | (simp; omega)) _) | with_reducible refine Ext.alloc ?_ _ | with_reducible refine Ext.drew ?_ | with_reducible refine Ext.drewN ?_ _ | with_reducible assumption | with_reducible exact Ext.refl _ | with_reducible refine Ext.trans ?_ (by with_reducible assumption)))).out.mono ?_); rintro e w10 ⟨u0, u1, rfl, oo0, oo1, -, hx_10⟩; have OO0 := Lib.hid oo0; obtain ⟨aE0, cE0, rfl, q1E, q2E, q3E⟩ := own_shape oo0; clear q1E q2E q3E oo0; have OO1 := Lib.hid oo1; obtain ⟨aE1, cE1, rfl, q1E, q2E, q3E⟩ := own_shape oo1; clear q1E q2E q3E oo1)
      | (go_at_call 18; (with_reducible refine (eqReplacement_same t HL1_0.out (by omega) HL1_1.out (by omega) _ (own_ext o_5_0_9.out (by repeat (first | (with_reducible refine Ext.setCell ?_ (by first | (simp; done) | (simp; omega)) _) | with_reducible refine Ext.alloc ?_ _ | with_reducible refine Ext.drew ?_ | with_reducible refine Ext.drewN ?_ _ | with_reducible assumption | with_reducible exact Ext.refl _ | with_reducible refine Ext.trans ?_ (by with_reducible assumption)))) (own_ext o_5_1_9.out (by repeat (first | (with_reducible refine Ext.setCell ?_ (by first | (simp; done) | (simp; omega)) _) | with_reducible refine Ext.alloc ?_ _ | with_reducible refine Ext.drew ?_ | with_reducible refine Ext.drewN ?_ _ | with_reducible assumption | with_reducible exact Ext.refl _ | with_reducible refine Ext.trans ?_ (by with_reducible assumption)))) OO0.out OO1.out).mono ?_); rintro e w11 ⟨rfl, hx_11⟩))
    have hxx_11 : Ext w9 w11 := (by repeat (first | (with_reducible refine Ext.setCell ?_ (by first | (simp; done) | (simp; omega)) _) | with_reducible refine Ext.alloc ?_ _ | with_reducible refine Ext.drew ?_ | with_reducible refine Ext.drewN ?_ _ | with_reducible assumption | with_reducible exact Ext.refl _ | with_reducible refine Ext.trans ?_ (by with_reducible assumption)))
    have h_b1_11 : Hid (w11.heap[w.heap.size]? = some (.cells #[.int .i64 q, .slice a1 n c1] 42 (0, 0))) := heap_keep hxx_11 h_b1_9.out
    have h_b2_11 : Hid (w11.heap[w.heap.size + 1]? = some (.cells #[.int .i64 t, .slice a2 m c2, .slice a3 l c3] 24 (0, 0))) := heap_keep hxx_11 h_b2_9.out
    have h_b3_11 : Hid (w11.heap[B_3]? = some (.cells #[.int .i64 qq, .slice a_3_0 nn c_3_0] 49 (0, 0))) := heap_keep hxx_11 h_b3_9.out
    have h_b4_11 : Hid (w11.heap[w4.heap.size]? = some (.cells #[.int .i64 q, .slice a_4 n c_4] 49 (0, 0))) := heap_keep hxx_11 h_b4_9.out
    have h_b5_11 : Hid (w11.heap[w5.heap.size]? = some (.cells #[.int .i64 t, .slice a_5_0 m c_5_0, .slice a_5_1 l c_5_1] 29 (0, 0))) := heap_keep hxx_11 h_b5_9.out
    have h_b6_11 : Hid (w11.heap[w6.heap.size]? = some (.cells #[.int .i64 qq, .slice a_6_0 nn c_6_0] 49 (0, 0))) := heap_keep hxx_11 h_b6_9.out
    have o_3_0_11 := Lib.hid (own_ext o_3_0_9.out hxx_11)
    have o_4_0_11 := Lib.hid (own_ext o_4_0_9.out hxx_11)
    have o_5_0_11 := Lib.hid (own_ext o_5_0_9.out hxx_11)
    have o_5_1_11 := Lib.hid (own_ext o_5_1_9.out hxx_11)
    have o_6_0_11 := Lib.hid (own_ext o_6_0_9.out hxx_11)
    have hE_11 := Lib.hid ((hE_9.out).trans hxx_11)
    have s_11 := hxx_11.size
    try simp at s_11
    clear z_b5 l_b5 z_b2 l_b2 h_b1_9 h_b2_9 h_b3_9 h_b4_9 h_b5_9 h_b6_9 o_3_0_9 o_4_0_9 o_5_0_9 o_5_1_9 o_6_0_9 hE_9 hx_10 hx_11 hxx_11 HK hE_ OO0 OO1
    have z_b4 := fun k => cell_of_row _ _ k _ _ _ h_b4_11.out
    have l_b4 := (Array.getElem?_eq_some_iff.1 h_b4_11.out).1
    go_wp2_with fail
    refine (markCircuit_any q (by rw [il_length]; exact HL0_0.out) (by omega) (1) (by omega) _ o_4_0_11.out).mono ?_
    rintro e w12 ⟨rfl, om_12, hg_12⟩
    have h_b1_12 : Hid (w12.heap[w.heap.size]? = some (.cells #[.int .i64 q, .slice a1 n c1] 42 (0, 0))) := heap_far hg_12 (heap_alloc_lt h_b1_11.out) (fun j hj => by have := lim_4_0.out j hj; omega)
    have h_b2_12 : Hid (w12.heap[w.heap.size + 1]? = some (.cells #[.int .i64 t, .slice a2 m c2, .slice a3 l c3] 24 (0, 0))) := heap_far hg_12 (heap_alloc_lt h_b2_11.out) (fun j hj => by have := lim_4_0.out j hj; omega)
    have h_b3_12 : Hid (w12.heap[B_3]? = some (.cells #[.int .i64 qq, .slice a_3_0 nn c_3_0] 49 (0, 0))) := heap_far hg_12 (heap_alloc_lt h_b3_11.out) (fun j hj => by have := lim_4_0.out j hj; omega)
    have h_b4_12 : Hid (w12.heap[w4.heap.size]? = some (.cells #[.int .i64 q, .slice a_4 n c_4] 49 (0, 0))) := heap_far hg_12 (heap_alloc_lt h_b4_11.out) (fun j hj => by have := lim_4_0.out j hj; omega)
    have h_b5_12 : Hid (w12.heap[w5.heap.size]? = some (.cells #[.int .i64 t, .slice a_5_0 m c_5_0, .slice a_5_1 l c_5_1] 29 (0, 0))) := heap_far hg_12 (heap_alloc_lt h_b5_11.out) (fun j hj => by have := lim_4_0.out j hj; omega)
    have h_b6_12 : Hid (w12.heap[w6.heap.size]? = some (.cells #[.int .i64 qq, .slice a_6_0 nn c_6_0] 49 (0, 0))) := heap_far hg_12 (heap_alloc_lt h_b6_11.out) (fun j hj => by have := lim_4_0.out j hj; omega)
    have o_3_0_12 := Lib.hid (own_far (own_ext o_3_0_11.out ((Ext.refl _).alloc _)) hg_12 (fun j hj k hk => by have := lim_4_0.out j hj; have := lim_3_0.out k hk; omega))
    have o_5_0_12 := Lib.hid (own_far (own_ext o_5_0_11.out ((Ext.refl _).alloc _)) hg_12 (fun j hj k hk => by have := lim_4_0.out j hj; have := lim_5_0.out k hk; omega))
    have o_5_1_12 := Lib.hid (own_far (own_ext o_5_1_11.out ((Ext.refl _).alloc _)) hg_12 (fun j hj k hk => by have := lim_4_0.out j hj; have := lim_5_1.out k hk; omega))
    have o_6_0_12 := Lib.hid (own_far (own_ext o_6_0_11.out ((Ext.refl _).alloc _)) hg_12 (fun j hj k hk => by have := lim_4_0.out j hj; have := lim_6_0.out k hk; omega))
    have hE_12 := Lib.hid (Ext.grown ((hE_11.out.alloc _)) hg_12 (fun k hk => by have := lim_4_0.out k hk; omega))
    have s_12 := hg_12.size
    try simp at s_12
    have o_4_0_12 := Lib.hid om_12
    clear z_b4 l_b4 h_b1_11 h_b2_11 h_b3_11 h_b4_11 h_b5_11 h_b6_11 o_3_0_11 o_5_0_11 o_5_1_11 o_6_0_11 hE_11 o_4_0_11 om_12 hg_12
    have z_b5 := fun k => cell_of_row _ _ k _ _ _ h_b5_12.out
    have l_b5 := (Array.getElem?_eq_some_iff.1 h_b5_12.out).1
    go_wp2_with fail
    refine (markReplacement_any t (by rw [il_length]; exact HL1_0.out) (by rw [il_length]; exact HL1_1.out) (by omega) (by omega) (1 + (n : Int) * 3) (by omega) _ o_5_0_12.out o_5_1_12.out dj_5.out lim_5_0.out lim_5_1.out).mono ?_
    rintro e w13 ⟨rfl, hz_13⟩
    have h_b1_13 : Hid (w13.heap[w.heap.size]? = some (.cells #[.int .i64 q, .slice a1 n c1] 42 (0, 0))) := heap_zn hz_13 h_b1_12.out (by omega)
    have h_b2_13 : Hid (w13.heap[w.heap.size + 1]? = some (.cells #[.int .i64 t, .slice a2 m c2, .slice a3 l c3] 24 (0, 0))) := heap_zn hz_13 h_b2_12.out (by omega)
    have h_b3_13 : Hid (w13.heap[B_3]? = some (.cells #[.int .i64 qq, .slice a_3_0 nn c_3_0] 49 (0, 0))) := heap_zn hz_13 h_b3_12.out (by omega)
    have h_b5_13 : Hid (w13.heap[w5.heap.size]? = some (.cells #[.int .i64 t, .slice a_5_0 m c_5_0, .slice a_5_1 l c_5_1] 29 (0, 0))) := heap_zn hz_13 h_b5_12.out (by omega)
    have h_b6_13 : Hid (w13.heap[w6.heap.size]? = some (.cells #[.int .i64 qq, .slice a_6_0 nn c_6_0] 49 (0, 0))) := heap_zn hz_13 h_b6_12.out (by omega)
    have o_3_0_13 := Lib.hid (own_zn o_3_0_12.out hz_13 (fun k hk => by have := lim_3_0.out k hk; omega))
    have o_6_0_13 := Lib.hid (own_zn o_6_0_12.out hz_13 (fun k hk => by have := lim_6_0.out k hk; omega))
    have hE_13 := Lib.hid (Ext.zn (hE_12.out) hz_13 (by omega))
    have s_13 := hz_13.size
    try simp at s_13
    clear z_b5 l_b5 h_b1_12 h_b2_12 h_b3_12 h_b4_12 h_b5_12 h_b6_12 o_3_0_12 o_4_0_12 o_6_0_12 hE_12 o_5_0_12 o_5_1_12 hz_13
    have z_b6 := fun k => cell_of_row _ _ k _ _ _ h_b6_13.out
    have l_b6 := (Array.getElem?_eq_some_iff.1 h_b6_13.out).1
    have z_b3 := fun k => cell_of_row _ _ k _ _ _ h_b3_13.out
    have l_b3 := (Array.getElem?_eq_some_iff.1 h_b3_13.out).1
    go_wp2_with fail
    refine (eqCircuit_same qq HLL.out (by omega) _ o_6_0_13.out o_3_0_13.out).mono ?_
    rintro e w14 ⟨rfl, hx_14⟩
    have h_b1_14 : Hid (w14.heap[w.heap.size]? = some (.cells #[.int .i64 q, .slice a1 n c1] 42 (0, 0))) := heap_keep hx_14 h_b1_13.out
    have h_b2_14 : Hid (w14.heap[w.heap.size + 1]? = some (.cells #[.int .i64 t, .slice a2 m c2, .slice a3 l c3] 24 (0, 0))) := heap_keep hx_14 h_b2_13.out
    have h_b3_14 : Hid (w14.heap[B_3]? = some (.cells #[.int .i64 qq, .slice a_3_0 nn c_3_0] 49 (0, 0))) := heap_keep hx_14 h_b3_13.out
    have h_b6_14 : Hid (w14.heap[w6.heap.size]? = some (.cells #[.int .i64 qq, .slice a_6_0 nn c_6_0] 49 (0, 0))) := heap_keep hx_14 h_b6_13.out
    have o_3_0_14 := Lib.hid (own_ext o_3_0_13.out hx_14)
    have o_6_0_14 := Lib.hid (own_ext o_6_0_13.out hx_14)
    have hE_14 := Lib.hid ((hE_13.out).trans hx_14)
    have s_14 := hx_14.size
    try simp at s_14
    clear z_b6 l_b6 z_b3 l_b3 h_b1_13 h_b2_13 h_b3_13 h_b5_13 h_b6_13 o_3_0_13 o_6_0_13 hE_13 hx_14
    have z_b6 := fun k => cell_of_row _ _ k _ _ _ h_b6_14.out
    have l_b6 := (Array.getElem?_eq_some_iff.1 h_b6_14.out).1
    go_wp2_with fail
    refine (markCircuit_any qq (by rw [il_length]; exact HLL.out) (by omega) (1) (by omega) _ o_6_0_14.out).mono ?_
    rintro e w15 ⟨rfl, om_15, hg_15⟩
    have h_b1_15 : Hid (w15.heap[w.heap.size]? = some (.cells #[.int .i64 q, .slice a1 n c1] 42 (0, 0))) := heap_far hg_15 (heap_alloc_lt h_b1_14.out) (fun j hj => by have := lim_6_0.out j hj; omega)
    have h_b2_15 : Hid (w15.heap[w.heap.size + 1]? = some (.cells #[.int .i64 t, .slice a2 m c2, .slice a3 l c3] 24 (0, 0))) := heap_far hg_15 (heap_alloc_lt h_b2_14.out) (fun j hj => by have := lim_6_0.out j hj; omega)
    have h_b3_15 : Hid (w15.heap[B_3]? = some (.cells #[.int .i64 qq, .slice a_3_0 nn c_3_0] 49 (0, 0))) := heap_far hg_15 (heap_alloc_lt h_b3_14.out) (fun j hj => by have := lim_6_0.out j hj; omega)
    have h_b6_15 : Hid (w15.heap[w6.heap.size]? = some (.cells #[.int .i64 qq, .slice a_6_0 nn c_6_0] 49 (0, 0))) := heap_far hg_15 (heap_alloc_lt h_b6_14.out) (fun j hj => by have := lim_6_0.out j hj; omega)
    have o_3_0_15 := Lib.hid (own_far (own_ext o_3_0_14.out ((Ext.refl _).alloc _)) hg_15 (fun j hj k hk => by have := lim_6_0.out j hj; have := lim_3_0.out k hk; omega))
    have hE_15 := Lib.hid (Ext.grown ((hE_14.out.alloc _)) hg_15 (fun k hk => by have := lim_6_0.out k hk; omega))
    have s_15 := hg_15.size
    try simp at s_15
    have o_6_0_15 := Lib.hid om_15
    clear z_b6 l_b6 h_b1_14 h_b2_14 h_b3_14 h_b6_14 o_3_0_14 hE_14 o_6_0_14 om_15 hg_15
    have z_b6 := fun k => cell_of_row _ _ k _ _ _ h_b6_15.out
    have l_b6 := (Array.getElem?_eq_some_iff.1 h_b6_15.out).1
    go_wp2_with fail
    refine (heldCircuit_any qq (by omega) (1) (by omega) _ o_6_0_15.out).mono ?_
    rintro e w16 ⟨rfl, hx_16⟩
    have h_b1_16 : Hid (w16.heap[w.heap.size]? = some (.cells #[.int .i64 q, .slice a1 n c1] 42 (0, 0))) := heap_keep hx_16 h_b1_15.out
    have h_b2_16 : Hid (w16.heap[w.heap.size + 1]? = some (.cells #[.int .i64 t, .slice a2 m c2, .slice a3 l c3] 24 (0, 0))) := heap_keep hx_16 h_b2_15.out
    have h_b3_16 : Hid (w16.heap[B_3]? = some (.cells #[.int .i64 qq, .slice a_3_0 nn c_3_0] 49 (0, 0))) := heap_keep hx_16 h_b3_15.out
    have h_b6_16 : Hid (w16.heap[w6.heap.size]? = some (.cells #[.int .i64 qq, .slice a_6_0 nn c_6_0] 49 (0, 0))) := heap_keep hx_16 h_b6_15.out
    have o_3_0_16 := Lib.hid (own_ext o_3_0_15.out hx_16)
    have o_6_0_16 := Lib.hid (own_ext o_6_0_15.out hx_16)
    have hE_16 := Lib.hid ((hE_15.out).trans hx_16)
    have s_16 := hx_16.size
    try simp at s_16
    clear z_b6 l_b6 h_b1_15 h_b2_15 h_b3_15 h_b6_15 o_3_0_15 o_6_0_15 hE_15 hx_16
    have z_b1 := fun k => cell_of_row _ _ k _ _ _ h_b1_16.out
    have l_b1 := (Array.getElem?_eq_some_iff.1 h_b1_16.out).1
    have z_b2 := fun k => cell_of_row _ _ k _ _ _ h_b2_16.out
    have l_b2 := (Array.getElem?_eq_some_iff.1 h_b2_16.out).1
    have HK17 : Hid (∀ w', Ext w16 w' → (w'.cell? ⟨w.heap.size, 0, none⟩ = some (.int .i64 q) ∧ w'.cell? ⟨w.heap.size, 1, none⟩ = some (.slice a1 n c1) ∧ w'.cell? ⟨w.heap.size + 1, 0, none⟩ = some (.int .i64 t) ∧ w'.cell? ⟨w.heap.size + 1, 1, none⟩ = some (.slice a2 m c2) ∧ w'.cell? ⟨w.heap.size + 1, 2, none⟩ = some (.slice a3 l c3))) := fun w' hx =>
      ⟨(hx.cells.1 _ 0 l_b1).trans (z_b1 0), (hx.cells.1 _ 1 l_b1).trans (z_b1 1), (hx.cells.1 _ 0 l_b2).trans (z_b2 0), (hx.cells.1 _ 1 l_b2).trans (z_b2 1), (hx.cells.1 _ 2 l_b2).trans (z_b2 2)⟩
    have hE_w := hE_16.out
    go_upto_region 31 with fail
    go_cut [15, 16] from 94 (fun u15 u16 wx => ∃ (B : Nat) (aF0 : Option Addr) (cF0 : Nat), u15 = .pointer (some ⟨B, 0, none⟩) ∧ u16 = .bool ok ∧ w16.heap.size ≤ B ∧ wx.heap[B]? = some (.cells #[.int .i64 qq, .slice aF0 nn cF0] 49 (0, 0)) ∧ wx.ownsRow w16.heap.size 98 3 (.slice aF0 nn cF0) nn (IL LL) ∧ Ext w16 wx)
    case first =>
      go_region_held3 (fun w' => w'.cell? ⟨w.heap.size, 0, none⟩ = some (.int .i64 q) ∧ w'.cell? ⟨w.heap.size, 1, none⟩ = some (.slice a1 n c1) ∧ w'.cell? ⟨w.heap.size + 1, 0, none⟩ = some (.int .i64 t) ∧ w'.cell? ⟨w.heap.size + 1, 1, none⟩ = some (.slice a2 m c2) ∧ w'.cell? ⟨w.heap.size + 1, 2, none⟩ = some (.slice a3 l c3)) (exact HK17.out _ (by repeat (first | (with_reducible refine Ext.setCell ?_ (by first | (simp; done) | (simp; omega)) _) | with_reducible refine Ext.alloc ?_ _ | with_reducible refine Ext.drew ?_ | with_reducible refine Ext.drewN ?_ _ | with_reducible assumption | with_reducible exact Ext.refl _ | with_reducible refine Ext.trans ?_ (by with_reducible assumption))))
        (first
        | (go_at_call 29; (with_reducible refine Calls.mono (HT0 _ ?_).out ?_); (next => exact (by repeat (first | (with_reducible refine Ext.setCell ?_ (by first | (simp; done) | (simp; omega)) _) | with_reducible refine Ext.alloc ?_ _ | with_reducible refine Ext.drew ?_ | with_reducible refine Ext.drewN ?_ _ | with_reducible assumption | with_reducible exact Ext.refl _ | with_reducible refine Ext.trans ?_ (by with_reducible assumption)))); rintro e wA0 ⟨u0, rfl, oo0, hxA0⟩; have R0_0 := Lib.hid (RVs.own oo0 HL0_0.out); obtain ⟨aA0_0, cA0_0, rfl, q1A, q2A, q3A⟩ := own_shape oo0; clear q1A q2A q3A oo0; obtain ⟨hcA0, hfA0⟩ := hxA0.cells; have hsA0 := hxA0.size; (try simp at hsA0); (try have l2A0 : w16.heap.size < wA0.heap.size := (by omega)); (try have lA1_0 : wA1.heap.size < wA0.heap.size := (by omega)))
        | (go_at_call 16; (with_reducible refine Calls.mono (HT1 _ ?_).out ?_); (next => exact (by repeat (first | (with_reducible refine Ext.setCell ?_ (by first | (simp; done) | (simp; omega)) _) | with_reducible refine Ext.alloc ?_ _ | with_reducible refine Ext.drew ?_ | with_reducible refine Ext.drewN ?_ _ | with_reducible assumption | with_reducible exact Ext.refl _ | with_reducible refine Ext.trans ?_ (by with_reducible assumption)))); rintro e wA1 ⟨u0, u1, rfl, oo0, oo1, -, hxA1⟩; have R1_0 := Lib.hid (RV.own oo0 HL1_0.out); obtain ⟨aA1_0, cA1_0, rfl, q1A, q2A, q3A⟩ := own_shape oo0; clear q1A q2A q3A oo0; have R1_1 := Lib.hid (RV.own oo1 HL1_1.out); obtain ⟨aA1_1, cA1_1, rfl, q1A, q2A, q3A⟩ := own_shape oo1; clear q1A q2A q3A oo1; obtain ⟨hcA1, hfA1⟩ := hxA1.cells; have hsA1 := hxA1.size; (try simp at hsA1); (try have l2A1 : w16.heap.size < wA1.heap.size := (by omega)); (try have lA0_1 : wA0.heap.size < wA1.heap.size := (by omega)))
        | (go_at_call 40; (with_reducible refine Calls.mono (HI _ _ _ _ ?_ ?_ ?_).out ?_); (next => exact R0_0.out.ext (by repeat (first | (with_reducible refine Ext.setCell ?_ (by first | (simp; done) | (simp; omega)) _) | with_reducible refine Ext.alloc ?_ _ | with_reducible refine Ext.drew ?_ | with_reducible refine Ext.drewN ?_ _ | with_reducible assumption | with_reducible exact Ext.refl _ | with_reducible refine Ext.trans ?_ (by with_reducible assumption)))); (next => exact R1_0.out.ext (by repeat (first | (with_reducible refine Ext.setCell ?_ (by first | (simp; done) | (simp; omega)) _) | with_reducible refine Ext.alloc ?_ _ | with_reducible refine Ext.drew ?_ | with_reducible refine Ext.drewN ?_ _ | with_reducible assumption | with_reducible exact Ext.refl _ | with_reducible refine Ext.trans ?_ (by with_reducible assumption)))); (next => exact R1_1.out.ext (by repeat (first | (with_reducible refine Ext.setCell ?_ (by first | (simp; done) | (simp; omega)) _) | with_reducible refine Ext.alloc ?_ _ | with_reducible refine Ext.drew ?_ | with_reducible refine Ext.drewN ?_ _ | with_reducible assumption | with_reducible exact Ext.refl _ | with_reducible refine Ext.trans ?_ (by with_reducible assumption)))); rintro e wF ⟨u0, rfl, oo0, hxF⟩; have OF0 := Lib.hid oo0; obtain ⟨aF0, cF0, rfl, q1F, q2F, q3F⟩ := own_shape oo0; clear q1F q2F q3F oo0; obtain ⟨hcF, hfF⟩ := hxF.cells; have hsF := hxF.size; (try simp at hsF); (try have l2F : w16.heap.size < wF.heap.size := (by omega)); (try have lA0F : wA0.heap.size < wF.heap.size := (by omega)); (try have lA1F : wA1.heap.size < wF.heap.size := (by omega))))
      all_goals
        go_wp2_with fail
        go_meet
        refine ⟨_, aF0, cF0, rfl, rfl, ?_, ?_, ?_, (by repeat (first | (with_reducible refine Ext.setCell ?_ (by first | (simp; done) | (simp; omega)) _) | with_reducible refine Ext.alloc ?_ _ | with_reducible refine Ext.drew ?_ | with_reducible refine Ext.drewN ?_ _ | with_reducible assumption | with_reducible exact Ext.refl _ | with_reducible refine Ext.trans ?_ (by with_reducible assumption)))⟩
        · omega
        · first
          | (with_reducible exact heap_alloc_new _ _)
          | (with_reducible refine heap_set2 (a := .int .i64 0) (b := .slice none 0 0) (heap_keep hxF ?_); ((try with_reducible refine heap_dr ?_); first | (with_reducible exact heap_alloc_new _ _) | (with_reducible refine heap_keep hxA0 ?_; ((try with_reducible refine heap_dr ?_); first | (with_reducible exact heap_alloc_new _ _) | (with_reducible refine heap_keep hxA1 ?_; ((try with_reducible refine heap_dr ?_); first | (with_reducible exact heap_alloc_new _ _))))) | (with_reducible refine heap_keep hxA1 ?_; ((try with_reducible refine heap_dr ?_); first | (with_reducible exact heap_alloc_new _ _) | (with_reducible refine heap_keep hxA0 ?_; ((try with_reducible refine heap_dr ?_); first | (with_reducible exact heap_alloc_new _ _)))))))
        · first
          | (with_reducible refine own_base (own_ext OF0.out ((Ext.refl _).alloc _)) ?_; first | omega | (simp <;> omega))
          | (with_reducible refine own_base (own_set (own_set OF0.out ?_ _) ?_ _) ?_ <;> first | omega | (simp <;> omega))
    case rest =>
      clear HK17 hE_w z_b1 l_b1 z_b2 l_b2
      obtain ⟨B_17, a_17_0, c_17_0, rfl, rfl, hB_17, hb_17, o0, hx_17⟩ := hcut
      obtain ⟨w17, rfl⟩ : ∃ x, x = wc := ⟨_, rfl⟩
      have h_b1_17 : Hid (w17.heap[w.heap.size]? = some (.cells #[.int .i64 q, .slice a1 n c1] 42 (0, 0))) := heap_keep hx_17 h_b1_16.out
      have h_b2_17 : Hid (w17.heap[w.heap.size + 1]? = some (.cells #[.int .i64 t, .slice a2 m c2, .slice a3 l c3] 24 (0, 0))) := heap_keep hx_17 h_b2_16.out
      have h_b3_17 : Hid (w17.heap[B_3]? = some (.cells #[.int .i64 qq, .slice a_3_0 nn c_3_0] 49 (0, 0))) := heap_keep hx_17 h_b3_16.out
      have h_b6_17 : Hid (w17.heap[w6.heap.size]? = some (.cells #[.int .i64 qq, .slice a_6_0 nn c_6_0] 49 (0, 0))) := heap_keep hx_17 h_b6_16.out
      have o_3_0_17 := Lib.hid (own_ext o_3_0_16.out hx_17)
      have o_6_0_17 := Lib.hid (own_ext o_6_0_16.out hx_17)
      have hE_17 := Lib.hid ((hE_16.out).trans hx_17)
      have s_17 := hx_17.size
      try simp at s_17
      have h_b7_17 := Lib.hid hb_17
      have sB_17 := (Array.getElem?_eq_some_iff.1 hb_17).1
      have o_7_0_17 := Lib.hid o0
      have lim_7_0 : Hid (∀ k, (Value.slice a_17_0 nn c_17_0).ownBlock = some k → w16.heap.size ≤ k ∧ k < w17.heap.size) := fun k hk => o_7_0_17.out.lt k hk
      clear hb_17 o0 hx_17 h_b1_16 h_b2_16 h_b3_16 h_b6_16 o_3_0_16 o_6_0_16 hE_16
      have z_b7 := fun k => cell_of_row _ _ k _ _ _ h_b7_17.out
      have l_b7 := (Array.getElem?_eq_some_iff.1 h_b7_17.out).1
      have z_b3 := fun k => cell_of_row _ _ k _ _ _ h_b3_17.out
      have l_b3 := (Array.getElem?_eq_some_iff.1 h_b3_17.out).1
      go_wp2_with fail
      refine (eqCircuit_same qq HLL.out (by omega) _ o_7_0_17.out o_3_0_17.out).mono ?_
      rintro e w18 ⟨rfl, hx_18⟩
      have h_b3_18 : Hid (w18.heap[B_3]? = some (.cells #[.int .i64 qq, .slice a_3_0 nn c_3_0] 49 (0, 0))) := heap_keep hx_18 h_b3_17.out
      have h_b6_18 : Hid (w18.heap[w6.heap.size]? = some (.cells #[.int .i64 qq, .slice a_6_0 nn c_6_0] 49 (0, 0))) := heap_keep hx_18 h_b6_17.out
      have h_b7_18 : Hid (w18.heap[B_17]? = some (.cells #[.int .i64 qq, .slice a_17_0 nn c_17_0] 49 (0, 0))) := heap_keep hx_18 h_b7_17.out
      have o_3_0_18 := Lib.hid (own_ext o_3_0_17.out hx_18)
      have o_6_0_18 := Lib.hid (own_ext o_6_0_17.out hx_18)
      have o_7_0_18 := Lib.hid (own_ext o_7_0_17.out hx_18)
      have hE_18 := Lib.hid ((hE_17.out).trans hx_18)
      have s_18 := hx_18.size
      try simp at s_18
      clear z_b7 l_b7 z_b3 l_b3 h_b1_17 h_b2_17 h_b3_17 h_b6_17 h_b7_17 o_3_0_17 o_6_0_17 o_7_0_17 hE_17 hx_18
      have z_b6 := fun k => cell_of_row _ _ k _ _ _ h_b6_18.out
      have l_b6 := (Array.getElem?_eq_some_iff.1 h_b6_18.out).1
      go_wp2_with fail
      refine (heldCircuit_any qq (by omega) (1) (by omega) _ o_6_0_18.out).mono ?_
      rintro e w19 ⟨rfl, hx_19⟩
      have h_b6_19 : Hid (w19.heap[w6.heap.size]? = some (.cells #[.int .i64 qq, .slice a_6_0 nn c_6_0] 49 (0, 0))) := heap_keep hx_19 h_b6_18.out
      have o_6_0_19 := Lib.hid (own_ext o_6_0_18.out hx_19)
      have hE_19 := Lib.hid ((hE_18.out).trans hx_19)
      have s_19 := hx_19.size
      try simp at s_19
      clear z_b6 l_b6 h_b3_18 h_b6_18 h_b7_18 o_3_0_18 o_6_0_18 o_7_0_18 hE_18 hx_19
      go_wp2
      go_ret
      exact ⟨rfl, hE_19.out⟩

theorem law_ApplyReplacement_c (cs ds : Array Value) {n m : Nat} {w0 : World} (hs : Shape Try.prog w0 n 42 (Value.agg cs).cells.toList) (ht : Shape Try.prog w0 m 24 (Value.agg ds).cells.toList) (w : World) (hw : w0 = w := by rfl) :
    Calls Try.prog 7 #[.agg cs, .agg ds] w fun e w' => e = .returned (.bool true) ∧ Ext w w' := by
  subst hw
  obtain ⟨q, v1, n1, xs, rfl, h1, -⟩ := circ_arg hs
  obtain ⟨t, v2, v3, m1, m2, ys, zs, rfl, h2, h3, -⟩ := repl_arg ht
  exact law_ApplyReplacement q t w0 h1 h2 h3

end Go.Proofs.Ytjeahopiejcopaa
