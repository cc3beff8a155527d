/- The law on JoinCertificates. -/
import Derived.Test.YtlbcjbeafampcaaCgJ
import Derived.Test.YtlbcjbeafampcaaCgK
import Derived.Deep.RegionHeld3
import Derived.Deep.Cut
namespace Go.Proofs.Ytlbcjbeafampcaa
open Go.RowKit Go.Lib
set_option linter.unusedVariables false
set_option linter.unusedSimpArgs false

theorem law_JoinCertificates_ee {a b : World} (h : a = b) : Ext a b := by subst h; exact Ext.refl _

set_option maxRecDepth 20000 in
set_option maxHeartbeats 20000000 in
theorem law_JoinCertificates (C : Cv) {v1 v2 v3 : Value} (D : Cv) {v4 v5 v6 : Value} (w : World) (h0_0 : CV w v1 v2 v3 C) (h1_0 : CV w v4 v5 v6 D) :
    Calls Try.prog 3 #[.agg #[.int .i64 C.q1, v1, v2, .int .i64 C.q2, v3], .agg #[.int .i64 D.q1, v4, v5, .int .i64 D.q2, v6]] w fun e w' => e = .returned (.bool true) ∧ Ext w w' := by
  have HOKC := Lib.hid (CV.ok h0_0)
  have HZ0 := fun l (hl : 0 ≤ l ∧ l ≤ 1048576) w' (hx : Ext w w') => Lib.hid (szCertificateX_any C l hl w' (h0_0.ext hx))
  have HT0 := fun ht w' (hx : Ext w w') => Lib.hid (toCertificateZ_any C ht w' (h0_0.ext hx))
  have HOKD := Lib.hid (CV.ok h1_0)
  have HZ1 := fun l (hl : 0 ≤ l ∧ l ≤ 1048576) w' (hx : Ext w w') => Lib.hid (szCertificateX_any D l hl w' (h1_0.ext hx))
  have HT1 := fun ht w' (hx : Ext w w') => Lib.hid (toCertificateZ_any D ht w' (h1_0.ext hx))
  have HS := fun hcd x0_0 x0_1 x0_2 x1_0 x1_1 x1_2 w' (k0_0 : CV w' x0_0 x0_1 x0_2 C) (k1_0 : CV w' x1_0 x1_1 x1_2 D) => Lib.hid (s_joinCertificates_any C D hcd w' k0_0 k1_0)
  have HI := fun hcd x0_0 x0_1 x0_2 x1_0 x1_1 x1_2 w' (k0_0 : CV w' x0_0 x0_1 x0_2 C) (k1_0 : CV w' x1_0 x1_1 x1_2 D) => Lib.hid (joinCertificates_any C D hcd w' k0_0 k1_0)
  obtain ⟨a1, a2, a3, c1, c2, c3, rfl, rfl, rfl⟩ := CV.shape h0_0
  clear h0_0
  obtain ⟨a4, a5, a6, c4, c5, c6, rfl, rfl, rfl⟩ := CV.shape h1_0
  clear h1_0
  have HZ0 := HZ0 ((1048576 : Int)) (by omega)
  by_cases hm0 : (C.tot : Int) ≤ (1048576 : Int)
  case neg =>
    simp only [if_neg hm0] at HZ0
    go_enter Try.func3, Try.ntmps3
    go_wp2_with fail
    refine (HZ0 _ (by repeat (first | (with_reducible refine Ext.setCell ?_ (by first | (simp; done) | (simp; omega)) _) | with_reducible refine Ext.alloc ?_ _ | with_reducible refine Ext.drew ?_ | with_reducible refine Ext.drewN ?_ _ | with_reducible assumption | with_reducible exact Ext.refl _ | with_reducible refine Ext.trans ?_ (by with_reducible assumption)))).out.mono ?_
    rintro e w1 ⟨rfl, hx1⟩
    obtain ⟨hc1, hf1⟩ := hx1.cells
    have hz1 := hx1.size
    try simp at hz1
    try have hb1_1 : w.heap.size < w1.heap.size := by omega
    try have hb1_2 : w.heap.size + 1 < w1.heap.size := by omega
    try have hb1_3 : w.heap.size + 2 < w1.heap.size := by omega
    go_wp2
    go_ret
    exact ⟨rfl, (by repeat (first | (with_reducible refine Ext.setCell ?_ (by first | (simp; done) | (simp; omega)) _) | with_reducible refine Ext.alloc ?_ _ | with_reducible refine Ext.drew ?_ | with_reducible refine Ext.drewN ?_ _ | with_reducible assumption | with_reducible exact Ext.refl _ | with_reducible refine Ext.trans ?_ (by with_reducible assumption)))⟩
  simp only [if_pos hm0] at HZ0
  have hr0 : ¬ ((1048576 : Int) - C.tot < 0) := by omega
  have HZ1 := HZ1 ((1048576 : Int) - C.tot) (by omega)
  by_cases hm1 : (D.tot : Int) ≤ (1048576 : Int) - C.tot
  case neg =>
    simp only [if_neg hm1] at HZ1
    go_enter Try.func3, Try.ntmps3
    go_wp2_with fail
    refine (HZ0 _ (by repeat (first | (with_reducible refine Ext.setCell ?_ (by first | (simp; done) | (simp; omega)) _) | with_reducible refine Ext.alloc ?_ _ | with_reducible refine Ext.drew ?_ | with_reducible refine Ext.drewN ?_ _ | with_reducible assumption | with_reducible exact Ext.refl _ | with_reducible refine Ext.trans ?_ (by with_reducible assumption)))).out.mono ?_
    rintro e w1 ⟨rfl, hx1⟩
    obtain ⟨hc1, hf1⟩ := hx1.cells
    have hz1 := hx1.size
    try simp at hz1
    try have hb1_1 : w.heap.size < w1.heap.size := by omega
    try have hb1_2 : w.heap.size + 1 < w1.heap.size := by omega
    try have hb1_3 : w.heap.size + 2 < w1.heap.size := by omega
    go_wp2_with fail
    refine (HZ1 _ (by repeat (first | (with_reducible refine Ext.setCell ?_ (by first | (simp; done) | (simp; omega)) _) | with_reducible refine Ext.alloc ?_ _ | with_reducible refine Ext.drew ?_ | with_reducible refine Ext.drewN ?_ _ | with_reducible assumption | with_reducible exact Ext.refl _ | with_reducible refine Ext.trans ?_ (by with_reducible assumption)))).out.mono ?_
    rintro e w2 ⟨rfl, hx2⟩
    obtain ⟨hc2, hf2⟩ := hx2.cells
    have hz2 := hx2.size
    try simp at hz2
    try have hb2_1 : w.heap.size < w2.heap.size := by omega
    try have hb2_2 : w.heap.size + 1 < w2.heap.size := by omega
    try have hb2_3 : w.heap.size + 2 < w2.heap.size := by omega
    go_wp2
    go_ret
    exact ⟨rfl, (by repeat (first | (with_reducible refine Ext.setCell ?_ (by first | (simp; done) | (simp; omega)) _) | with_reducible refine Ext.alloc ?_ _ | with_reducible refine Ext.drew ?_ | with_reducible refine Ext.drewN ?_ _ | with_reducible assumption | with_reducible exact Ext.refl _ | with_reducible refine Ext.trans ?_ (by with_reducible assumption)))⟩
  simp only [if_pos hm1] at HZ1
  have hr1 : ¬ ((1048576 : Int) - C.tot - D.tot < 0) := by omega
  have HTC : Hid (C.tot ≤ 1048576) := (show _ ≤ _ by omega)
  have HT0 := HT0 (by omega)
  have HTD : Hid (D.tot ≤ 1048576) := (show _ ≤ _ by omega)
  have HT1 := HT1 (by omega)
  have HOKJ := Lib.hid (jC_ok HOKC.out HOKD.out)
  have HTJ : Hid ((jC C D).tot ≤ 1048576) := jC_tot (by omega)
  generalize jC C D = J at *
  generalize jOk C D = ok at *
  have hb1 := endC_bd 1 HTC.out
  have hb2 := endC_bd (endC 1 C) HTD.out
  have hb3 := endC_bd 1 HTJ.out
  have hk2 : ¬ (endC (endC 1 C) D < 0) := by omega
  have hk3 : ¬ (endC 1 J < 0) := by omega
  have HS := HS (by omega)
  have HI := HI (by omega)
  go_enter Try.func3, Try.ntmps3
  go_wp2_with fail
  refine (HZ0 _ (((Ext.refl w).alloc _).alloc _)).out.mono ?_
  rintro e w1 ⟨rfl, hx_1⟩
  have h_b1_1 : Hid (w1.heap[w.heap.size]? = some (.cells #[.int .i64 C.q1, .slice a1 C.n1 c1, .slice a2 C.n c2, .int .i64 C.q2, .slice a3 C.n2 c3] 27 (0, 0))) := heap_keep hx_1 (heap_alloc_lt (heap_alloc_new _ _))
  have h_b2_1 : Hid (w1.heap[w.heap.size + 1]? = some (.cells #[.int .i64 D.q1, .slice a4 D.n1 c4, .slice a5 D.n c5, .int .i64 D.q2, .slice a6 D.n2 c6] 27 (0, 0))) := heap_keep hx_1 (heap_alloc_at _ _ _ (by simp))
  have hE_1 := Lib.hid (((((Ext.refl w).alloc _).alloc _)).trans hx_1)
  have s_1 := hx_1.size
  try simp at s_1
  clear hx_1
  have z_b2 := fun k => cell_of_row _ _ k _ _ _ h_b2_1.out
  have l_b2 := (Array.getElem?_eq_some_iff.1 h_b2_1.out).1
  go_wp2_with fail
  refine (HZ1 _ hE_1.out).out.mono ?_
  rintro e w2 ⟨rfl, hx_2⟩
  have h_b1_2 : Hid (w2.heap[w.heap.size]? = some (.cells #[.int .i64 C.q1, .slice a1 C.n1 c1, .slice a2 C.n c2, .int .i64 C.q2, .slice a3 C.n2 c3] 27 (0, 0))) := heap_keep hx_2 h_b1_1.out
  have h_b2_2 : Hid (w2.heap[w.heap.size + 1]? = some (.cells #[.int .i64 D.q1, .slice a4 D.n1 c4, .slice a5 D.n c5, .int .i64 D.q2, .slice a6 D.n2 c6] 27 (0, 0))) := heap_keep hx_2 h_b2_1.out
  have hE_2 := Lib.hid ((hE_1.out).trans hx_2)
  have s_2 := hx_2.size
  try simp at s_2
  clear z_b2 l_b2 h_b1_1 h_b2_1 hE_1 hx_2
  have z_b1 := fun k => cell_of_row _ _ k _ _ _ h_b1_2.out
  have l_b1 := (Array.getElem?_eq_some_iff.1 h_b1_2.out).1
  have z_b2 := fun k => cell_of_row _ _ k _ _ _ h_b2_2.out
  have l_b2 := (Array.getElem?_eq_some_iff.1 h_b2_2.out).1
  have HK3 : Hid (∀ w', Ext w2 w' → (w'.cell? ⟨w.heap.size, 0, none⟩ = some (.int .i64 C.q1) ∧ w'.cell? ⟨w.heap.size, 1, none⟩ = some (.slice a1 C.n1 c1) ∧ w'.cell? ⟨w.heap.size, 2, none⟩ = some (.slice a2 C.n c2) ∧ w'.cell? ⟨w.heap.size, 3, none⟩ = some (.int .i64 C.q2) ∧ w'.cell? ⟨w.heap.size, 4, none⟩ = some (.slice a3 C.n2 c3) ∧ w'.cell? ⟨w.heap.size + 1, 0, none⟩ = some (.int .i64 D.q1) ∧ w'.cell? ⟨w.heap.size + 1, 1, none⟩ = some (.slice a4 D.n1 c4) ∧ w'.cell? ⟨w.heap.size + 1, 2, none⟩ = some (.slice a5 D.n c5) ∧ w'.cell? ⟨w.heap.size + 1, 3, none⟩ = some (.int .i64 D.q2) ∧ w'.cell? ⟨w.heap.size + 1, 4, none⟩ = some (.slice a6 D.n2 c6))) := fun w' hx =>
    ⟨(hx.cells.1 _ 0 l_b1).trans (z_b1 0), (hx.cells.1 _ 1 l_b1).trans (z_b1 1), (hx.cells.1 _ 2 l_b1).trans (z_b1 2), (hx.cells.1 _ 3 l_b1).trans (z_b1 3), (hx.cells.1 _ 4 l_b1).trans (z_b1 4), (hx.cells.1 _ 0 l_b2).trans (z_b2 0), (hx.cells.1 _ 1 l_b2).trans (z_b2 1), (hx.cells.1 _ 2 l_b2).trans (z_b2 2), (hx.cells.1 _ 3 l_b2).trans (z_b2 3), (hx.cells.1 _ 4 l_b2).trans (z_b2 4)⟩
  have hE_w := hE_2.out
  go_upto_region 8 with fail
  go_cut [6, 7] from 27 (fun u6 u7 wx => ∃ (B : Nat) (aF0 : Option Addr) (cF0 : Nat) (aF1 : Option Addr) (cF1 : Nat) (aF2 : Option Addr) (cF2 : Nat), u6 = .pointer (some ⟨B, 0, none⟩) ∧ u7 = .bool ok ∧ w2.heap.size ≤ B ∧ wx.heap[B]? = some (.cells #[.int .i64 J.q1, .slice aF0 J.n1 cF0, .slice aF1 J.n cF1, .int .i64 J.q2, .slice aF2 J.n2 cF2] 34 (0, 0)) ∧ CZ wx w2.heap.size wx.heap.size (.slice aF0 J.n1 cF0) (.slice aF1 J.n cF1) (.slice aF2 J.n2 cF2) J ∧ Ext w2 wx)
  case first =>
    go_region_held3 (fun w' => w'.cell? ⟨w.heap.size, 0, none⟩ = some (.int .i64 C.q1) ∧ w'.cell? ⟨w.heap.size, 1, none⟩ = some (.slice a1 C.n1 c1) ∧ w'.cell? ⟨w.heap.size, 2, none⟩ = some (.slice a2 C.n c2) ∧ w'.cell? ⟨w.heap.size, 3, none⟩ = some (.int .i64 C.q2) ∧ w'.cell? ⟨w.heap.size, 4, none⟩ = some (.slice a3 C.n2 c3) ∧ w'.cell? ⟨w.heap.size + 1, 0, none⟩ = some (.int .i64 D.q1) ∧ w'.cell? ⟨w.heap.size + 1, 1, none⟩ = some (.slice a4 D.n1 c4) ∧ w'.cell? ⟨w.heap.size + 1, 2, none⟩ = some (.slice a5 D.n c5) ∧ w'.cell? ⟨w.heap.size + 1, 3, none⟩ = some (.int .i64 D.q2) ∧ w'.cell? ⟨w.heap.size + 1, 4, none⟩ = some (.slice a6 D.n2 c6)) (exact HK3.out _ (by repeat (first | (with_reducible refine Ext.setCell ?_ (by first | (simp; done) | (simp; omega)) _) | with_reducible refine Ext.alloc ?_ _ | with_reducible refine Ext.drew ?_ | with_reducible refine Ext.drewN ?_ _ | with_reducible assumption | with_reducible exact Ext.refl _ | with_reducible refine Ext.trans ?_ (by with_reducible assumption))))
      (first
      | (go_at_call 8; (with_reducible refine Calls.mono (HT0 _ ?_).out ?_); (next => exact (by repeat (first | (with_reducible refine Ext.setCell ?_ (by first | (simp; done) | (simp; omega)) _) | with_reducible refine Ext.alloc ?_ _ | with_reducible refine Ext.drew ?_ | with_reducible refine Ext.drewN ?_ _ | with_reducible assumption | with_reducible exact Ext.refl _ | with_reducible refine Ext.trans ?_ (by with_reducible assumption)))); rintro e wA0 ⟨u0, u1, u2, rfl, oo0, hxA0⟩; have R0_0 := Lib.hid (CZ.cv oo0 HOKC.out); obtain ⟨aA0_0, aA0_1, aA0_2, cA0_0, cA0_1, cA0_2, rfl, rfl, rfl⟩ := CZ.shape oo0; clear oo0; obtain ⟨hcA0, hfA0⟩ := hxA0.cells; have hsA0 := hxA0.size; (try simp at hsA0); (try have l2A0 : w2.heap.size < wA0.heap.size := (by omega)); (try have lA1_0 : wA1.heap.size < wA0.heap.size := (by omega)))
      | (go_at_call 8; (with_reducible refine Calls.mono (HT1 _ ?_).out ?_); (next => exact (by repeat (first | (with_reducible refine Ext.setCell ?_ (by first | (simp; done) | (simp; omega)) _) | with_reducible refine Ext.alloc ?_ _ | with_reducible refine Ext.drew ?_ | with_reducible refine Ext.drewN ?_ _ | with_reducible assumption | with_reducible exact Ext.refl _ | with_reducible refine Ext.trans ?_ (by with_reducible assumption)))); rintro e wA1 ⟨u0, u1, u2, rfl, oo0, hxA1⟩; have R1_0 := Lib.hid (CZ.cv oo0 HOKD.out); obtain ⟨aA1_0, aA1_1, aA1_2, cA1_0, cA1_1, cA1_2, rfl, rfl, rfl⟩ := CZ.shape oo0; clear oo0; obtain ⟨hcA1, hfA1⟩ := hxA1.cells; have hsA1 := hxA1.size; (try simp at hsA1); (try have l2A1 : w2.heap.size < wA1.heap.size := (by omega)); (try have lA0_1 : wA0.heap.size < wA1.heap.size := (by omega)))
      | (go_at_call 7; (with_reducible refine Calls.mono (HS _ _ _ _ _ _ _ ?_ ?_).out ?_); (next => exact R0_0.out.ext (by repeat (first | (with_reducible refine Ext.setCell ?_ (by first | (simp; done) | (simp; omega)) _) | with_reducible refine Ext.alloc ?_ _ | with_reducible refine Ext.drew ?_ | with_reducible refine Ext.drewN ?_ _ | with_reducible assumption | with_reducible exact Ext.refl _ | with_reducible refine Ext.trans ?_ (by with_reducible assumption)))); (next => exact R1_0.out.ext (by repeat (first | (with_reducible refine Ext.setCell ?_ (by first | (simp; done) | (simp; omega)) _) | with_reducible refine Ext.alloc ?_ _ | with_reducible refine Ext.drew ?_ | with_reducible refine Ext.drewN ?_ _ | with_reducible assumption | with_reducible exact Ext.refl _ | with_reducible refine Ext.trans ?_ (by with_reducible assumption)))); rintro e wF ⟨u0, u1, u2, rfl, oo0, hxF⟩; have OF0 := Lib.hid oo0; obtain ⟨aF0, aF1, aF2, cF0, cF1, cF2, rfl, rfl, rfl⟩ := CZ.shape oo0; clear oo0; obtain ⟨hcF, hfF⟩ := hxF.cells; have hsF := hxF.size; (try simp at hsF); (try have l2F : w2.heap.size < wF.heap.size := (by omega)); (try have lA0F : wA0.heap.size < wF.heap.size := (by omega)); (try have lA1F : wA1.heap.size < wF.heap.size := (by omega))))
    all_goals
      go_wp2_with fail
      go_meet
      refine ⟨_, aF0, cF0, aF1, cF1, aF2, cF2, rfl, rfl, ?_, ?_, ?_, (by repeat (first | (with_reducible refine Ext.setCell ?_ (by first | (simp; done) | (simp; omega)) _) | with_reducible refine Ext.alloc ?_ _ | with_reducible refine Ext.drew ?_ | with_reducible refine Ext.drewN ?_ _ | with_reducible assumption | with_reducible exact Ext.refl _ | with_reducible refine Ext.trans ?_ (by with_reducible assumption)))⟩
      · omega
      · first
        | (with_reducible exact heap_alloc_new _ _)
        | (with_reducible refine heap_set5 (a := .int .i64 0) (b := .slice none 0 0) (c := .slice none 0 0) (d := .int .i64 0) (e := .slice none 0 0) (heap_keep hxF ?_); ((try with_reducible refine heap_dr ?_); first | (with_reducible exact heap_alloc_new _ _) | (with_reducible refine heap_keep hxA0 ?_; ((try with_reducible refine heap_dr ?_); first | (with_reducible exact heap_alloc_new _ _) | (with_reducible refine heap_keep hxA1 ?_; ((try with_reducible refine heap_dr ?_); first | (with_reducible exact heap_alloc_new _ _))))) | (with_reducible refine heap_keep hxA1 ?_; ((try with_reducible refine heap_dr ?_); first | (with_reducible exact heap_alloc_new _ _) | (with_reducible refine heap_keep hxA0 ?_; ((try with_reducible refine heap_dr ?_); first | (with_reducible exact heap_alloc_new _ _)))))))
      · first
        | (with_reducible refine CZ.alloc1 OF0.out ?_ ?_; (next => exact (by first | omega | (simp; done) | (simp; omega))); exact (by first | omega | (simp; done) | (simp; omega)))
        | (with_reducible refine CZ.set5 OF0.out ?_ ?_ ?_; (next => exact (by first | omega | (simp; done) | (simp; omega))); (next => exact (by first | omega | (simp; done) | (simp; omega))); exact (by first | omega | (simp; done) | (simp; omega)))
  case rest =>
    clear HK3 hE_w z_b1 l_b1 z_b2 l_b2
    obtain ⟨B_3, a_3_0, c_3_0, a_3_1, c_3_1, a_3_2, c_3_2, rfl, rfl, hB_3, hb_3, o0, hx_3⟩ := hcut
    obtain ⟨w3, rfl⟩ : ∃ x, x = wc := ⟨_, rfl⟩
    have h_b1_3 : Hid (w3.heap[w.heap.size]? = some (.cells #[.int .i64 C.q1, .slice a1 C.n1 c1, .slice a2 C.n c2, .int .i64 C.q2, .slice a3 C.n2 c3] 27 (0, 0))) := heap_keep hx_3 h_b1_2.out
    have h_b2_3 : Hid (w3.heap[w.heap.size + 1]? = some (.cells #[.int .i64 D.q1, .slice a4 D.n1 c4, .slice a5 D.n c5, .int .i64 D.q2, .slice a6 D.n2 c6] 27 (0, 0))) := heap_keep hx_3 h_b2_2.out
    have hE_3 := Lib.hid ((hE_2.out).trans hx_3)
    have s_3 := hx_3.size
    try simp at s_3
    have h_b3_3 := Lib.hid hb_3
    have sB_3 := (Array.getElem?_eq_some_iff.1 hb_3).1
    have o_3_0_3 := Lib.hid o0
    clear hb_3 o0 hx_3 h_b1_2 h_b2_2 hE_2
    have z_b1 := fun k => cell_of_row _ _ k _ _ _ h_b1_3.out
    have l_b1 := (Array.getElem?_eq_some_iff.1 h_b1_3.out).1
    go_wp2_with fail
    refine (HT0 _ hE_3.out).out.mono ?_
    rintro e w4 ⟨u0, u1, u2, rfl, o0, hx_4⟩
    have h_b1_4 : Hid (w4.heap[w.heap.size]? = some (.cells #[.int .i64 C.q1, .slice a1 C.n1 c1, .slice a2 C.n c2, .int .i64 C.q2, .slice a3 C.n2 c3] 27 (0, 0))) := heap_keep hx_4 h_b1_3.out
    have h_b2_4 : Hid (w4.heap[w.heap.size + 1]? = some (.cells #[.int .i64 D.q1, .slice a4 D.n1 c4, .slice a5 D.n c5, .int .i64 D.q2, .slice a6 D.n2 c6] 27 (0, 0))) := heap_keep hx_4 h_b2_3.out
    have h_b3_4 : Hid (w4.heap[B_3]? = some (.cells #[.int .i64 J.q1, .slice a_3_0 J.n1 c_3_0, .slice a_3_1 J.n c_3_1, .int .i64 J.q2, .slice a_3_2 J.n2 c_3_2] 34 (0, 0))) := heap_keep hx_4 h_b3_3.out
    have o_3_0_4 := Lib.hid (CZ.ext o_3_0_3.out hx_4)
    have hE_4 := Lib.hid ((hE_3.out).trans hx_4)
    have s_4 := hx_4.size
    try simp at s_4
    obtain ⟨a_4_0, a_4_1, a_4_2, c_4_0, c_4_1, c_4_2, rfl, rfl, rfl⟩ := CZ.shape o0
    have o_4_0_4 := Lib.hid (CZ.weak (lo' := w3.heap.size) o0 (by (try simp); try omega) (Nat.le_refl _))
    clear o0
    clear z_b1 l_b1 h_b1_3 h_b2_3 h_b3_3 o_3_0_3 hE_3 hx_4
    have z_b2 := fun k => cell_of_row _ _ k _ _ _ h_b2_4.out
    have l_b2 := (Array.getElem?_eq_some_iff.1 h_b2_4.out).1
    go_wp2_with fail
    refine (HT1 _ (hE_4.out.alloc _)).out.mono ?_
    rintro e w5 ⟨u0, u1, u2, rfl, o0, hx_5⟩
    have h_b1_5 : Hid (w5.heap[w.heap.size]? = some (.cells #[.int .i64 C.q1, .slice a1 C.n1 c1, .slice a2 C.n c2, .int .i64 C.q2, .slice a3 C.n2 c3] 27 (0, 0))) := heap_keep hx_5 (heap_alloc_lt h_b1_4.out)
    have h_b2_5 : Hid (w5.heap[w.heap.size + 1]? = some (.cells #[.int .i64 D.q1, .slice a4 D.n1 c4, .slice a5 D.n c5, .int .i64 D.q2, .slice a6 D.n2 c6] 27 (0, 0))) := heap_keep hx_5 (heap_alloc_lt h_b2_4.out)
    have h_b3_5 : Hid (w5.heap[B_3]? = some (.cells #[.int .i64 J.q1, .slice a_3_0 J.n1 c_3_0, .slice a_3_1 J.n c_3_1, .int .i64 J.q2, .slice a_3_2 J.n2 c_3_2] 34 (0, 0))) := heap_keep hx_5 (heap_alloc_lt h_b3_4.out)
    have h_b4_5 : Hid (w5.heap[w4.heap.size]? = some (.cells #[.int .i64 C.q1, .slice a_4_0 C.n1 c_4_0, .slice a_4_1 C.n c_4_1, .int .i64 C.q2, .slice a_4_2 C.n2 c_4_2] 34 (0, 0))) := heap_keep hx_5 (heap_alloc_new _ _)
    have o_3_0_5 := Lib.hid (CZ.ext (CZ.ext o_3_0_4.out ((Ext.refl _).alloc _)) hx_5)
    have o_4_0_5 := Lib.hid (CZ.ext (CZ.ext o_4_0_4.out ((Ext.refl _).alloc _)) hx_5)
    have hE_5 := Lib.hid (((hE_4.out.alloc _)).trans hx_5)
    have s_5 := hx_5.size
    try simp at s_5
    obtain ⟨a_5_0, a_5_1, a_5_2, c_5_0, c_5_1, c_5_2, rfl, rfl, rfl⟩ := CZ.shape o0
    have o_5_0_5 := Lib.hid (CZ.weak (lo' := w4.heap.size + 1) o0 (by (try simp); try omega) (Nat.le_refl _))
    clear o0
    clear z_b2 l_b2 h_b1_4 h_b2_4 h_b3_4 o_3_0_4 o_4_0_4 hE_4 hx_5
    have z_b4 := fun k => cell_of_row _ _ k _ _ _ h_b4_5.out
    have l_b4 := (Array.getElem?_eq_some_iff.1 h_b4_5.out).1
    go_wp2_with fail
    refine (HI _ _ _ _ _ _ _ (CZ.cv (CZ.ext o_4_0_5.out ((Ext.refl _).alloc _)) HOKC.out) (CZ.cv (CZ.ext o_5_0_5.out ((Ext.refl _).alloc _)) HOKD.out)).out.mono ?_
    rintro e w6 ⟨u0, u1, u2, rfl, o0, hx_6⟩
    have h_b1_6 : Hid (w6.heap[w.heap.size]? = some (.cells #[.int .i64 C.q1, .slice a1 C.n1 c1, .slice a2 C.n c2, .int .i64 C.q2, .slice a3 C.n2 c3] 27 (0, 0))) := heap_keep hx_6 (heap_alloc_lt h_b1_5.out)
    have h_b2_6 : Hid (w6.heap[w.heap.size + 1]? = some (.cells #[.int .i64 D.q1, .slice a4 D.n1 c4, .slice a5 D.n c5, .int .i64 D.q2, .slice a6 D.n2 c6] 27 (0, 0))) := heap_keep hx_6 (heap_alloc_lt h_b2_5.out)
    have h_b3_6 : Hid (w6.heap[B_3]? = some (.cells #[.int .i64 J.q1, .slice a_3_0 J.n1 c_3_0, .slice a_3_1 J.n c_3_1, .int .i64 J.q2, .slice a_3_2 J.n2 c_3_2] 34 (0, 0))) := heap_keep hx_6 (heap_alloc_lt h_b3_5.out)
    have h_b4_6 : Hid (w6.heap[w4.heap.size]? = some (.cells #[.int .i64 C.q1, .slice a_4_0 C.n1 c_4_0, .slice a_4_1 C.n c_4_1, .int .i64 C.q2, .slice a_4_2 C.n2 c_4_2] 34 (0, 0))) := heap_keep hx_6 (heap_alloc_lt h_b4_5.out)
    have h_b5_6 : Hid (w6.heap[w5.heap.size]? = some (.cells #[.int .i64 D.q1, .slice a_5_0 D.n1 c_5_0, .slice a_5_1 D.n c_5_1, .int .i64 D.q2, .slice a_5_2 D.n2 c_5_2] 34 (0, 0))) := heap_keep hx_6 (heap_alloc_new _ _)
    have o_3_0_6 := Lib.hid (CZ.ext (CZ.ext o_3_0_5.out ((Ext.refl _).alloc _)) hx_6)
    have o_4_0_6 := Lib.hid (CZ.ext (CZ.ext o_4_0_5.out ((Ext.refl _).alloc _)) hx_6)
    have o_5_0_6 := Lib.hid (CZ.ext (CZ.ext o_5_0_5.out ((Ext.refl _).alloc _)) hx_6)
    have hE_6 := Lib.hid (((hE_5.out.alloc _)).trans hx_6)
    have s_6 := hx_6.size
    try simp at s_6
    obtain ⟨a_6_0, a_6_1, a_6_2, c_6_0, c_6_1, c_6_2, rfl, rfl, rfl⟩ := CZ.shape o0
    have o_6_0_6 := Lib.hid (CZ.weak (lo' := w5.heap.size + 1) o0 (by (try simp); try omega) (Nat.le_refl _))
    clear o0
    clear z_b4 l_b4 h_b1_5 h_b2_5 h_b3_5 h_b4_5 o_3_0_5 o_4_0_5 o_5_0_5 hE_5 hx_6
    have z_b3 := fun k => cell_of_row _ _ k _ _ _ h_b3_6.out
    have l_b3 := (Array.getElem?_eq_some_iff.1 h_b3_6.out).1
    go_wp2_with fail
    refine (eqCertificateZ_any J HOKJ.out HTJ.out _ (CZ.ext o_6_0_6.out ((Ext.refl _).alloc _)) (CZ.ext o_3_0_6.out ((Ext.refl _).alloc _))).mono ?_
    rintro e w7 ⟨rfl, hx_7⟩
    have h_b1_7 : Hid (w7.heap[w.heap.size]? = some (.cells #[.int .i64 C.q1, .slice a1 C.n1 c1, .slice a2 C.n c2, .int .i64 C.q2, .slice a3 C.n2 c3] 27 (0, 0))) := heap_keep hx_7 (heap_alloc_lt h_b1_6.out)
    have h_b2_7 : Hid (w7.heap[w.heap.size + 1]? = some (.cells #[.int .i64 D.q1, .slice a4 D.n1 c4, .slice a5 D.n c5, .int .i64 D.q2, .slice a6 D.n2 c6] 27 (0, 0))) := heap_keep hx_7 (heap_alloc_lt h_b2_6.out)
    have h_b3_7 : Hid (w7.heap[B_3]? = some (.cells #[.int .i64 J.q1, .slice a_3_0 J.n1 c_3_0, .slice a_3_1 J.n c_3_1, .int .i64 J.q2, .slice a_3_2 J.n2 c_3_2] 34 (0, 0))) := heap_keep hx_7 (heap_alloc_lt h_b3_6.out)
    have h_b4_7 : Hid (w7.heap[w4.heap.size]? = some (.cells #[.int .i64 C.q1, .slice a_4_0 C.n1 c_4_0, .slice a_4_1 C.n c_4_1, .int .i64 C.q2, .slice a_4_2 C.n2 c_4_2] 34 (0, 0))) := heap_keep hx_7 (heap_alloc_lt h_b4_6.out)
    have h_b5_7 : Hid (w7.heap[w5.heap.size]? = some (.cells #[.int .i64 D.q1, .slice a_5_0 D.n1 c_5_0, .slice a_5_1 D.n c_5_1, .int .i64 D.q2, .slice a_5_2 D.n2 c_5_2] 34 (0, 0))) := heap_keep hx_7 (heap_alloc_lt h_b5_6.out)
    have h_b6_7 : Hid (w7.heap[w6.heap.size]? = some (.cells #[.int .i64 J.q1, .slice a_6_0 J.n1 c_6_0, .slice a_6_1 J.n c_6_1, .int .i64 J.q2, .slice a_6_2 J.n2 c_6_2] 34 (0, 0))) := heap_keep hx_7 (heap_alloc_new _ _)
    have o_3_0_7 := Lib.hid (CZ.ext (CZ.ext o_3_0_6.out ((Ext.refl _).alloc _)) hx_7)
    have o_4_0_7 := Lib.hid (CZ.ext (CZ.ext o_4_0_6.out ((Ext.refl _).alloc _)) hx_7)
    have o_5_0_7 := Lib.hid (CZ.ext (CZ.ext o_5_0_6.out ((Ext.refl _).alloc _)) hx_7)
    have o_6_0_7 := Lib.hid (CZ.ext (CZ.ext o_6_0_6.out ((Ext.refl _).alloc _)) hx_7)
    have hE_7 := Lib.hid (((hE_6.out.alloc _)).trans hx_7)
    have s_7 := hx_7.size
    try simp at s_7
    clear z_b3 l_b3 h_b1_6 h_b2_6 h_b3_6 h_b4_6 h_b5_6 o_3_0_6 o_4_0_6 o_5_0_6 o_6_0_6 hE_6 hx_7
    -- arguments as they were
    have z_b4 := fun k => cell_of_row _ _ k _ _ _ h_b4_7.out
    have l_b4 := (Array.getElem?_eq_some_iff.1 h_b4_7.out).1
    have z_b1 := fun k => cell_of_row _ _ k _ _ _ h_b1_7.out
    have l_b1 := (Array.getElem?_eq_some_iff.1 h_b1_7.out).1
    have HK : Hid (∀ w', Ext w7 w' → (w'.cell? ⟨w4.heap.size, 0, none⟩ = some (.int .i64 C.q1) ∧ w'.cell? ⟨w4.heap.size, 1, none⟩ = some (.slice a_4_0 C.n1 c_4_0) ∧ w'.cell? ⟨w4.heap.size, 2, none⟩ = some (.slice a_4_1 C.n c_4_1) ∧ w'.cell? ⟨w4.heap.size, 3, none⟩ = some (.int .i64 C.q2) ∧ w'.cell? ⟨w4.heap.size, 4, none⟩ = some (.slice a_4_2 C.n2 c_4_2) ∧ w'.cell? ⟨w.heap.size, 0, none⟩ = some (.int .i64 C.q1) ∧ w'.cell? ⟨w.heap.size, 1, none⟩ = some (.slice a1 C.n1 c1) ∧ w'.cell? ⟨w.heap.size, 2, none⟩ = some (.slice a2 C.n c2) ∧ w'.cell? ⟨w.heap.size, 3, none⟩ = some (.int .i64 C.q2) ∧ w'.cell? ⟨w.heap.size, 4, none⟩ = some (.slice a3 C.n2 c3))) := fun w' hx =>
      ⟨(hx.cells.1 _ 0 l_b4).trans (z_b4 0), (hx.cells.1 _ 1 l_b4).trans (z_b4 1), (hx.cells.1 _ 2 l_b4).trans (z_b4 2), (hx.cells.1 _ 3 l_b4).trans (z_b4 3), (hx.cells.1 _ 4 l_b4).trans (z_b4 4), (hx.cells.1 _ 0 l_b1).trans (z_b1 0), (hx.cells.1 _ 1 l_b1).trans (z_b1 1), (hx.cells.1 _ 2 l_b1).trans (z_b1 2), (hx.cells.1 _ 3 l_b1).trans (z_b1 3), (hx.cells.1 _ 4 l_b1).trans (z_b1 4)⟩
    have hE_ := hE_7.out
    go_wp2_with fail
    go_region_held3 (fun w' => w'.cell? ⟨w4.heap.size, 0, none⟩ = some (.int .i64 C.q1) ∧ w'.cell? ⟨w4.heap.size, 1, none⟩ = some (.slice a_4_0 C.n1 c_4_0) ∧ w'.cell? ⟨w4.heap.size, 2, none⟩ = some (.slice a_4_1 C.n c_4_1) ∧ w'.cell? ⟨w4.heap.size, 3, none⟩ = some (.int .i64 C.q2) ∧ w'.cell? ⟨w4.heap.size, 4, none⟩ = some (.slice a_4_2 C.n2 c_4_2) ∧ w'.cell? ⟨w.heap.size, 0, none⟩ = some (.int .i64 C.q1) ∧ w'.cell? ⟨w.heap.size, 1, none⟩ = some (.slice a1 C.n1 c1) ∧ w'.cell? ⟨w.heap.size, 2, none⟩ = some (.slice a2 C.n c2) ∧ w'.cell? ⟨w.heap.size, 3, none⟩ = some (.int .i64 C.q2) ∧ w'.cell? ⟨w.heap.size, 4, none⟩ = some (.slice a3 C.n2 c3)) (exact HK.out _ (by repeat (first | (with_reducible refine Ext.setCell ?_ (by first | (simp; done) | (simp; omega)) _) | with_reducible refine Ext.alloc ?_ _ | with_reducible refine Ext.drew ?_ | with_reducible refine Ext.drewN ?_ _ | with_reducible assumption | with_reducible exact Ext.refl _ | with_reducible refine Ext.trans ?_ (by with_reducible assumption))))
      (first
      | (go_at_call 8; (with_reducible refine (HT0 _ (by repeat (first | (with_reducible refine Ext.setCell ?_ (by first | (simp; done) | (simp; omega)) _) | with_reducible refine Ext.alloc ?_ _ | with_reducible refine Ext.drew ?_ | with_reducible refine Ext.drewN ?_ _ | with_reducible assumption | with_reducible exact Ext.refl _ | with_reducible refine Ext.trans ?_ (by with_reducible assumption)))).out.mono ?_); rintro e w8 ⟨u0, u1, u2, rfl, oo0, hx_8⟩; have OO0 := Lib.hid oo0; obtain ⟨aE0, aE1, aE2, cE0, cE1, cE2, rfl, rfl, rfl⟩ := CZ.shape oo0; clear oo0)
      | (go_at_call 10; (with_reducible refine (eqCertificateZ_any C HOKC.out HTC.out _ (CZ.ext o_4_0_7.out (by repeat (first | (with_reducible refine Ext.setCell ?_ (by first | (simp; done) | (simp; omega)) _) | with_reducible refine Ext.alloc ?_ _ | with_reducible refine Ext.drew ?_ | with_reducible refine Ext.drewN ?_ _ | with_reducible assumption | with_reducible exact Ext.refl _ | with_reducible refine Ext.trans ?_ (by with_reducible assumption)))) OO0.out).mono ?_); rintro e w9 ⟨rfl, hx_9⟩))
    have hxx_9 : Ext w7 w9 := (by repeat (first | (with_reducible refine Ext.setCell ?_ (by first | (simp; done) | (simp; omega)) _) | with_reducible refine Ext.alloc ?_ _ | with_reducible refine Ext.drew ?_ | with_reducible refine Ext.drewN ?_ _ | with_reducible assumption | with_reducible exact Ext.refl _ | with_reducible refine Ext.trans ?_ (by with_reducible assumption)))
    have h_b1_9 : Hid (w9.heap[w.heap.size]? = some (.cells #[.int .i64 C.q1, .slice a1 C.n1 c1, .slice a2 C.n c2, .int .i64 C.q2, .slice a3 C.n2 c3] 27 (0, 0))) := heap_keep hxx_9 h_b1_7.out
    have h_b2_9 : Hid (w9.heap[w.heap.size + 1]? = some (.cells #[.int .i64 D.q1, .slice a4 D.n1 c4, .slice a5 D.n c5, .int .i64 D.q2, .slice a6 D.n2 c6] 27 (0, 0))) := heap_keep hxx_9 h_b2_7.out
    have h_b3_9 : Hid (w9.heap[B_3]? = some (.cells #[.int .i64 J.q1, .slice a_3_0 J.n1 c_3_0, .slice a_3_1 J.n c_3_1, .int .i64 J.q2, .slice a_3_2 J.n2 c_3_2] 34 (0, 0))) := heap_keep hxx_9 h_b3_7.out
    have h_b4_9 : Hid (w9.heap[w4.heap.size]? = some (.cells #[.int .i64 C.q1, .slice a_4_0 C.n1 c_4_0, .slice a_4_1 C.n c_4_1, .int .i64 C.q2, .slice a_4_2 C.n2 c_4_2] 34 (0, 0))) := heap_keep hxx_9 h_b4_7.out
    have h_b5_9 : Hid (w9.heap[w5.heap.size]? = some (.cells #[.int .i64 D.q1, .slice a_5_0 D.n1 c_5_0, .slice a_5_1 D.n c_5_1, .int .i64 D.q2, .slice a_5_2 D.n2 c_5_2] 34 (0, 0))) := heap_keep hxx_9 h_b5_7.out
    have h_b6_9 : Hid (w9.heap[w6.heap.size]? = some (.cells #[.int .i64 J.q1, .slice a_6_0 J.n1 c_6_0, .slice a_6_1 J.n c_6_1, .int .i64 J.q2, .slice a_6_2 J.n2 c_6_2] 34 (0, 0))) := heap_keep hxx_9 h_b6_7.out
    have o_3_0_9 := Lib.hid (CZ.ext o_3_0_7.out hxx_9)
    have o_4_0_9 := Lib.hid (CZ.ext o_4_0_7.out hxx_9)
    have o_5_0_9 := Lib.hid (CZ.ext o_5_0_7.out hxx_9)
    have o_6_0_9 := Lib.hid (CZ.ext o_6_0_7.out hxx_9)
    have hE_9 := Lib.hid ((hE_7.out).trans hxx_9)
    have s_9 := hxx_9.size
    try simp at s_9
    clear z_b4 l_b4 z_b1 l_b1 h_b1_7 h_b2_7 h_b3_7 h_b4_7 h_b5_7 h_b6_7 o_3_0_7 o_4_0_7 o_5_0_7 o_6_0_7 hE_7 hx_8 hx_9 hxx_9 HK hE_ OO0
    -- arguments as they were
    have z_b5 := fun k => cell_of_row _ _ k _ _ _ h_b5_9.out
    have l_b5 := (Array.getElem?_eq_some_iff.1 h_b5_9.out).1
    have z_b2 := fun k => cell_of_row _ _ k _ _ _ h_b2_9.out
    have l_b2 := (Array.getElem?_eq_some_iff.1 h_b2_9.out).1
    have HK : Hid (∀ w', Ext w9 w' → (w'.cell? ⟨w5.heap.size, 0, none⟩ = some (.int .i64 D.q1) ∧ w'.cell? ⟨w5.heap.size, 1, none⟩ = some (.slice a_5_0 D.n1 c_5_0) ∧ w'.cell? ⟨w5.heap.size, 2, none⟩ = some (.slice a_5_1 D.n c_5_1) ∧ w'.cell? ⟨w5.heap.size, 3, none⟩ = some (.int .i64 D.q2) ∧ w'.cell? ⟨w5.heap.size, 4, none⟩ = some (.slice a_5_2 D.n2 c_5_2) ∧ w'.cell? ⟨w.heap.size + 1, 0, none⟩ = some (.int .i64 D.q1) ∧ w'.cell? ⟨w.heap.size + 1, 1, none⟩ = some (.slice a4 D.n1 c4) ∧ w'.cell? ⟨w.heap.size + 1, 2, none⟩ = some (.slice a5 D.n c5) ∧ w'.cell? ⟨w.heap.size + 1, 3, none⟩ = some (.int .i64 D.q2) ∧ w'.cell? ⟨w.heap.size + 1, 4, none⟩ = some (.slice a6 D.n2 c6))) := fun w' hx =>
      ⟨(hx.cells.1 _ 0 l_b5).trans (z_b5 0), (hx.cells.1 _ 1 l_b5).trans (z_b5 1), (hx.cells.1 _ 2 l_b5).trans (z_b5 2), (hx.cells.1 _ 3 l_b5).trans (z_b5 3), (hx.cells.1 _ 4 l_b5).trans (z_b5 4), (hx.cells.1 _ 0 l_b2).trans (z_b2 0), (hx.cells.1 _ 1 l_b2).trans (z_b2 1), (hx.cells.1 _ 2 l_b2).trans (z_b2 2), (hx.cells.1 _ 3 l_b2).trans (z_b2 3), (hx.cells.1 _ 4 l_b2).trans (z_b2 4)⟩
    have hE_ := hE_9.out
    go_wp2_with fail
    go_region_held3 (fun w' => w'.cell? ⟨w5.heap.size, 0, none⟩ = some (.int .i64 D.q1) ∧ w'.cell? ⟨w5.heap.size, 1, none⟩ = some (.slice a_5_0 D.n1 c_5_0) ∧ w'.cell? ⟨w5.heap.size, 2, none⟩ = some (.slice a_5_1 D.n c_5_1) ∧ w'.cell? ⟨w5.heap.size, 3, none⟩ = some (.int .i64 D.q2) ∧ w'.cell? ⟨w5.heap.size, 4, none⟩ = some (.slice a_5_2 D.n2 c_5_2) ∧ w'.cell? ⟨w.heap.size + 1, 0, none⟩ = some (.int .i64 D.q1) ∧ w'.cell? ⟨w.heap.size + 1, 1, none⟩ = some (.slice a4 D.n1 c4) ∧ w'.cell? ⟨w.heap.size + 1, 2, none⟩ = some (.slice a5 D.n c5) ∧ w'.cell? ⟨w.heap.size + 1, 3, none⟩ = some (.int .i64 D.q2) ∧ w'.cell? ⟨w.heap.size + 1, 4, none⟩ = some (.slice a6 D.n2 c6)) (exact HK.out _ (by repeat (first | (with_reducible refine Ext.setCell ?_ (by first | (simp; done) | (simp; omega)) _) | with_reducible refine Ext.alloc ?_ _ | with_reducible refine Ext.drew ?_ | with_reducible refine Ext.drewN ?_ _ | with_reducible assumption | with_reducible exact Ext.refl _ | with_reducible refine Ext.trans ?_ (by with_reducible assumption))))
      (first
      | (go_at_call 8; (with_reducible refine (HT1 _ (by repeat (first | (with_reducible refine Ext.setCell ?_ (by first | (simp; done) | (simp; omega)) _) | with_reducible refine Ext.alloc ?_ _ | with_reducible refine Ext.drew ?_ | with_reducible refine Ext.drewN ?_ _ | with_reducible assumption | with_reducible exact Ext.refl _ | with_reducible refine Ext.trans ?_ (by with_reducible assumption)))).out.mono ?_); rintro e w10 ⟨u0, u1, u2, rfl, oo0, hx_10⟩; have OO0 := Lib.hid oo0; obtain ⟨aE0, aE1, aE2, cE0, cE1, cE2, rfl, rfl, rfl⟩ := CZ.shape oo0; clear oo0)
      | (go_at_call 10; (with_reducible refine (eqCertificateZ_any D HOKD.out HTD.out _ (CZ.ext o_5_0_9.out (by repeat (first | (with_reducible refine Ext.setCell ?_ (by first | (simp; done) | (simp; omega)) _) | with_reducible refine Ext.alloc ?_ _ | with_reducible refine Ext.drew ?_ | with_reducible refine Ext.drewN ?_ _ | with_reducible assumption | with_reducible exact Ext.refl _ | with_reducible refine Ext.trans ?_ (by with_reducible assumption)))) OO0.out).mono ?_); rintro e w11 ⟨rfl, hx_11⟩))
    have hxx_11 : Ext w9 w11 := (by repeat (first | (with_reducible refine Ext.setCell ?_ (by first | (simp; done) | (simp; omega)) _) | with_reducible refine Ext.alloc ?_ _ | with_reducible refine Ext.drew ?_ | with_reducible refine Ext.drewN ?_ _ | with_reducible assumption | with_reducible exact Ext.refl _ | with_reducible refine Ext.trans ?_ (by with_reducible assumption)))
    have h_b1_11 : Hid (w11.heap[w.heap.size]? = some (.cells #[.int .i64 C.q1, .slice a1 C.n1 c1, .slice a2 C.n c2, .int .i64 C.q2, .slice a3 C.n2 c3] 27 (0, 0))) := heap_keep hxx_11 h_b1_9.out
    have h_b2_11 : Hid (w11.heap[w.heap.size + 1]? = some (.cells #[.int .i64 D.q1, .slice a4 D.n1 c4, .slice a5 D.n c5, .int .i64 D.q2, .slice a6 D.n2 c6] 27 (0, 0))) := heap_keep hxx_11 h_b2_9.out
    have h_b3_11 : Hid (w11.heap[B_3]? = some (.cells #[.int .i64 J.q1, .slice a_3_0 J.n1 c_3_0, .slice a_3_1 J.n c_3_1, .int .i64 J.q2, .slice a_3_2 J.n2 c_3_2] 34 (0, 0))) := heap_keep hxx_11 h_b3_9.out
    have h_b4_11 : Hid (w11.heap[w4.heap.size]? = some (.cells #[.int .i64 C.q1, .slice a_4_0 C.n1 c_4_0, .slice a_4_1 C.n c_4_1, .int .i64 C.q2, .slice a_4_2 C.n2 c_4_2] 34 (0, 0))) := heap_keep hxx_11 h_b4_9.out
    have h_b5_11 : Hid (w11.heap[w5.heap.size]? = some (.cells #[.int .i64 D.q1, .slice a_5_0 D.n1 c_5_0, .slice a_5_1 D.n c_5_1, .int .i64 D.q2, .slice a_5_2 D.n2 c_5_2] 34 (0, 0))) := heap_keep hxx_11 h_b5_9.out
    have h_b6_11 : Hid (w11.heap[w6.heap.size]? = some (.cells #[.int .i64 J.q1, .slice a_6_0 J.n1 c_6_0, .slice a_6_1 J.n c_6_1, .int .i64 J.q2, .slice a_6_2 J.n2 c_6_2] 34 (0, 0))) := heap_keep hxx_11 h_b6_9.out
    have o_3_0_11 := Lib.hid (CZ.ext o_3_0_9.out hxx_11)
    have o_4_0_11 := Lib.hid (CZ.ext o_4_0_9.out hxx_11)
    have o_5_0_11 := Lib.hid (CZ.ext o_5_0_9.out hxx_11)
    have o_6_0_11 := Lib.hid (CZ.ext o_6_0_9.out hxx_11)
    have hE_11 := Lib.hid ((hE_9.out).trans hxx_11)
    have s_11 := hxx_11.size
    try simp at s_11
    clear z_b5 l_b5 z_b2 l_b2 h_b1_9 h_b2_9 h_b3_9 h_b4_9 h_b5_9 h_b6_9 o_3_0_9 o_4_0_9 o_5_0_9 o_6_0_9 hE_9 hx_10 hx_11 hxx_11 HK hE_ OO0
    have z_b4 := fun k => cell_of_row _ _ k _ _ _ h_b4_11.out
    have l_b4 := (Array.getElem?_eq_some_iff.1 h_b4_11.out).1
    go_wp2_with fail
    refine (markCertificateZ_any C HOKC.out HTC.out (1) (by omega) _ o_4_0_11.out (by omega)).mono ?_
    rintro e w12 ⟨rfl, om_12, hz_12⟩
    have h_b1_12 : Hid (w12.heap[w.heap.size]? = some (.cells #[.int .i64 C.q1, .slice a1 C.n1 c1, .slice a2 C.n c2, .int .i64 C.q2, .slice a3 C.n2 c3] 27 (0, 0))) := heap_zn hz_12 h_b1_11.out (by omega)
    have h_b2_12 : Hid (w12.heap[w.heap.size + 1]? = some (.cells #[.int .i64 D.q1, .slice a4 D.n1 c4, .slice a5 D.n c5, .int .i64 D.q2, .slice a6 D.n2 c6] 27 (0, 0))) := heap_zn hz_12 h_b2_11.out (by omega)
    have h_b3_12 : Hid (w12.heap[B_3]? = some (.cells #[.int .i64 J.q1, .slice a_3_0 J.n1 c_3_0, .slice a_3_1 J.n c_3_1, .int .i64 J.q2, .slice a_3_2 J.n2 c_3_2] 34 (0, 0))) := heap_zn hz_12 h_b3_11.out (by omega)
    have h_b4_12 : Hid (w12.heap[w4.heap.size]? = some (.cells #[.int .i64 C.q1, .slice a_4_0 C.n1 c_4_0, .slice a_4_1 C.n c_4_1, .int .i64 C.q2, .slice a_4_2 C.n2 c_4_2] 34 (0, 0))) := heap_zn hz_12 h_b4_11.out (by omega)
    have h_b5_12 : Hid (w12.heap[w5.heap.size]? = some (.cells #[.int .i64 D.q1, .slice a_5_0 D.n1 c_5_0, .slice a_5_1 D.n c_5_1, .int .i64 D.q2, .slice a_5_2 D.n2 c_5_2] 34 (0, 0))) := heap_zn hz_12 h_b5_11.out (by omega)
    have h_b6_12 : Hid (w12.heap[w6.heap.size]? = some (.cells #[.int .i64 J.q1, .slice a_6_0 J.n1 c_6_0, .slice a_6_1 J.n c_6_1, .int .i64 J.q2, .slice a_6_2 J.n2 c_6_2] 34 (0, 0))) := heap_zn hz_12 h_b6_11.out (by omega)
    have o_3_0_12 := Lib.hid (CZ.zn o_3_0_11.out hz_12 (by omega))
    have o_5_0_12 := Lib.hid (CZ.zn o_5_0_11.out hz_12 (by omega))
    have o_6_0_12 := Lib.hid (CZ.zn o_6_0_11.out hz_12 (by omega))
    have hE_12 := Lib.hid (Ext.zn (hE_11.out) hz_12 (by omega))
    have s_12 := hz_12.size
    try simp at s_12
    have o_4_0_12 := Lib.hid om_12
    clear z_b4 l_b4 h_b1_11 h_b2_11 h_b3_11 h_b4_11 h_b5_11 h_b6_11 o_3_0_11 o_5_0_11 o_6_0_11 hE_11 o_4_0_11 hz_12 om_12
    have z_b5 := fun k => cell_of_row _ _ k _ _ _ h_b5_12.out
    have l_b5 := (Array.getElem?_eq_some_iff.1 h_b5_12.out).1
    go_wp2_with fail
    refine (markCertificateZ_any D HOKD.out HTD.out (endC (1) C) (by omega) _ o_5_0_12.out (by omega)).mono ?_
    rintro e w13 ⟨rfl, om_13, hz_13⟩
    have h_b1_13 : Hid (w13.heap[w.heap.size]? = some (.cells #[.int .i64 C.q1, .slice a1 C.n1 c1, .slice a2 C.n c2, .int .i64 C.q2, .slice a3 C.n2 c3] 27 (0, 0))) := heap_zn hz_13 h_b1_12.out (by omega)
    have h_b2_13 : Hid (w13.heap[w.heap.size + 1]? = some (.cells #[.int .i64 D.q1, .slice a4 D.n1 c4, .slice a5 D.n c5, .int .i64 D.q2, .slice a6 D.n2 c6] 27 (0, 0))) := heap_zn hz_13 h_b2_12.out (by omega)
    have h_b3_13 : Hid (w13.heap[B_3]? = some (.cells #[.int .i64 J.q1, .slice a_3_0 J.n1 c_3_0, .slice a_3_1 J.n c_3_1, .int .i64 J.q2, .slice a_3_2 J.n2 c_3_2] 34 (0, 0))) := heap_zn hz_13 h_b3_12.out (by omega)
    have h_b5_13 : Hid (w13.heap[w5.heap.size]? = some (.cells #[.int .i64 D.q1, .slice a_5_0 D.n1 c_5_0, .slice a_5_1 D.n c_5_1, .int .i64 D.q2, .slice a_5_2 D.n2 c_5_2] 34 (0, 0))) := heap_zn hz_13 h_b5_12.out (by omega)
    have h_b6_13 : Hid (w13.heap[w6.heap.size]? = some (.cells #[.int .i64 J.q1, .slice a_6_0 J.n1 c_6_0, .slice a_6_1 J.n c_6_1, .int .i64 J.q2, .slice a_6_2 J.n2 c_6_2] 34 (0, 0))) := heap_zn hz_13 h_b6_12.out (by omega)
    have o_3_0_13 := Lib.hid (CZ.zn o_3_0_12.out hz_13 (by omega))
    have o_6_0_13 := Lib.hid (CZ.zn o_6_0_12.out hz_13 (by omega))
    have hE_13 := Lib.hid (Ext.zn (hE_12.out) hz_13 (by omega))
    have s_13 := hz_13.size
    try simp at s_13
    have o_5_0_13 := Lib.hid om_13
    clear z_b5 l_b5 h_b1_12 h_b2_12 h_b3_12 h_b4_12 h_b5_12 h_b6_12 o_3_0_12 o_4_0_12 o_6_0_12 hE_12 o_5_0_12 hz_13 om_13
    have z_b6 := fun k => cell_of_row _ _ k _ _ _ h_b6_13.out
    have l_b6 := (Array.getElem?_eq_some_iff.1 h_b6_13.out).1
    have z_b3 := fun k => cell_of_row _ _ k _ _ _ h_b3_13.out
    have l_b3 := (Array.getElem?_eq_some_iff.1 h_b3_13.out).1
    go_wp2_with fail
    refine (eqCertificateZ_any J HOKJ.out HTJ.out _ o_6_0_13.out o_3_0_13.out).mono ?_
    rintro e w14 ⟨rfl, hx_14⟩
    have h_b1_14 : Hid (w14.heap[w.heap.size]? = some (.cells #[.int .i64 C.q1, .slice a1 C.n1 c1, .slice a2 C.n c2, .int .i64 C.q2, .slice a3 C.n2 c3] 27 (0, 0))) := heap_keep hx_14 h_b1_13.out
    have h_b2_14 : Hid (w14.heap[w.heap.size + 1]? = some (.cells #[.int .i64 D.q1, .slice a4 D.n1 c4, .slice a5 D.n c5, .int .i64 D.q2, .slice a6 D.n2 c6] 27 (0, 0))) := heap_keep hx_14 h_b2_13.out
    have h_b3_14 : Hid (w14.heap[B_3]? = some (.cells #[.int .i64 J.q1, .slice a_3_0 J.n1 c_3_0, .slice a_3_1 J.n c_3_1, .int .i64 J.q2, .slice a_3_2 J.n2 c_3_2] 34 (0, 0))) := heap_keep hx_14 h_b3_13.out
    have h_b6_14 : Hid (w14.heap[w6.heap.size]? = some (.cells #[.int .i64 J.q1, .slice a_6_0 J.n1 c_6_0, .slice a_6_1 J.n c_6_1, .int .i64 J.q2, .slice a_6_2 J.n2 c_6_2] 34 (0, 0))) := heap_keep hx_14 h_b6_13.out
    have o_3_0_14 := Lib.hid (CZ.ext o_3_0_13.out hx_14)
    have o_6_0_14 := Lib.hid (CZ.ext o_6_0_13.out hx_14)
    have hE_14 := Lib.hid ((hE_13.out).trans hx_14)
    have s_14 := hx_14.size
    try simp at s_14
    clear z_b6 l_b6 z_b3 l_b3 h_b1_13 h_b2_13 h_b3_13 h_b5_13 h_b6_13 o_3_0_13 o_5_0_13 o_6_0_13 hE_13 hx_14
    have z_b6 := fun k => cell_of_row _ _ k _ _ _ h_b6_14.out
    have l_b6 := (Array.getElem?_eq_some_iff.1 h_b6_14.out).1
    go_wp2_with fail
    refine (markCertificateZ_any J HOKJ.out HTJ.out (1) (by omega) _ o_6_0_14.out (by omega)).mono ?_
    rintro e w15 ⟨rfl, om_15, hz_15⟩
    have h_b1_15 : Hid (w15.heap[w.heap.size]? = some (.cells #[.int .i64 C.q1, .slice a1 C.n1 c1, .slice a2 C.n c2, .int .i64 C.q2, .slice a3 C.n2 c3] 27 (0, 0))) := heap_zn hz_15 h_b1_14.out (by omega)
    have h_b2_15 : Hid (w15.heap[w.heap.size + 1]? = some (.cells #[.int .i64 D.q1, .slice a4 D.n1 c4, .slice a5 D.n c5, .int .i64 D.q2, .slice a6 D.n2 c6] 27 (0, 0))) := heap_zn hz_15 h_b2_14.out (by omega)
    have h_b3_15 : Hid (w15.heap[B_3]? = some (.cells #[.int .i64 J.q1, .slice a_3_0 J.n1 c_3_0, .slice a_3_1 J.n c_3_1, .int .i64 J.q2, .slice a_3_2 J.n2 c_3_2] 34 (0, 0))) := heap_zn hz_15 h_b3_14.out (by omega)
    have h_b6_15 : Hid (w15.heap[w6.heap.size]? = some (.cells #[.int .i64 J.q1, .slice a_6_0 J.n1 c_6_0, .slice a_6_1 J.n c_6_1, .int .i64 J.q2, .slice a_6_2 J.n2 c_6_2] 34 (0, 0))) := heap_zn hz_15 h_b6_14.out (by omega)
    have o_3_0_15 := Lib.hid (CZ.zn o_3_0_14.out hz_15 (by omega))
    have hE_15 := Lib.hid (Ext.zn (hE_14.out) hz_15 (by omega))
    have s_15 := hz_15.size
    try simp at s_15
    have o_6_0_15 := Lib.hid om_15
    clear z_b6 l_b6 h_b1_14 h_b2_14 h_b3_14 h_b6_14 o_3_0_14 hE_14 o_6_0_14 hz_15 om_15
    have z_b6 := fun k => cell_of_row _ _ k _ _ _ h_b6_15.out
    have l_b6 := (Array.getElem?_eq_some_iff.1 h_b6_15.out).1
    go_wp2_with fail
    refine (heldCertificateZ_any J HTJ.out (1) (by omega) _ o_6_0_15.out).mono ?_
    rintro e w16 ⟨rfl, hx_16⟩
    have h_b1_16 : Hid (w16.heap[w.heap.size]? = some (.cells #[.int .i64 C.q1, .slice a1 C.n1 c1, .slice a2 C.n c2, .int .i64 C.q2, .slice a3 C.n2 c3] 27 (0, 0))) := heap_keep hx_16 h_b1_15.out
    have h_b2_16 : Hid (w16.heap[w.heap.size + 1]? = some (.cells #[.int .i64 D.q1, .slice a4 D.n1 c4, .slice a5 D.n c5, .int .i64 D.q2, .slice a6 D.n2 c6] 27 (0, 0))) := heap_keep hx_16 h_b2_15.out
    have h_b3_16 : Hid (w16.heap[B_3]? = some (.cells #[.int .i64 J.q1, .slice a_3_0 J.n1 c_3_0, .slice a_3_1 J.n c_3_1, .int .i64 J.q2, .slice a_3_2 J.n2 c_3_2] 34 (0, 0))) := heap_keep hx_16 h_b3_15.out
    have h_b6_16 : Hid (w16.heap[w6.heap.size]? = some (.cells #[.int .i64 J.q1, .slice a_6_0 J.n1 c_6_0, .slice a_6_1 J.n c_6_1, .int .i64 J.q2, .slice a_6_2 J.n2 c_6_2] 34 (0, 0))) := heap_keep hx_16 h_b6_15.out
    have o_3_0_16 := Lib.hid (CZ.ext o_3_0_15.out hx_16)
    have o_6_0_16 := Lib.hid (CZ.ext o_6_0_15.out hx_16)
    have hE_16 := Lib.hid ((hE_15.out).trans hx_16)
    have s_16 := hx_16.size
    try simp at s_16
    clear z_b6 l_b6 h_b1_15 h_b2_15 h_b3_15 h_b6_15 o_3_0_15 o_6_0_15 hE_15 hx_16
    have z_b1 := fun k => cell_of_row _ _ k _ _ _ h_b1_16.out
    have l_b1 := (Array.getElem?_eq_some_iff.1 h_b1_16.out).1
    have z_b2 := fun k => cell_of_row _ _ k _ _ _ h_b2_16.out
    have l_b2 := (Array.getElem?_eq_some_iff.1 h_b2_16.out).1
    have HK17 : Hid (∀ w', Ext w16 w' → (w'.cell? ⟨w.heap.size, 0, none⟩ = some (.int .i64 C.q1) ∧ w'.cell? ⟨w.heap.size, 1, none⟩ = some (.slice a1 C.n1 c1) ∧ w'.cell? ⟨w.heap.size, 2, none⟩ = some (.slice a2 C.n c2) ∧ w'.cell? ⟨w.heap.size, 3, none⟩ = some (.int .i64 C.q2) ∧ w'.cell? ⟨w.heap.size, 4, none⟩ = some (.slice a3 C.n2 c3) ∧ w'.cell? ⟨w.heap.size + 1, 0, none⟩ = some (.int .i64 D.q1) ∧ w'.cell? ⟨w.heap.size + 1, 1, none⟩ = some (.slice a4 D.n1 c4) ∧ w'.cell? ⟨w.heap.size + 1, 2, none⟩ = some (.slice a5 D.n c5) ∧ w'.cell? ⟨w.heap.size + 1, 3, none⟩ = some (.int .i64 D.q2) ∧ w'.cell? ⟨w.heap.size + 1, 4, none⟩ = some (.slice a6 D.n2 c6))) := fun w' hx =>
      ⟨(hx.cells.1 _ 0 l_b1).trans (z_b1 0), (hx.cells.1 _ 1 l_b1).trans (z_b1 1), (hx.cells.1 _ 2 l_b1).trans (z_b1 2), (hx.cells.1 _ 3 l_b1).trans (z_b1 3), (hx.cells.1 _ 4 l_b1).trans (z_b1 4), (hx.cells.1 _ 0 l_b2).trans (z_b2 0), (hx.cells.1 _ 1 l_b2).trans (z_b2 1), (hx.cells.1 _ 2 l_b2).trans (z_b2 2), (hx.cells.1 _ 3 l_b2).trans (z_b2 3), (hx.cells.1 _ 4 l_b2).trans (z_b2 4)⟩
    have hE_w := hE_16.out
    go_upto_region 31 with fail
    go_cut [15, 16] from 94 (fun u15 u16 wx => ∃ (B : Nat) (aF0 : Option Addr) (cF0 : Nat) (aF1 : Option Addr) (cF1 : Nat) (aF2 : Option Addr) (cF2 : Nat), u15 = .pointer (some ⟨B, 0, none⟩) ∧ u16 = .bool ok ∧ w16.heap.size ≤ B ∧ wx.heap[B]? = some (.cells #[.int .i64 J.q1, .slice aF0 J.n1 cF0, .slice aF1 J.n cF1, .int .i64 J.q2, .slice aF2 J.n2 cF2] 34 (0, 0)) ∧ CZ wx w16.heap.size wx.heap.size (.slice aF0 J.n1 cF0) (.slice aF1 J.n cF1) (.slice aF2 J.n2 cF2) J ∧ Ext w16 wx)
    case first =>
      go_region_held3 (fun w' => w'.cell? ⟨w.heap.size, 0, none⟩ = some (.int .i64 C.q1) ∧ w'.cell? ⟨w.heap.size, 1, none⟩ = some (.slice a1 C.n1 c1) ∧ w'.cell? ⟨w.heap.size, 2, none⟩ = some (.slice a2 C.n c2) ∧ w'.cell? ⟨w.heap.size, 3, none⟩ = some (.int .i64 C.q2) ∧ w'.cell? ⟨w.heap.size, 4, none⟩ = some (.slice a3 C.n2 c3) ∧ w'.cell? ⟨w.heap.size + 1, 0, none⟩ = some (.int .i64 D.q1) ∧ w'.cell? ⟨w.heap.size + 1, 1, none⟩ = some (.slice a4 D.n1 c4) ∧ w'.cell? ⟨w.heap.size + 1, 2, none⟩ = some (.slice a5 D.n c5) ∧ w'.cell? ⟨w.heap.size + 1, 3, none⟩ = some (.int .i64 D.q2) ∧ w'.cell? ⟨w.heap.size + 1, 4, none⟩ = some (.slice a6 D.n2 c6)) (exact HK17.out _ (by repeat (first | (with_reducible refine Ext.setCell ?_ (by first | (simp; done) | (simp; omega)) _) | with_reducible refine Ext.alloc ?_ _ | with_reducible refine Ext.drew ?_ | with_reducible refine Ext.drewN ?_ _ | with_reducible assumption | with_reducible exact Ext.refl _ | with_reducible refine Ext.trans ?_ (by with_reducible assumption))))
        (first
        | (go_at_call 8; (with_reducible refine Calls.mono (HT0 _ ?_).out ?_); (next => exact (by repeat (first | (with_reducible refine Ext.setCell ?_ (by first | (simp; done) | (simp; omega)) _) | with_reducible refine Ext.alloc ?_ _ | with_reducible refine Ext.drew ?_ | with_reducible refine Ext.drewN ?_ _ | with_reducible assumption | with_reducible exact Ext.refl _ | with_reducible refine Ext.trans ?_ (by with_reducible assumption)))); rintro e wA0 ⟨u0, u1, u2, rfl, oo0, hxA0⟩; have R0_0 := Lib.hid (CZ.cv oo0 HOKC.out); obtain ⟨aA0_0, aA0_1, aA0_2, cA0_0, cA0_1, cA0_2, rfl, rfl, rfl⟩ := CZ.shape oo0; clear oo0; obtain ⟨hcA0, hfA0⟩ := hxA0.cells; have hsA0 := hxA0.size; (try simp at hsA0); (try have l2A0 : w16.heap.size < wA0.heap.size := (by omega)); (try have lA1_0 : wA1.heap.size < wA0.heap.size := (by omega)))
        | (go_at_call 8; (with_reducible refine Calls.mono (HT1 _ ?_).out ?_); (next => exact (by repeat (first | (with_reducible refine Ext.setCell ?_ (by first | (simp; done) | (simp; omega)) _) | with_reducible refine Ext.alloc ?_ _ | with_reducible refine Ext.drew ?_ | with_reducible refine Ext.drewN ?_ _ | with_reducible assumption | with_reducible exact Ext.refl _ | with_reducible refine Ext.trans ?_ (by with_reducible assumption)))); rintro e wA1 ⟨u0, u1, u2, rfl, oo0, hxA1⟩; have R1_0 := Lib.hid (CZ.cv oo0 HOKD.out); obtain ⟨aA1_0, aA1_1, aA1_2, cA1_0, cA1_1, cA1_2, rfl, rfl, rfl⟩ := CZ.shape oo0; clear oo0; obtain ⟨hcA1, hfA1⟩ := hxA1.cells; have hsA1 := hxA1.size; (try simp at hsA1); (try have l2A1 : w16.heap.size < wA1.heap.size := (by omega)); (try have lA0_1 : wA0.heap.size < wA1.heap.size := (by omega)))
        | (go_at_call 9; (with_reducible refine Calls.mono (HI _ _ _ _ _ _ _ ?_ ?_).out ?_); (next => exact R0_0.out.ext (by repeat (first | (with_reducible refine Ext.setCell ?_ (by first | (simp; done) | (simp; omega)) _) | with_reducible refine Ext.alloc ?_ _ | with_reducible refine Ext.drew ?_ | with_reducible refine Ext.drewN ?_ _ | with_reducible assumption | with_reducible exact Ext.refl _ | with_reducible refine Ext.trans ?_ (by with_reducible assumption)))); (next => exact R1_0.out.ext (by repeat (first | (with_reducible refine Ext.setCell ?_ (by first | (simp; done) | (simp; omega)) _) | with_reducible refine Ext.alloc ?_ _ | with_reducible refine Ext.drew ?_ | with_reducible refine Ext.drewN ?_ _ | with_reducible assumption | with_reducible exact Ext.refl _ | with_reducible refine Ext.trans ?_ (by with_reducible assumption)))); rintro e wF ⟨u0, u1, u2, rfl, oo0, hxF⟩; have OF0 := Lib.hid oo0; obtain ⟨aF0, aF1, aF2, cF0, cF1, cF2, rfl, rfl, rfl⟩ := CZ.shape oo0; clear oo0; obtain ⟨hcF, hfF⟩ := hxF.cells; have hsF := hxF.size; (try simp at hsF); (try have l2F : w16.heap.size < wF.heap.size := (by omega)); (try have lA0F : wA0.heap.size < wF.heap.size := (by omega)); (try have lA1F : wA1.heap.size < wF.heap.size := (by omega))))
      all_goals
        go_wp2_with fail
        go_meet
        refine ⟨_, aF0, cF0, aF1, cF1, aF2, cF2, rfl, rfl, ?_, ?_, ?_, (by repeat (first | (with_reducible refine Ext.setCell ?_ (by first | (simp; done) | (simp; omega)) _) | with_reducible refine Ext.alloc ?_ _ | with_reducible refine Ext.drew ?_ | with_reducible refine Ext.drewN ?_ _ | with_reducible assumption | with_reducible exact Ext.refl _ | with_reducible refine Ext.trans ?_ (by with_reducible assumption)))⟩
        · omega
        · first
          | (with_reducible exact heap_alloc_new _ _)
          | (with_reducible refine heap_set5 (a := .int .i64 0) (b := .slice none 0 0) (c := .slice none 0 0) (d := .int .i64 0) (e := .slice none 0 0) (heap_keep hxF ?_); ((try with_reducible refine heap_dr ?_); first | (with_reducible exact heap_alloc_new _ _) | (with_reducible refine heap_keep hxA0 ?_; ((try with_reducible refine heap_dr ?_); first | (with_reducible exact heap_alloc_new _ _) | (with_reducible refine heap_keep hxA1 ?_; ((try with_reducible refine heap_dr ?_); first | (with_reducible exact heap_alloc_new _ _))))) | (with_reducible refine heap_keep hxA1 ?_; ((try with_reducible refine heap_dr ?_); first | (with_reducible exact heap_alloc_new _ _) | (with_reducible refine heap_keep hxA0 ?_; ((try with_reducible refine heap_dr ?_); first | (with_reducible exact heap_alloc_new _ _)))))))
        · first
          | (with_reducible refine CZ.alloc1 OF0.out ?_ ?_; (next => exact (by first | omega | (simp; done) | (simp; omega))); exact (by first | omega | (simp; done) | (simp; omega)))
          | (with_reducible refine CZ.set5 OF0.out ?_ ?_ ?_; (next => exact (by first | omega | (simp; done) | (simp; omega))); (next => exact (by first | omega | (simp; done) | (simp; omega))); exact (by first | omega | (simp; done) | (simp; omega)))
    case rest =>
      clear HK17 hE_w z_b1 l_b1 z_b2 l_b2
      obtain ⟨B_17, a_17_0, c_17_0, a_17_1, c_17_1, a_17_2, c_17_2, rfl, rfl, hB_17, hb_17, o0, hx_17⟩ := hcut
      obtain ⟨w17, rfl⟩ : ∃ x, x = wc := ⟨_, rfl⟩
      have h_b1_17 : Hid (w17.heap[w.heap.size]? = some (.cells #[.int .i64 C.q1, .slice a1 C.n1 c1, .slice a2 C.n c2, .int .i64 C.q2, .slice a3 C.n2 c3] 27 (0, 0))) := heap_keep hx_17 h_b1_16.out
      have h_b2_17 : Hid (w17.heap[w.heap.size + 1]? = some (.cells #[.int .i64 D.q1, .slice a4 D.n1 c4, .slice a5 D.n c5, .int .i64 D.q2, .slice a6 D.n2 c6] 27 (0, 0))) := heap_keep hx_17 h_b2_16.out
      have h_b3_17 : Hid (w17.heap[B_3]? = some (.cells #[.int .i64 J.q1, .slice a_3_0 J.n1 c_3_0, .slice a_3_1 J.n c_3_1, .int .i64 J.q2, .slice a_3_2 J.n2 c_3_2] 34 (0, 0))) := heap_keep hx_17 h_b3_16.out
      have h_b6_17 : Hid (w17.heap[w6.heap.size]? = some (.cells #[.int .i64 J.q1, .slice a_6_0 J.n1 c_6_0, .slice a_6_1 J.n c_6_1, .int .i64 J.q2, .slice a_6_2 J.n2 c_6_2] 34 (0, 0))) := heap_keep hx_17 h_b6_16.out
      have o_3_0_17 := Lib.hid (CZ.ext o_3_0_16.out hx_17)
      have o_6_0_17 := Lib.hid (CZ.ext o_6_0_16.out hx_17)
      have hE_17 := Lib.hid ((hE_16.out).trans hx_17)
      have s_17 := hx_17.size
      try simp at s_17
      have h_b7_17 := Lib.hid hb_17
      have sB_17 := (Array.getElem?_eq_some_iff.1 hb_17).1
      have o_7_0_17 := Lib.hid o0
      clear hb_17 o0 hx_17 h_b1_16 h_b2_16 h_b3_16 h_b6_16 o_3_0_16 o_6_0_16 hE_16
      have z_b7 := fun k => cell_of_row _ _ k _ _ _ h_b7_17.out
      have l_b7 := (Array.getElem?_eq_some_iff.1 h_b7_17.out).1
      have z_b3 := fun k => cell_of_row _ _ k _ _ _ h_b3_17.out
      have l_b3 := (Array.getElem?_eq_some_iff.1 h_b3_17.out).1
      go_wp2_with fail
      refine (eqCertificateZ_any J HOKJ.out HTJ.out _ o_7_0_17.out o_3_0_17.out).mono ?_
      rintro e w18 ⟨rfl, hx_18⟩
      have h_b3_18 : Hid (w18.heap[B_3]? = some (.cells #[.int .i64 J.q1, .slice a_3_0 J.n1 c_3_0, .slice a_3_1 J.n c_3_1, .int .i64 J.q2, .slice a_3_2 J.n2 c_3_2] 34 (0, 0))) := heap_keep hx_18 h_b3_17.out
      have h_b6_18 : Hid (w18.heap[w6.heap.size]? = some (.cells #[.int .i64 J.q1, .slice a_6_0 J.n1 c_6_0, .slice a_6_1 J.n c_6_1, .int .i64 J.q2, .slice a_6_2 J.n2 c_6_2] 34 (0, 0))) := heap_keep hx_18 h_b6_17.out
      have h_b7_18 : Hid (w18.heap[B_17]? = some (.cells #[.int .i64 J.q1, .slice a_17_0 J.n1 c_17_0, .slice a_17_1 J.n c_17_1, .int .i64 J.q2, .slice a_17_2 J.n2 c_17_2] 34 (0, 0))) := heap_keep hx_18 h_b7_17.out
      have o_3_0_18 := Lib.hid (CZ.ext o_3_0_17.out hx_18)
      have o_6_0_18 := Lib.hid (CZ.ext o_6_0_17.out hx_18)
      have o_7_0_18 := Lib.hid (CZ.ext o_7_0_17.out hx_18)
      have hE_18 := Lib.hid ((hE_17.out).trans hx_18)
      have s_18 := hx_18.size
      try simp at s_18
      clear z_b7 l_b7 z_b3 l_b3 h_b1_17 h_b2_17 h_b3_17 h_b6_17 h_b7_17 o_3_0_17 o_6_0_17 o_7_0_17 hE_17 hx_18
      have z_b6 := fun k => cell_of_row _ _ k _ _ _ h_b6_18.out
      have l_b6 := (Array.getElem?_eq_some_iff.1 h_b6_18.out).1
      go_wp2_with fail
      refine (heldCertificateZ_any J HTJ.out (1) (by omega) _ o_6_0_18.out).mono ?_
      rintro e w19 ⟨rfl, hx_19⟩
      have h_b6_19 : Hid (w19.heap[w6.heap.size]? = some (.cells #[.int .i64 J.q1, .slice a_6_0 J.n1 c_6_0, .slice a_6_1 J.n c_6_1, .int .i64 J.q2, .slice a_6_2 J.n2 c_6_2] 34 (0, 0))) := heap_keep hx_19 h_b6_18.out
      have o_6_0_19 := Lib.hid (CZ.ext o_6_0_18.out hx_19)
      have hE_19 := Lib.hid ((hE_18.out).trans hx_19)
      have s_19 := hx_19.size
      try simp at s_19
      clear z_b6 l_b6 h_b3_18 h_b6_18 h_b7_18 o_3_0_18 o_6_0_18 o_7_0_18 hE_18 hx_19
      go_wp2
      go_ret
      exact ⟨rfl, hE_19.out⟩

theorem law_JoinCertificates_c (cs ds : Array Value) {n m : Nat} {w0 : World} (hs : Shape Try.prog w0 n 27 (Value.agg cs).cells.toList) (ht : Shape Try.prog w0 m 27 (Value.agg ds).cells.toList) (w : World) (hw : w0 = w := by rfl) :
    Calls Try.prog 3 #[.agg cs, .agg ds] w fun e w' => e = .returned (.bool true) ∧ Ext w w' := by
  subst hw
  obtain ⟨q1, q2, v1, vs, v2, l1, l2, xs, ys, rs, rfl, h1, h2, h3⟩ := cert_arg hs
  obtain ⟨p1, p2, u1, us, u2, k1, k2, zs, ts, rt, rfl, g1, g2, g3⟩ := cert_arg ht
  exact law_JoinCertificates ⟨q1, l1, xs, rs.length, fun j => rs.getD j default, q2, l2, ys⟩ ⟨p1, k1, zs, rt.length, fun j => rt.getD j default, p2, k2, ts⟩ w0 ⟨h1, by rw [RL_of]; exact h2, h3⟩ ⟨g1, by rw [RL_of]; exact g2, g3⟩

end Go.Proofs.Ytlbcjbeafampcaa
