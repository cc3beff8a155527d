/- The law on FoldPass. -/
import Derived.Test.YtchaanppoklapaaPsP
import Derived.Test.YtchaanppoklapaaPsS
import Derived.Test.YtchaanppoklapaaCgK
import Derived.Test.YtchaanppoklapaaCirM
import Derived.Deep.RegionHeld3
import Derived.Deep.Cut
namespace Go.Proofs.Ytchaanppoklapaa
open Go.RowKit Go.Lib
set_option linter.unusedVariables false
set_option linter.unusedSimpArgs false

theorem law_FoldPass_ee {a b : World} (h : a = b) : Ext a b := by subst h; exact Ext.refl _

set_option maxRecDepth 20000 in
set_option maxHeartbeats 20000000 in
theorem law_FoldPass (q : Int) {v1 : Value} {n : Nat} {xs : List Int} (w : World) (h0_0 : RV w 3 v1 n xs) :
    Calls Try.prog 5 #[.agg #[.int .i64 q, v1]] w fun e w' => e = .returned (.bool true) ∧ Ext w w' := by
  have HZ0 := fun l (hl : 0 ≤ l ∧ l ≤ 1048576) w' (hx : Ext w w') => Lib.hid (szCircuit_any q l hl w' (h0_0.ext hx))
  have HT0 := fun hm0 w' (hx : Ext w w') => Lib.hid (toCircuit_any q hm0 w' (h0_0.ext hx))
  have HL0_0 := Lib.hid h0_0.1
  have hlx0 := h0_0.1
  have HS := fun hn x0_0 w' (k0_0 : RV w' 3 x0_0 n xs) => Lib.hid (s_foldPass_any q hn w' k0_0)
  have HI := fun hn x0_0 w' (k0_0 : RV w' 3 x0_0 n xs) => Lib.hid (foldPass_any q hn w' k0_0)
  obtain ⟨-, a1, c1, rfl, q1_0_0, q2_0_0, hh⟩ := h0_0
  clear hh
  have HZ0 := HZ0 ((1048576 : Int)) (by omega)
  by_cases hm0 : (n : Int) ≤ (1048576 : Int)
  case neg =>
    simp only [if_neg hm0] at HZ0
    go_enter Try.func5, Try.ntmps5
    go_wp2_with fail
    refine (HZ0 _ (by repeat (first | (with_reducible refine Ext.setCell ?_ (by first | (simp; done) | (simp; omega)) _) | with_reducible refine Ext.alloc ?_ _ | with_reducible refine Ext.drew ?_ | with_reducible refine Ext.drewN ?_ _ | with_reducible assumption | with_reducible exact Ext.refl _ | with_reducible refine Ext.trans ?_ (by with_reducible assumption)))).out.mono ?_
    rintro e w1 ⟨rfl, hx1⟩
    obtain ⟨hc1, hf1⟩ := hx1.cells
    have hz1 := hx1.size
    try simp at hz1
    try have hb1_1 : w.heap.size < w1.heap.size := by omega
    try have hb1_2 : w.heap.size + 1 < w1.heap.size := by omega
    try have hb1_3 : w.heap.size + 2 < w1.heap.size := by omega
    go_wp2
    go_ret
    exact ⟨rfl, (by repeat (first | (with_reducible refine Ext.setCell ?_ (by first | (simp; done) | (simp; omega)) _) | with_reducible refine Ext.alloc ?_ _ | with_reducible refine Ext.drew ?_ | with_reducible refine Ext.drewN ?_ _ | with_reducible assumption | with_reducible exact Ext.refl _ | with_reducible refine Ext.trans ?_ (by with_reducible assumption)))⟩
  simp only [if_pos hm0] at HZ0
  have hr0 : ¬ ((1048576 : Int) - n < 0) := by omega
  have HT0 := HT0 (by omega)
  obtain ⟨hokJ, htJ⟩ := psC_facts (q := q) hlx0
  have HOKJ := Lib.hid hokJ
  have HTJ : Hid ((psC q xs n).tot ≤ 1048576) := htJ
  clear hokJ htJ hlx0
  generalize psC q xs n = J at *
  generalize psOk q xs n = ok at *
  have hb3 := endC_bd 1 HTJ.out
  have hk3 : ¬ (endC 1 J < 0) := by omega
  have HS := HS (by omega)
  have HI := HI (by omega)
  go_enter Try.func5, Try.ntmps5
  go_wp2_with fail
  refine (HZ0 _ ((Ext.refl w).alloc _)).out.mono ?_
  rintro e w1 ⟨rfl, hx_1⟩
  have h_b1_1 : Hid (w1.heap[w.heap.size]? = some (.cells #[.int .i64 q, .slice a1 n c1] 24 (0, 0))) := heap_keep hx_1 (heap_alloc_new _ _)
  have hE_1 := Lib.hid ((((Ext.refl w).alloc _)).trans hx_1)
  have s_1 := hx_1.size
  try simp at s_1
  clear hx_1
  have z_b1 := fun k => cell_of_row _ _ k _ _ _ h_b1_1.out
  have l_b1 := (Array.getElem?_eq_some_iff.1 h_b1_1.out).1
  go_wp2_with fail
  refine (HT0 _ hE_1.out).out.mono ?_
  rintro e w2 ⟨u0, rfl, o0, hx_2⟩
  have h_b1_2 : Hid (w2.heap[w.heap.size]? = some (.cells #[.int .i64 q, .slice a1 n c1] 24 (0, 0))) := heap_keep hx_2 h_b1_1.out
  have hE_2 := Lib.hid ((hE_1.out).trans hx_2)
  have s_2 := hx_2.size
  try simp at s_2
  have o_2_0_2 := Lib.hid o0
  obtain ⟨a_2, c_2, rfl, p1, p2, p3⟩ := own_shape o0
  clear o0 p1 p2 p3
  have lim_2_0 : Hid (∀ k, (Value.slice a_2 n c_2).ownBlock = some k → w1.heap.size ≤ k ∧ k < w2.heap.size) := fun k hk => by have h := o_2_0_2.out.lt k hk; (try simp at h); omega
  clear z_b1 l_b1 h_b1_1 hE_1 hx_2
  go_wp2_with fail
  refine (HS _ _ (RV.own o_2_0_2.out HL0_0.out)).out.mono ?_
  rintro e w3 ⟨u0, u1, u2, rfl, o0, hx_3⟩
  have h_b1_3 : Hid (w3.heap[w.heap.size]? = some (.cells #[.int .i64 q, .slice a1 n c1] 24 (0, 0))) := heap_keep hx_3 h_b1_2.out
  have o_2_0_3 := Lib.hid (own_ext o_2_0_2.out hx_3)
  have hE_3 := Lib.hid ((hE_2.out).trans hx_3)
  have s_3 := hx_3.size
  try simp at s_3
  obtain ⟨a_3_0, a_3_1, a_3_2, c_3_0, c_3_1, c_3_2, rfl, rfl, rfl⟩ := CZ.shape o0
  have o_3_0_3 := Lib.hid (CZ.weak (lo' := w2.heap.size) o0 (by (try simp); try omega) (Nat.le_refl _))
  clear o0
  clear h_b1_2 o_2_0_2 hE_2 hx_3
  have z_b1 := fun k => cell_of_row _ _ k _ _ _ h_b1_3.out
  have l_b1 := (Array.getElem?_eq_some_iff.1 h_b1_3.out).1
  go_wp2_with fail
  refine (HT0 _ (hE_3.out.alloc _)).out.mono ?_
  rintro e w4 ⟨u0, rfl, o0, hx_4⟩
  have h_b1_4 : Hid (w4.heap[w.heap.size]? = some (.cells #[.int .i64 q, .slice a1 n c1] 24 (0, 0))) := heap_keep hx_4 (heap_alloc_lt h_b1_3.out)
  have h_b2_4 : Hid (w4.heap[w3.heap.size]? = some (.cells #[.int .i64 J.q1, .slice a_3_0 J.n1 c_3_0, .slice a_3_1 J.n c_3_1, .int .i64 J.q2, .slice a_3_2 J.n2 c_3_2] 42 (0, 0))) := heap_keep hx_4 (heap_alloc_new _ _)
  have o_3_0_4 := Lib.hid (CZ.ext (CZ.ext o_3_0_3.out ((Ext.refl _).alloc _)) hx_4)
  have hE_4 := Lib.hid (((hE_3.out.alloc _)).trans hx_4)
  have s_4 := hx_4.size
  try simp at s_4
  have o_4_0_4 := Lib.hid o0
  obtain ⟨a_4, c_4, rfl, p1, p2, p3⟩ := own_shape o0
  clear o0 p1 p2 p3
  have lim_4_0 : Hid (∀ k, (Value.slice a_4 n c_4).ownBlock = some k → w3.heap.size + 1 ≤ k ∧ k < w4.heap.size) := fun k hk => by have h := o_4_0_4.out.lt k hk; (try simp at h); omega
  clear z_b1 l_b1 h_b1_3 o_2_0_3 o_3_0_3 hE_3 hx_4
  go_wp2_with fail
  refine (HI _ _ (RV.own (own_ext o_4_0_4.out ((Ext.refl _).alloc _)) HL0_0.out)).out.mono ?_
  rintro e w5 ⟨u0, u1, u2, rfl, o0, hx_5⟩
  have h_b1_5 : Hid (w5.heap[w.heap.size]? = some (.cells #[.int .i64 q, .slice a1 n c1] 24 (0, 0))) := heap_keep hx_5 (heap_alloc_lt h_b1_4.out)
  have h_b2_5 : Hid (w5.heap[w3.heap.size]? = some (.cells #[.int .i64 J.q1, .slice a_3_0 J.n1 c_3_0, .slice a_3_1 J.n c_3_1, .int .i64 J.q2, .slice a_3_2 J.n2 c_3_2] 42 (0, 0))) := heap_keep hx_5 (heap_alloc_lt h_b2_4.out)
  have h_b3_5 : Hid (w5.heap[w4.heap.size]? = some (.cells #[.int .i64 q, .slice a_4 n c_4] 31 (0, 0))) := heap_keep hx_5 (heap_alloc_new _ _)
  have o_3_0_5 := Lib.hid (CZ.ext (CZ.ext o_3_0_4.out ((Ext.refl _).alloc _)) hx_5)
  have o_4_0_5 := Lib.hid (own_ext (own_ext o_4_0_4.out ((Ext.refl _).alloc _)) hx_5)
  have hE_5 := Lib.hid (((hE_4.out.alloc _)).trans hx_5)
  have s_5 := hx_5.size
  try simp at s_5
  obtain ⟨a_5_0, a_5_1, a_5_2, c_5_0, c_5_1, c_5_2, rfl, rfl, rfl⟩ := CZ.shape o0
  have o_5_0_5 := Lib.hid (CZ.weak (lo' := w4.heap.size + 1) o0 (by (try simp); try omega) (Nat.le_refl _))
  clear o0
  clear h_b1_4 h_b2_4 o_3_0_4 o_4_0_4 hE_4 hx_5
  have z_b2 := fun k => cell_of_row _ _ k _ _ _ h_b2_5.out
  have l_b2 := (Array.getElem?_eq_some_iff.1 h_b2_5.out).1
  go_wp2_with fail
  refine (eqCertificateZ_any J HOKJ.out HTJ.out _ (CZ.ext o_5_0_5.out ((Ext.refl _).alloc _)) (CZ.ext o_3_0_5.out ((Ext.refl _).alloc _))).mono ?_
  rintro e w6 ⟨rfl, hx_6⟩
  have h_b1_6 : Hid (w6.heap[w.heap.size]? = some (.cells #[.int .i64 q, .slice a1 n c1] 24 (0, 0))) := heap_keep hx_6 (heap_alloc_lt h_b1_5.out)
  have h_b2_6 : Hid (w6.heap[w3.heap.size]? = some (.cells #[.int .i64 J.q1, .slice a_3_0 J.n1 c_3_0, .slice a_3_1 J.n c_3_1, .int .i64 J.q2, .slice a_3_2 J.n2 c_3_2] 42 (0, 0))) := heap_keep hx_6 (heap_alloc_lt h_b2_5.out)
  have h_b3_6 : Hid (w6.heap[w4.heap.size]? = some (.cells #[.int .i64 q, .slice a_4 n c_4] 31 (0, 0))) := heap_keep hx_6 (heap_alloc_lt h_b3_5.out)
  have h_b4_6 : Hid (w6.heap[w5.heap.size]? = some (.cells #[.int .i64 J.q1, .slice a_5_0 J.n1 c_5_0, .slice a_5_1 J.n c_5_1, .int .i64 J.q2, .slice a_5_2 J.n2 c_5_2] 42 (0, 0))) := heap_keep hx_6 (heap_alloc_new _ _)
  have o_3_0_6 := Lib.hid (CZ.ext (CZ.ext o_3_0_5.out ((Ext.refl _).alloc _)) hx_6)
  have o_4_0_6 := Lib.hid (own_ext (own_ext o_4_0_5.out ((Ext.refl _).alloc _)) hx_6)
  have o_5_0_6 := Lib.hid (CZ.ext (CZ.ext o_5_0_5.out ((Ext.refl _).alloc _)) hx_6)
  have hE_6 := Lib.hid (((hE_5.out.alloc _)).trans hx_6)
  have s_6 := hx_6.size
  try simp at s_6
  clear z_b2 l_b2 h_b1_5 h_b2_5 h_b3_5 o_3_0_5 o_4_0_5 o_5_0_5 hE_5 hx_6
  -- arguments as they were
  have z_b3 := fun k => cell_of_row _ _ k _ _ _ h_b3_6.out
  have l_b3 := (Array.getElem?_eq_some_iff.1 h_b3_6.out).1
  have z_b1 := fun k => cell_of_row _ _ k _ _ _ h_b1_6.out
  have l_b1 := (Array.getElem?_eq_some_iff.1 h_b1_6.out).1
  have HK : Hid (∀ w', Ext w6 w' → (w'.cell? ⟨w4.heap.size, 0, none⟩ = some (.int .i64 q) ∧ w'.cell? ⟨w4.heap.size, 1, none⟩ = some (.slice a_4 n c_4) ∧ w'.cell? ⟨w.heap.size, 0, none⟩ = some (.int .i64 q) ∧ w'.cell? ⟨w.heap.size, 1, none⟩ = some (.slice a1 n c1))) := fun w' hx =>
    ⟨(hx.cells.1 _ 0 l_b3).trans (z_b3 0), (hx.cells.1 _ 1 l_b3).trans (z_b3 1), (hx.cells.1 _ 0 l_b1).trans (z_b1 0), (hx.cells.1 _ 1 l_b1).trans (z_b1 1)⟩
  have hE_ := hE_6.out
  go_wp2_with fail
  go_region_held3 (fun w' => w'.cell? ⟨w4.heap.size, 0, none⟩ = some (.int .i64 q) ∧ w'.cell? ⟨w4.heap.size, 1, none⟩ = some (.slice a_4 n c_4) ∧ w'.cell? ⟨w.heap.size, 0, none⟩ = some (.int .i64 q) ∧ w'.cell? ⟨w.heap.size, 1, none⟩ = some (.slice a1 n c1)) (exact HK.out _ (by repeat (first | (with_reducible refine Ext.setCell ?_ (by first | (simp; done) | (simp; omega)) _) | with_reducible refine Ext.alloc ?_ _ | with_reducible refine Ext.drew ?_ | with_reducible refine Ext.drewN ?_ _ | with_reducible assumption | with_reducible exact Ext.refl _ | with_reducible refine Ext.trans ?_ (by with_reducible assumption))))
    (first
    | (go_at_call 8; (with_reducible refine (HT0 _ (by repeat (first | (with_reducible refine Ext.setCell ?_ (by first | (simp; done) | (simp; omega)) _) | with_reducible refine Ext.alloc ?_ _ | with_reducible refine Ext.drew ?_ | with_reducible refine Ext.drewN ?_ _ | with_reducible assumption | with_reducible exact Ext.refl _ | with_reducible refine Ext.trans ?_ (by with_reducible assumption)))).out.mono ?_); rintro e w7 ⟨u0, rfl, oo0, hx_7⟩; have OO0 := Lib.hid oo0; obtain ⟨aE0, cE0, rfl, q1E, q2E, q3E⟩ := own_shape oo0; clear q1E q2E q3E oo0)
    | (go_at_call 11; (with_reducible refine (eqCircuit_same q HL0_0.out (by omega) _ (own_ext o_4_0_6.out (by repeat (first | (with_reducible refine Ext.setCell ?_ (by first | (simp; done) | (simp; omega)) _) | with_reducible refine Ext.alloc ?_ _ | with_reducible refine Ext.drew ?_ | with_reducible refine Ext.drewN ?_ _ | with_reducible assumption | with_reducible exact Ext.refl _ | with_reducible refine Ext.trans ?_ (by with_reducible assumption)))) OO0.out).mono ?_); rintro e w8 ⟨rfl, hx_8⟩))
  have hxx_8 : Ext w6 w8 := (by repeat (first | (with_reducible refine Ext.setCell ?_ (by first | (simp; done) | (simp; omega)) _) | with_reducible refine Ext.alloc ?_ _ | with_reducible refine Ext.drew ?_ | with_reducible refine Ext.drewN ?_ _ | with_reducible assumption | with_reducible exact Ext.refl _ | with_reducible refine Ext.trans ?_ (by with_reducible assumption)))
  have h_b1_8 : Hid (w8.heap[w.heap.size]? = some (.cells #[.int .i64 q, .slice a1 n c1] 24 (0, 0))) := heap_keep hxx_8 h_b1_6.out
  have h_b2_8 : Hid (w8.heap[w3.heap.size]? = some (.cells #[.int .i64 J.q1, .slice a_3_0 J.n1 c_3_0, .slice a_3_1 J.n c_3_1, .int .i64 J.q2, .slice a_3_2 J.n2 c_3_2] 42 (0, 0))) := heap_keep hxx_8 h_b2_6.out
  have h_b3_8 : Hid (w8.heap[w4.heap.size]? = some (.cells #[.int .i64 q, .slice a_4 n c_4] 31 (0, 0))) := heap_keep hxx_8 h_b3_6.out
  have h_b4_8 : Hid (w8.heap[w5.heap.size]? = some (.cells #[.int .i64 J.q1, .slice a_5_0 J.n1 c_5_0, .slice a_5_1 J.n c_5_1, .int .i64 J.q2, .slice a_5_2 J.n2 c_5_2] 42 (0, 0))) := heap_keep hxx_8 h_b4_6.out
  have o_3_0_8 := Lib.hid (CZ.ext o_3_0_6.out hxx_8)
  have o_4_0_8 := Lib.hid (own_ext o_4_0_6.out hxx_8)
  have o_5_0_8 := Lib.hid (CZ.ext o_5_0_6.out hxx_8)
  have hE_8 := Lib.hid ((hE_6.out).trans hxx_8)
  have s_8 := hxx_8.size
  try simp at s_8
  clear z_b3 l_b3 z_b1 l_b1 h_b1_6 h_b2_6 h_b3_6 h_b4_6 o_3_0_6 o_4_0_6 o_5_0_6 hE_6 hx_7 hx_8 hxx_8 HK hE_ OO0
  have z_b3 := fun k => cell_of_row _ _ k _ _ _ h_b3_8.out
  have l_b3 := (Array.getElem?_eq_some_iff.1 h_b3_8.out).1
  go_wp2_with fail
  refine (markCircuit_any q (by rw [il_length]; exact HL0_0.out) (by omega) (1) (by omega) _ o_4_0_8.out).mono ?_
  rintro e w9 ⟨rfl, om_9, hg_9⟩
  have h_b1_9 : Hid (w9.heap[w.heap.size]? = some (.cells #[.int .i64 q, .slice a1 n c1] 24 (0, 0))) := heap_far hg_9 (heap_alloc_lt h_b1_8.out) (fun j hj => by have := lim_4_0.out j hj; omega)
  have h_b2_9 : Hid (w9.heap[w3.heap.size]? = some (.cells #[.int .i64 J.q1, .slice a_3_0 J.n1 c_3_0, .slice a_3_1 J.n c_3_1, .int .i64 J.q2, .slice a_3_2 J.n2 c_3_2] 42 (0, 0))) := heap_far hg_9 (heap_alloc_lt h_b2_8.out) (fun j hj => by have := lim_4_0.out j hj; omega)
  have h_b3_9 : Hid (w9.heap[w4.heap.size]? = some (.cells #[.int .i64 q, .slice a_4 n c_4] 31 (0, 0))) := heap_far hg_9 (heap_alloc_lt h_b3_8.out) (fun j hj => by have := lim_4_0.out j hj; omega)
  have h_b4_9 : Hid (w9.heap[w5.heap.size]? = some (.cells #[.int .i64 J.q1, .slice a_5_0 J.n1 c_5_0, .slice a_5_1 J.n c_5_1, .int .i64 J.q2, .slice a_5_2 J.n2 c_5_2] 42 (0, 0))) := heap_far hg_9 (heap_alloc_lt h_b4_8.out) (fun j hj => by have := lim_4_0.out j hj; omega)
  have o_3_0_9 := Lib.hid (CZ.grown (CZ.ext o_3_0_8.out ((Ext.refl _).alloc _)) hg_9 (fun j hj => by have := lim_4_0.out j hj; omega))
  have o_5_0_9 := Lib.hid (CZ.grown (CZ.ext o_5_0_8.out ((Ext.refl _).alloc _)) hg_9 (fun j hj => by have := lim_4_0.out j hj; omega))
  have hE_9 := Lib.hid (Ext.grown ((hE_8.out.alloc _)) hg_9 (fun k hk => by have := lim_4_0.out k hk; omega))
  have s_9 := hg_9.size
  try simp at s_9
  have o_4_0_9 := Lib.hid om_9
  clear z_b3 l_b3 h_b1_8 h_b2_8 h_b3_8 h_b4_8 o_3_0_8 o_5_0_8 hE_8 o_4_0_8 om_9 hg_9
  have z_b4 := fun k => cell_of_row _ _ k _ _ _ h_b4_9.out
  have l_b4 := (Array.getElem?_eq_some_iff.1 h_b4_9.out).1
  have z_b2 := fun k => cell_of_row _ _ k _ _ _ h_b2_9.out
  have l_b2 := (Array.getElem?_eq_some_iff.1 h_b2_9.out).1
  go_wp2_with fail
  refine (eqCertificateZ_any J HOKJ.out HTJ.out _ o_5_0_9.out o_3_0_9.out).mono ?_
  rintro e w10 ⟨rfl, hx_10⟩
  have h_b1_10 : Hid (w10.heap[w.heap.size]? = some (.cells #[.int .i64 q, .slice a1 n c1] 24 (0, 0))) := heap_keep hx_10 h_b1_9.out
  have h_b2_10 : Hid (w10.heap[w3.heap.size]? = some (.cells #[.int .i64 J.q1, .slice a_3_0 J.n1 c_3_0, .slice a_3_1 J.n c_3_1, .int .i64 J.q2, .slice a_3_2 J.n2 c_3_2] 42 (0, 0))) := heap_keep hx_10 h_b2_9.out
  have h_b4_10 : Hid (w10.heap[w5.heap.size]? = some (.cells #[.int .i64 J.q1, .slice a_5_0 J.n1 c_5_0, .slice a_5_1 J.n c_5_1, .int .i64 J.q2, .slice a_5_2 J.n2 c_5_2] 42 (0, 0))) := heap_keep hx_10 h_b4_9.out
  have o_3_0_10 := Lib.hid (CZ.ext o_3_0_9.out hx_10)
  have o_5_0_10 := Lib.hid (CZ.ext o_5_0_9.out hx_10)
  have hE_10 := Lib.hid ((hE_9.out).trans hx_10)
  have s_10 := hx_10.size
  try simp at s_10
  clear z_b4 l_b4 z_b2 l_b2 h_b1_9 h_b2_9 h_b3_9 h_b4_9 o_3_0_9 o_4_0_9 o_5_0_9 hE_9 hx_10
  have z_b4 := fun k => cell_of_row _ _ k _ _ _ h_b4_10.out
  have l_b4 := (Array.getElem?_eq_some_iff.1 h_b4_10.out).1
  go_wp2_with fail
  refine (markCertificateZ_any J HOKJ.out HTJ.out (1) (by omega) _ o_5_0_10.out (by omega)).mono ?_
  rintro e w11 ⟨rfl, om_11, hz_11⟩
  have h_b1_11 : Hid (w11.heap[w.heap.size]? = some (.cells #[.int .i64 q, .slice a1 n c1] 24 (0, 0))) := heap_zn hz_11 h_b1_10.out (by omega)
  have h_b2_11 : Hid (w11.heap[w3.heap.size]? = some (.cells #[.int .i64 J.q1, .slice a_3_0 J.n1 c_3_0, .slice a_3_1 J.n c_3_1, .int .i64 J.q2, .slice a_3_2 J.n2 c_3_2] 42 (0, 0))) := heap_zn hz_11 h_b2_10.out (by omega)
  have h_b4_11 : Hid (w11.heap[w5.heap.size]? = some (.cells #[.int .i64 J.q1, .slice a_5_0 J.n1 c_5_0, .slice a_5_1 J.n c_5_1, .int .i64 J.q2, .slice a_5_2 J.n2 c_5_2] 42 (0, 0))) := heap_zn hz_11 h_b4_10.out (by omega)
  have o_3_0_11 := Lib.hid (CZ.zn o_3_0_10.out hz_11 (by omega))
  have hE_11 := Lib.hid (Ext.zn (hE_10.out) hz_11 (by omega))
  have s_11 := hz_11.size
  try simp at s_11
  have o_5_0_11 := Lib.hid om_11
  clear z_b4 l_b4 h_b1_10 h_b2_10 h_b4_10 o_3_0_10 hE_10 o_5_0_10 hz_11 om_11
  have z_b4 := fun k => cell_of_row _ _ k _ _ _ h_b4_11.out
  have l_b4 := (Array.getElem?_eq_some_iff.1 h_b4_11.out).1
  go_wp2_with fail
  refine (heldCertificateZ_any J HTJ.out (1) (by omega) _ o_5_0_11.out).mono ?_
  rintro e w12 ⟨rfl, hx_12⟩
  have h_b1_12 : Hid (w12.heap[w.heap.size]? = some (.cells #[.int .i64 q, .slice a1 n c1] 24 (0, 0))) := heap_keep hx_12 h_b1_11.out
  have h_b2_12 : Hid (w12.heap[w3.heap.size]? = some (.cells #[.int .i64 J.q1, .slice a_3_0 J.n1 c_3_0, .slice a_3_1 J.n c_3_1, .int .i64 J.q2, .slice a_3_2 J.n2 c_3_2] 42 (0, 0))) := heap_keep hx_12 h_b2_11.out
  have h_b4_12 : Hid (w12.heap[w5.heap.size]? = some (.cells #[.int .i64 J.q1, .slice a_5_0 J.n1 c_5_0, .slice a_5_1 J.n c_5_1, .int .i64 J.q2, .slice a_5_2 J.n2 c_5_2] 42 (0, 0))) := heap_keep hx_12 h_b4_11.out
  have o_3_0_12 := Lib.hid (CZ.ext o_3_0_11.out hx_12)
  have o_5_0_12 := Lib.hid (CZ.ext o_5_0_11.out hx_12)
  have hE_12 := Lib.hid ((hE_11.out).trans hx_12)
  have s_12 := hx_12.size
  try simp at s_12
  clear z_b4 l_b4 h_b1_11 h_b2_11 h_b4_11 o_3_0_11 o_5_0_11 hE_11 hx_12
  have z_b1 := fun k => cell_of_row _ _ k _ _ _ h_b1_12.out
  have l_b1 := (Array.getElem?_eq_some_iff.1 h_b1_12.out).1
  go_wp2_with fail
  refine (HT0 _ hE_12.out).out.mono ?_
  rintro e w13 ⟨u0, rfl, o0, hx_13⟩
  have h_b1_13 : Hid (w13.heap[w.heap.size]? = some (.cells #[.int .i64 q, .slice a1 n c1] 24 (0, 0))) := heap_keep hx_13 h_b1_12.out
  have h_b2_13 : Hid (w13.heap[w3.heap.size]? = some (.cells #[.int .i64 J.q1, .slice a_3_0 J.n1 c_3_0, .slice a_3_1 J.n c_3_1, .int .i64 J.q2, .slice a_3_2 J.n2 c_3_2] 42 (0, 0))) := heap_keep hx_13 h_b2_12.out
  have h_b4_13 : Hid (w13.heap[w5.heap.size]? = some (.cells #[.int .i64 J.q1, .slice a_5_0 J.n1 c_5_0, .slice a_5_1 J.n c_5_1, .int .i64 J.q2, .slice a_5_2 J.n2 c_5_2] 42 (0, 0))) := heap_keep hx_13 h_b4_12.out
  have o_3_0_13 := Lib.hid (CZ.ext o_3_0_12.out hx_13)
  have o_5_0_13 := Lib.hid (CZ.ext o_5_0_12.out hx_13)
  have hE_13 := Lib.hid ((hE_12.out).trans hx_13)
  have s_13 := hx_13.size
  try simp at s_13
  have o_6_0_13 := Lib.hid o0
  obtain ⟨a_13, c_13, rfl, p1, p2, p3⟩ := own_shape o0
  clear o0 p1 p2 p3
  have lim_6_0 : Hid (∀ k, (Value.slice a_13 n c_13).ownBlock = some k → w12.heap.size ≤ k ∧ k < w13.heap.size) := fun k hk => by have h := o_6_0_13.out.lt k hk; (try simp at h); omega
  clear z_b1 l_b1 h_b1_12 h_b2_12 h_b4_12 o_3_0_12 o_5_0_12 hE_12 hx_13
  go_wp2_with fail
  refine (HI _ _ (RV.own o_6_0_13.out HL0_0.out)).out.mono ?_
  rintro e w14 ⟨u0, u1, u2, rfl, o0, hx_14⟩
  have h_b2_14 : Hid (w14.heap[w3.heap.size]? = some (.cells #[.int .i64 J.q1, .slice a_3_0 J.n1 c_3_0, .slice a_3_1 J.n c_3_1, .int .i64 J.q2, .slice a_3_2 J.n2 c_3_2] 42 (0, 0))) := heap_keep hx_14 h_b2_13.out
  have h_b4_14 : Hid (w14.heap[w5.heap.size]? = some (.cells #[.int .i64 J.q1, .slice a_5_0 J.n1 c_5_0, .slice a_5_1 J.n c_5_1, .int .i64 J.q2, .slice a_5_2 J.n2 c_5_2] 42 (0, 0))) := heap_keep hx_14 h_b4_13.out
  have o_3_0_14 := Lib.hid (CZ.ext o_3_0_13.out hx_14)
  have o_5_0_14 := Lib.hid (CZ.ext o_5_0_13.out hx_14)
  have o_6_0_14 := Lib.hid (own_ext o_6_0_13.out hx_14)
  have hE_14 := Lib.hid ((hE_13.out).trans hx_14)
  have s_14 := hx_14.size
  try simp at s_14
  obtain ⟨a_14_0, a_14_1, a_14_2, c_14_0, c_14_1, c_14_2, rfl, rfl, rfl⟩ := CZ.shape o0
  have o_7_0_14 := Lib.hid (CZ.weak (lo' := w13.heap.size) o0 (by (try simp); try omega) (Nat.le_refl _))
  clear o0
  clear h_b1_13 h_b2_13 h_b4_13 o_3_0_13 o_5_0_13 o_6_0_13 hE_13 hx_14
  have z_b2 := fun k => cell_of_row _ _ k _ _ _ h_b2_14.out
  have l_b2 := (Array.getElem?_eq_some_iff.1 h_b2_14.out).1
  go_wp2_with fail
  refine (eqCertificateZ_any J HOKJ.out HTJ.out _ (CZ.ext o_7_0_14.out ((Ext.refl _).alloc _)) (CZ.ext o_3_0_14.out ((Ext.refl _).alloc _))).mono ?_
  rintro e w15 ⟨rfl, hx_15⟩
  have h_b2_15 : Hid (w15.heap[w3.heap.size]? = some (.cells #[.int .i64 J.q1, .slice a_3_0 J.n1 c_3_0, .slice a_3_1 J.n c_3_1, .int .i64 J.q2, .slice a_3_2 J.n2 c_3_2] 42 (0, 0))) := heap_keep hx_15 (heap_alloc_lt h_b2_14.out)
  have h_b4_15 : Hid (w15.heap[w5.heap.size]? = some (.cells #[.int .i64 J.q1, .slice a_5_0 J.n1 c_5_0, .slice a_5_1 J.n c_5_1, .int .i64 J.q2, .slice a_5_2 J.n2 c_5_2] 42 (0, 0))) := heap_keep hx_15 (heap_alloc_lt h_b4_14.out)
  have h_b5_15 : Hid (w15.heap[w14.heap.size]? = some (.cells #[.int .i64 J.q1, .slice a_14_0 J.n1 c_14_0, .slice a_14_1 J.n c_14_1, .int .i64 J.q2, .slice a_14_2 J.n2 c_14_2] 42 (0, 0))) := heap_keep hx_15 (heap_alloc_new _ _)
  have o_3_0_15 := Lib.hid (CZ.ext (CZ.ext o_3_0_14.out ((Ext.refl _).alloc _)) hx_15)
  have o_5_0_15 := Lib.hid (CZ.ext (CZ.ext o_5_0_14.out ((Ext.refl _).alloc _)) hx_15)
  have o_7_0_15 := Lib.hid (CZ.ext (CZ.ext o_7_0_14.out ((Ext.refl _).alloc _)) hx_15)
  have hE_15 := Lib.hid (((hE_14.out.alloc _)).trans hx_15)
  have s_15 := hx_15.size
  try simp at s_15
  clear z_b2 l_b2 h_b2_14 h_b4_14 o_3_0_14 o_5_0_14 o_6_0_14 o_7_0_14 hE_14 hx_15
  have z_b4 := fun k => cell_of_row _ _ k _ _ _ h_b4_15.out
  have l_b4 := (Array.getElem?_eq_some_iff.1 h_b4_15.out).1
  go_wp2_with fail
  refine (heldCertificateZ_any J HTJ.out (1) (by omega) _ o_5_0_15.out).mono ?_
  rintro e w16 ⟨rfl, hx_16⟩
  have h_b4_16 : Hid (w16.heap[w5.heap.size]? = some (.cells #[.int .i64 J.q1, .slice a_5_0 J.n1 c_5_0, .slice a_5_1 J.n c_5_1, .int .i64 J.q2, .slice a_5_2 J.n2 c_5_2] 42 (0, 0))) := heap_keep hx_16 h_b4_15.out
  have o_5_0_16 := Lib.hid (CZ.ext o_5_0_15.out hx_16)
  have hE_16 := Lib.hid ((hE_15.out).trans hx_16)
  have s_16 := hx_16.size
  try simp at s_16
  clear z_b4 l_b4 h_b2_15 h_b4_15 h_b5_15 o_3_0_15 o_5_0_15 o_7_0_15 hE_15 hx_16
  go_wp2
  go_ret
  exact ⟨rfl, hE_16.out⟩

theorem law_FoldPass_c (cs : Array Value) {n : Nat} {w0 : World} (hs : Shape Try.prog w0 n 24 (Value.agg cs).cells.toList) (w : World) (hw : w0 = w := by rfl) :
    Calls Try.prog 5 #[.agg cs] w fun e w' => e = .returned (.bool true) ∧ Ext w w' := by
  subst hw
  obtain ⟨q, v1, n1, xs, rfl, h1, -⟩ := circ_arg hs
  exact law_FoldPass q w0 h1

end Go.Proofs.Ytchaanppoklapaa
