/- The law on OperatorKey. -/
import Derived.Test.YtamiploliebplaaDoorStK
import Derived.Test.YtamiploliebplaaDoorMatB
import Derived.Deep.RegionHeld3
import Derived.Deep.Cut
namespace Go.Proofs.YtamiploliebplaaDoor
open Go.RowKit Go.Lib
set_option linter.unusedVariables false
set_option linter.unusedSimpArgs false

theorem law_OperatorKey_ee {a b : World} (h : a = b) : Ext a b := by subst h; exact Ext.refl _

set_option maxRecDepth 20000 in
set_option maxHeartbeats 20000000 in
theorem law_OperatorKey (r c : Int) {v1 : Value} {n : Nat} {xs : List Int} (w : World) (h0_0 : RV w 5 v1 n xs) (hT : Tab w) :
    Calls Tryd.prog 3 #[.agg #[.int .i64 r, .int .i64 c, v1]] w fun e w' => e = .returned (.bool true) ∧ Ext w w' := by
  have HZ0 := fun l (hl : 0 ≤ l ∧ l ≤ 1048576) w' (hx : Ext w w') => Lib.hid (szMatrix_any r c l hl w' (h0_0.ext hx))
  have HT0 := fun hm0 w' (hx : Ext w w') => Lib.hid (toMatrix_any r c hm0 w' (h0_0.ext hx))
  have HL0_0 := Lib.hid h0_0.1
  have HS := fun hn x0_0 w' (k0_0 : RV w' 5 x0_0 n xs) (hxT : Ext w w') => Lib.hid (s_operatorKey_any r c hn w' k0_0)
  have HI := fun hn x0_0 w' (k0_0 : RV w' 5 x0_0 n xs) (hxT : Ext w w') => Lib.hid (operatorKey_any r c hn w' (hT.ext hxT) k0_0)
  obtain ⟨-, a1, c1, rfl, q1_0_0, q2_0_0, hh⟩ := h0_0
  clear hh
  generalize BA (opT r c n xs) = S at *
  generalize cpOk r c n xs = ok at *
  have HZ0 := HZ0 ((1048576 : Int)) (by omega)
  by_cases hm0 : (n : Int) ≤ (1048576 : Int)
  case neg =>
    simp only [if_neg hm0] at HZ0
    go_enter Tryd.func3, Tryd.ntmps3
    go_wp2_with fail
    refine (HZ0 _ (by repeat (first | (with_reducible refine Ext.setCell ?_ (by first | (simp; done) | (simp; omega)) _) | with_reducible refine Ext.alloc ?_ _ | with_reducible refine Ext.drew ?_ | with_reducible refine Ext.drewN ?_ _ | with_reducible assumption | with_reducible exact Ext.refl _ | with_reducible refine Ext.trans ?_ (by with_reducible assumption)))).out.mono ?_
    rintro e w1 ⟨rfl, hx1⟩
    obtain ⟨hc1, hf1⟩ := hx1.cells
    have hz1 := hx1.size
    try simp at hz1
    try have hb1_1 : w.heap.size < w1.heap.size := by omega
    try have hb1_2 : w.heap.size + 1 < w1.heap.size := by omega
    try have hb1_3 : w.heap.size + 2 < w1.heap.size := by omega
    go_wp2
    go_ret
    exact ⟨rfl, (by repeat (first | (with_reducible refine Ext.setCell ?_ (by first | (simp; done) | (simp; omega)) _) | with_reducible refine Ext.alloc ?_ _ | with_reducible refine Ext.drew ?_ | with_reducible refine Ext.drewN ?_ _ | with_reducible assumption | with_reducible exact Ext.refl _ | with_reducible refine Ext.trans ?_ (by with_reducible assumption)))⟩
  simp only [if_pos hm0] at HZ0
  have hr0 : ¬ ((1048576 : Int) - n < 0) := by omega
  have HT0 := HT0 (by omega)
  have HS := HS (by omega)
  have HI := HI (by omega)
  go_enter Tryd.func3, Tryd.ntmps3
  go_wp2_with fail
  refine (HZ0 _ ((Ext.refl w).alloc _)).out.mono ?_
  rintro e w1 ⟨rfl, hx_1⟩
  have h_b1_1 : Hid (w1.heap[w.heap.size]? = some (.cells #[.int .i64 r, .int .i64 c, .slice a1 n c1] 24 (0, 0))) := heap_keep hx_1 (heap_alloc_new _ _)
  have hE_1 := Lib.hid ((((Ext.refl w).alloc _)).trans hx_1)
  have s_1 := hx_1.size
  try simp at s_1
  clear hx_1
  have z_b1 := fun k => cell_of_row _ _ k _ _ _ h_b1_1.out
  have l_b1 := (Array.getElem?_eq_some_iff.1 h_b1_1.out).1
  go_wp2_with fail
  refine (HT0 _ hE_1.out).out.mono ?_
  rintro e w2 ⟨u0, rfl, o0, hx_2⟩
  have h_b1_2 : Hid (w2.heap[w.heap.size]? = some (.cells #[.int .i64 r, .int .i64 c, .slice a1 n c1] 24 (0, 0))) := heap_keep hx_2 h_b1_1.out
  have hE_2 := Lib.hid ((hE_1.out).trans hx_2)
  have s_2 := hx_2.size
  try simp at s_2
  have o_2_0_2 := Lib.hid o0
  obtain ⟨a_2, c_2, rfl, p1, p2, p3⟩ := own_shape o0
  clear o0 p1 p2 p3
  have lim_2_0 : Hid (∀ k, (Value.slice a_2 n c_2).ownBlock = some k → w1.heap.size ≤ k ∧ k < w2.heap.size) := fun k hk => by have h := o_2_0_2.out.lt k hk; (try simp at h); omega
  clear z_b1 l_b1 h_b1_1 hE_1 hx_2
  go_wp2_with fail
  refine (HS _ _ (RV.own o_2_0_2.out HL0_0.out) hE_2.out).out.mono ?_
  rintro e w3 ⟨rfl, hx_3⟩
  have h_b1_3 : Hid (w3.heap[w.heap.size]? = some (.cells #[.int .i64 r, .int .i64 c, .slice a1 n c1] 24 (0, 0))) := heap_keep hx_3 h_b1_2.out
  have o_2_0_3 := Lib.hid (own_ext o_2_0_2.out hx_3)
  have hE_3 := Lib.hid ((hE_2.out).trans hx_3)
  have s_3 := hx_3.size
  try simp at s_3
  clear h_b1_2 o_2_0_2 hE_2 hx_3
  have z_b1 := fun k => cell_of_row _ _ k _ _ _ h_b1_3.out
  have l_b1 := (Array.getElem?_eq_some_iff.1 h_b1_3.out).1
  go_wp2_with fail
  refine (HT0 _ hE_3.out).out.mono ?_
  rintro e w4 ⟨u0, rfl, o0, hx_4⟩
  have h_b1_4 : Hid (w4.heap[w.heap.size]? = some (.cells #[.int .i64 r, .int .i64 c, .slice a1 n c1] 24 (0, 0))) := heap_keep hx_4 h_b1_3.out
  have hE_4 := Lib.hid ((hE_3.out).trans hx_4)
  have s_4 := hx_4.size
  try simp at s_4
  have o_3_0_4 := Lib.hid o0
  obtain ⟨a_4, c_4, rfl, p1, p2, p3⟩ := own_shape o0
  clear o0 p1 p2 p3
  have lim_3_0 : Hid (∀ k, (Value.slice a_4 n c_4).ownBlock = some k → w3.heap.size ≤ k ∧ k < w4.heap.size) := fun k hk => by have h := o_3_0_4.out.lt k hk; (try simp at h); omega
  clear z_b1 l_b1 h_b1_3 o_2_0_3 hE_3 hx_4
  go_wp2_with fail
  refine (HI _ _ (RV.own (own_ext o_3_0_4.out ((Ext.refl _).alloc _)) HL0_0.out) (hE_4.out.alloc _)).out.mono ?_
  rintro e w5 ⟨rfl, hx_5⟩
  have h_b1_5 : Hid (w5.heap[w.heap.size]? = some (.cells #[.int .i64 r, .int .i64 c, .slice a1 n c1] 24 (0, 0))) := heap_keep hx_5 (heap_alloc_lt h_b1_4.out)
  have h_b2_5 : Hid (w5.heap[w4.heap.size]? = some (.cells #[.int .i64 r, .int .i64 c, .slice a_4 n c_4] 30 (0, 0))) := heap_keep hx_5 (heap_alloc_new _ _)
  have o_3_0_5 := Lib.hid (own_ext (own_ext o_3_0_4.out ((Ext.refl _).alloc _)) hx_5)
  have hE_5 := Lib.hid (((hE_4.out.alloc _)).trans hx_5)
  have s_5 := hx_5.size
  try simp at s_5
  clear h_b1_4 o_3_0_4 hE_4 hx_5
  -- arguments as they were
  have z_b2 := fun k => cell_of_row _ _ k _ _ _ h_b2_5.out
  have l_b2 := (Array.getElem?_eq_some_iff.1 h_b2_5.out).1
  have z_b1 := fun k => cell_of_row _ _ k _ _ _ h_b1_5.out
  have l_b1 := (Array.getElem?_eq_some_iff.1 h_b1_5.out).1
  have HK : Hid (∀ w', Ext w5 w' → (w'.cell? ⟨w4.heap.size, 0, none⟩ = some (.int .i64 r) ∧ w'.cell? ⟨w4.heap.size, 1, none⟩ = some (.int .i64 c) ∧ w'.cell? ⟨w4.heap.size, 2, none⟩ = some (.slice a_4 n c_4) ∧ w'.cell? ⟨w.heap.size, 0, none⟩ = some (.int .i64 r) ∧ w'.cell? ⟨w.heap.size, 1, none⟩ = some (.int .i64 c) ∧ w'.cell? ⟨w.heap.size, 2, none⟩ = some (.slice a1 n c1))) := fun w' hx =>
    ⟨(hx.cells.1 _ 0 l_b2).trans (z_b2 0), (hx.cells.1 _ 1 l_b2).trans (z_b2 1), (hx.cells.1 _ 2 l_b2).trans (z_b2 2), (hx.cells.1 _ 0 l_b1).trans (z_b1 0), (hx.cells.1 _ 1 l_b1).trans (z_b1 1), (hx.cells.1 _ 2 l_b1).trans (z_b1 2)⟩
  have hE_ := hE_5.out
  go_wp2_with fail
  go_region_held3 (fun w' => w'.cell? ⟨w4.heap.size, 0, none⟩ = some (.int .i64 r) ∧ w'.cell? ⟨w4.heap.size, 1, none⟩ = some (.int .i64 c) ∧ w'.cell? ⟨w4.heap.size, 2, none⟩ = some (.slice a_4 n c_4) ∧ w'.cell? ⟨w.heap.size, 0, none⟩ = some (.int .i64 r) ∧ w'.cell? ⟨w.heap.size, 1, none⟩ = some (.int .i64 c) ∧ w'.cell? ⟨w.heap.size, 2, none⟩ = some (.slice a1 n c1)) (exact HK.out _ (by repeat (first | (with_reducible refine Ext.setCell ?_ (by first | (simp; done) | (simp; omega)) _) | with_reducible refine Ext.alloc ?_ _ | with_reducible refine Ext.drew ?_ | with_reducible refine Ext.drewN ?_ _ | with_reducible assumption | with_reducible exact Ext.refl _ | with_reducible refine Ext.trans ?_ (by with_reducible assumption))))
    (first
    | (go_at_call 7; (with_reducible refine (HT0 _ (by repeat (first | (with_reducible refine Ext.setCell ?_ (by first | (simp; done) | (simp; omega)) _) | with_reducible refine Ext.alloc ?_ _ | with_reducible refine Ext.drew ?_ | with_reducible refine Ext.drewN ?_ _ | with_reducible assumption | with_reducible exact Ext.refl _ | with_reducible refine Ext.trans ?_ (by with_reducible assumption)))).out.mono ?_); rintro e w6 ⟨u0, rfl, oo0, hx_6⟩; have OO0 := Lib.hid oo0; obtain ⟨aE0, cE0, rfl, q1E, q2E, q3E⟩ := own_shape oo0; clear q1E q2E q3E oo0)
    | (go_at_call 9; (with_reducible refine (eqMatrix_big r c HL0_0.out (by omega) _ (own_ext o_3_0_5.out (by repeat (first | (with_reducible refine Ext.setCell ?_ (by first | (simp; done) | (simp; omega)) _) | with_reducible refine Ext.alloc ?_ _ | with_reducible refine Ext.drew ?_ | with_reducible refine Ext.drewN ?_ _ | with_reducible assumption | with_reducible exact Ext.refl _ | with_reducible refine Ext.trans ?_ (by with_reducible assumption)))) OO0.out).mono ?_); rintro e w7 ⟨rfl, hx_7⟩))
  have hxx_7 : Ext w5 w7 := (by repeat (first | (with_reducible refine Ext.setCell ?_ (by first | (simp; done) | (simp; omega)) _) | with_reducible refine Ext.alloc ?_ _ | with_reducible refine Ext.drew ?_ | with_reducible refine Ext.drewN ?_ _ | with_reducible assumption | with_reducible exact Ext.refl _ | with_reducible refine Ext.trans ?_ (by with_reducible assumption)))
  have h_b1_7 : Hid (w7.heap[w.heap.size]? = some (.cells #[.int .i64 r, .int .i64 c, .slice a1 n c1] 24 (0, 0))) := heap_keep hxx_7 h_b1_5.out
  have h_b2_7 : Hid (w7.heap[w4.heap.size]? = some (.cells #[.int .i64 r, .int .i64 c, .slice a_4 n c_4] 30 (0, 0))) := heap_keep hxx_7 h_b2_5.out
  have o_3_0_7 := Lib.hid (own_ext o_3_0_5.out hxx_7)
  have hE_7 := Lib.hid ((hE_5.out).trans hxx_7)
  have s_7 := hxx_7.size
  try simp at s_7
  clear z_b2 l_b2 z_b1 l_b1 h_b1_5 h_b2_5 o_3_0_5 hE_5 hx_6 hx_7 hxx_7 HK hE_ OO0
  go_wp2
  go_ret
  exact ⟨rfl, hE_7.out⟩

theorem law_OperatorKey_c (cs : Array Value) {n : Nat} {w0 : World} (hs : Shape Tryd.prog w0 n 24 (Value.agg cs).cells.toList) (w : World) (hT : Tab w) (hw : w0 = w := by rfl) :
    Calls Tryd.prog 3 #[.agg cs] w fun e w' => e = .returned (.bool true) ∧ Ext w w' := by
  subst hw
  obtain ⟨r, c, v1, n1, xs, rfl, h1, -, -⟩ := mat_arg hs
  exact law_OperatorKey r c w0 h1 hT

end Go.Proofs.YtamiploliebplaaDoor
