/- The law on RunAt. -/
import Derived.Test.YtjeahopiejcopaaRunP
import Derived.Test.YtjeahopiejcopaaRunS
import Derived.Test.YtjeahopiejcopaaCirM
import Derived.Deep.RegionHeld3
import Derived.Deep.Cut
namespace Go.Proofs.Ytjeahopiejcopaa
open Go.RowKit Go.Lib
set_option linter.unusedVariables false
set_option linter.unusedSimpArgs false

theorem law_RunAt_ee {a b : World} (h : a = b) : Ext a b := by subst h; exact Ext.refl _

set_option maxRecDepth 20000 in
set_option maxHeartbeats 20000000 in
theorem law_RunAt (q : Int) {v1 : Value} {n : Nat} {xs : List Int} (at' : Int) {v2 : Value} {m : Nat} {ys : List Int} (w : World) (h0_0 : RV w 3 v1 n xs) (h2_0 : RV w 1 v2 m ys) :
    Calls Try.prog 8 #[.agg #[.int .i64 q, v1], .int .i64 at', v2] w fun e w' => e = .returned (.bool true) ∧ Ext w w' := by
  have HZ0 := fun l (hl : 0 ≤ l ∧ l ≤ 1048576) w' (hx : Ext w w') => Lib.hid (szCircuit_any q l hl w' (h0_0.ext hx))
  have HT0 := fun hm0 w' (hx : Ext w w') => Lib.hid (toCircuit_any q hm0 w' (h0_0.ext hx))
  have HL0_0 := Lib.hid h0_0.1
  have HT2 := fun hm0 w' (hx : Ext w w') => Lib.hid (toIntS_any hm0 w' (h2_0.ext hx))
  have HL2_0 := Lib.hid h2_0.1
  have hle := raL_len q xs n at' ys m
  have HS := fun hn hm x0_0 x2_0 w' (k0_0 : RV w' 3 x0_0 n xs) (k2_0 : RV w' 1 x2_0 m ys) => Lib.hid (s_runAt_any q at' hn hm w' k0_0 k2_0)
  have HI := fun hn hm x0_0 x2_0 w' (k0_0 : RV w' 3 x0_0 n xs) (k2_0 : RV w' 1 x2_0 m ys) => Lib.hid (runAt_any q at' hn hm w' k0_0 k2_0)
  obtain ⟨-, a1, c1, rfl, q1_0_0, q2_0_0, hh⟩ := h0_0
  clear hh
  obtain ⟨-, a2, c2, rfl, q1_2_0, q2_2_0, hh⟩ := h2_0
  clear hh
  generalize hnn : (raL q xs n at' ys m).length = nn at *
  generalize raL q xs n at' ys m = LL at *
  generalize raOk q xs n at' ys m = ok at *
  have HLL : Hid (LL.length = nn * 1) := by unfold Hid; omega
  clear hnn
  by_cases hm2 : (m : Int) ≤ 1048576
  case neg =>
    have hgt2 : (1048576 : Int) < m := by omega
    go_enter Try.func8, Try.ntmps8
    go_wp2
    go_ret
    exact ⟨rfl, (by repeat (first | (with_reducible refine Ext.setCell ?_ (by first | (simp; done) | (simp; omega)) _) | with_reducible refine Ext.alloc ?_ _ | with_reducible refine Ext.drew ?_ | with_reducible refine Ext.drewN ?_ _ | with_reducible assumption | with_reducible exact Ext.refl _ | with_reducible refine Ext.trans ?_ (by with_reducible assumption)))⟩
  have hng2 : ¬ ((1048576 : Int) < m) := by omega
  have HZ0 := HZ0 ((1048576 : Int)) (by omega)
  by_cases hm0 : (n : Int) ≤ (1048576 : Int)
  case neg =>
    simp only [if_neg hm0] at HZ0
    go_enter Try.func8, Try.ntmps8
    go_wp2_with fail
    refine (HZ0 _ (by repeat (first | (with_reducible refine Ext.setCell ?_ (by first | (simp; done) | (simp; omega)) _) | with_reducible refine Ext.alloc ?_ _ | with_reducible refine Ext.drew ?_ | with_reducible refine Ext.drewN ?_ _ | with_reducible assumption | with_reducible exact Ext.refl _ | with_reducible refine Ext.trans ?_ (by with_reducible assumption)))).out.mono ?_
    rintro e w1 ⟨rfl, hx1⟩
    obtain ⟨hc1, hf1⟩ := hx1.cells
    have hz1 := hx1.size
    try simp at hz1
    try have hb1_1 : w.heap.size < w1.heap.size := by omega
    try have hb1_2 : w.heap.size + 1 < w1.heap.size := by omega
    try have hb1_3 : w.heap.size + 2 < w1.heap.size := by omega
    go_wp2
    go_ret
    exact ⟨rfl, (by repeat (first | (with_reducible refine Ext.setCell ?_ (by first | (simp; done) | (simp; omega)) _) | with_reducible refine Ext.alloc ?_ _ | with_reducible refine Ext.drew ?_ | with_reducible refine Ext.drewN ?_ _ | with_reducible assumption | with_reducible exact Ext.refl _ | with_reducible refine Ext.trans ?_ (by with_reducible assumption)))⟩
  simp only [if_pos hm0] at HZ0
  have hr0 : ¬ ((1048576 : Int) - n < 0) := by omega
  have HT0 := HT0 (by omega)
  have HT2 := HT2 (by omega)
  have HS := HS (by omega) (by omega)
  have HI := HI (by omega) (by omega)
  go_enter Try.func8, Try.ntmps8
  go_wp2_with fail
  refine (HZ0 _ ((Ext.refl w).alloc _)).out.mono ?_
  rintro e w1 ⟨rfl, hx_1⟩
  have h_b1_1 : Hid (w1.heap[w.heap.size]? = some (.cells #[.int .i64 q, .slice a1 n c1] 42 (0, 0))) := heap_keep hx_1 (heap_alloc_new _ _)
  have hE_1 := Lib.hid ((((Ext.refl w).alloc _)).trans hx_1)
  have s_1 := hx_1.size
  try simp at s_1
  clear hx_1
  have z_b1 := fun k => cell_of_row _ _ k _ _ _ h_b1_1.out
  have l_b1 := (Array.getElem?_eq_some_iff.1 h_b1_1.out).1
  go_wp2_with fail
  refine (HT0 _ hE_1.out).out.mono ?_
  rintro e w2 ⟨u0, rfl, o0, hx_2⟩
  have h_b1_2 : Hid (w2.heap[w.heap.size]? = some (.cells #[.int .i64 q, .slice a1 n c1] 42 (0, 0))) := heap_keep hx_2 h_b1_1.out
  have hE_2 := Lib.hid ((hE_1.out).trans hx_2)
  have s_2 := hx_2.size
  try simp at s_2
  have o_3_0_2 := Lib.hid o0
  obtain ⟨a_2, c_2, rfl, p1, p2, p3⟩ := own_shape o0
  clear o0 p1 p2 p3
  have lim_3_0 : Hid (∀ k, (Value.slice a_2 n c_2).ownBlock = some k → w1.heap.size ≤ k ∧ k < w2.heap.size) := fun k hk => by have h := o_3_0_2.out.lt k hk; (try simp at h); omega
  clear z_b1 l_b1 h_b1_1 hE_1 hx_2
  go_wp2_with fail
  refine (HT2 _ hE_2.out).out.mono ?_
  rintro e w3 ⟨u0, rfl, o0, hx_3⟩
  have h_b1_3 : Hid (w3.heap[w.heap.size]? = some (.cells #[.int .i64 q, .slice a1 n c1] 42 (0, 0))) := heap_keep hx_3 h_b1_2.out
  have o_3_0_3 := Lib.hid (own_ext o_3_0_2.out hx_3)
  have hE_3 := Lib.hid ((hE_2.out).trans hx_3)
  have s_3 := hx_3.size
  try simp at s_3
  have o_4_0_3 := Lib.hid o0
  obtain ⟨a_3, c_3, rfl, p1, p2, p3⟩ := own_shape o0
  clear o0 p1 p2 p3
  have lim_4_0 : Hid (∀ k, (Value.slice a_3 m c_3).ownBlock = some k → w2.heap.size ≤ k ∧ k < w3.heap.size) := fun k hk => by have h := o_4_0_3.out.lt k hk; (try simp at h); omega
  clear h_b1_2 o_3_0_2 hE_2 hx_3
  go_wp2_with fail
  refine (HS _ _ _ (RV.own o_3_0_3.out HL0_0.out) (RV.own o_4_0_3.out HL2_0.out)).out.mono ?_
  rintro e w4 ⟨u0, rfl, o0, hx_4⟩
  have h_b1_4 : Hid (w4.heap[w.heap.size]? = some (.cells #[.int .i64 q, .slice a1 n c1] 42 (0, 0))) := heap_keep hx_4 h_b1_3.out
  have o_3_0_4 := Lib.hid (own_ext o_3_0_3.out hx_4)
  have o_4_0_4 := Lib.hid (own_ext o_4_0_3.out hx_4)
  have hE_4 := Lib.hid ((hE_3.out).trans hx_4)
  have s_4 := hx_4.size
  try simp at s_4
  have o_5_0_4 := Lib.hid o0
  obtain ⟨a_4_0, c_4_0, rfl, p1, p2, p3⟩ := own_shape o0
  clear o0 p1 p2 p3
  have lim_5_0 : Hid (∀ k, (Value.slice a_4_0 nn c_4_0).ownBlock = some k → w3.heap.size ≤ k ∧ k < w4.heap.size) := fun k hk => by have h := o_5_0_4.out.lt k hk; (try simp at h); omega
  clear h_b1_3 o_3_0_3 o_4_0_3 hE_3 hx_4
  have z_b1 := fun k => cell_of_row _ _ k _ _ _ h_b1_4.out
  have l_b1 := (Array.getElem?_eq_some_iff.1 h_b1_4.out).1
  go_wp2_with fail
  refine (HT0 _ hE_4.out).out.mono ?_
  rintro e w5 ⟨u0, rfl, o0, hx_5⟩
  have h_b1_5 : Hid (w5.heap[w.heap.size]? = some (.cells #[.int .i64 q, .slice a1 n c1] 42 (0, 0))) := heap_keep hx_5 h_b1_4.out
  have o_5_0_5 := Lib.hid (own_ext o_5_0_4.out hx_5)
  have hE_5 := Lib.hid ((hE_4.out).trans hx_5)
  have s_5 := hx_5.size
  try simp at s_5
  have o_6_0_5 := Lib.hid o0
  obtain ⟨a_5, c_5, rfl, p1, p2, p3⟩ := own_shape o0
  clear o0 p1 p2 p3
  have lim_6_0 : Hid (∀ k, (Value.slice a_5 n c_5).ownBlock = some k → w4.heap.size ≤ k ∧ k < w5.heap.size) := fun k hk => by have h := o_6_0_5.out.lt k hk; (try simp at h); omega
  clear z_b1 l_b1 h_b1_4 o_3_0_4 o_4_0_4 o_5_0_4 hE_4 hx_5
  go_wp2_with fail
  refine (HT2 _ (hE_5.out.alloc _)).out.mono ?_
  rintro e w6 ⟨u0, rfl, o0, hx_6⟩
  have h_b1_6 : Hid (w6.heap[w.heap.size]? = some (.cells #[.int .i64 q, .slice a1 n c1] 42 (0, 0))) := heap_keep hx_6 (heap_alloc_lt h_b1_5.out)
  have h_b2_6 : Hid (w6.heap[w5.heap.size]? = some (.cells #[.int .i64 q, .slice a_5 n c_5] 49 (0, 0))) := heap_keep hx_6 (heap_alloc_new _ _)
  have o_5_0_6 := Lib.hid (own_ext (own_ext o_5_0_5.out ((Ext.refl _).alloc _)) hx_6)
  have o_6_0_6 := Lib.hid (own_ext (own_ext o_6_0_5.out ((Ext.refl _).alloc _)) hx_6)
  have hE_6 := Lib.hid (((hE_5.out.alloc _)).trans hx_6)
  have s_6 := hx_6.size
  try simp at s_6
  have o_7_0_6 := Lib.hid o0
  obtain ⟨a_6, c_6, rfl, p1, p2, p3⟩ := own_shape o0
  clear o0 p1 p2 p3
  have lim_7_0 : Hid (∀ k, (Value.slice a_6 m c_6).ownBlock = some k → w5.heap.size + 1 ≤ k ∧ k < w6.heap.size) := fun k hk => by have h := o_7_0_6.out.lt k hk; (try simp at h); omega
  clear h_b1_5 o_5_0_5 o_6_0_5 hE_5 hx_6
  have z_b2 := fun k => cell_of_row _ _ k _ _ _ h_b2_6.out
  have l_b2 := (Array.getElem?_eq_some_iff.1 h_b2_6.out).1
  go_wp2_with fail
  refine (HI _ _ _ (RV.own o_6_0_6.out HL0_0.out) (RV.own o_7_0_6.out HL2_0.out)).out.mono ?_
  rintro e w7 ⟨u0, rfl, o0, hx_7⟩
  have h_b1_7 : Hid (w7.heap[w.heap.size]? = some (.cells #[.int .i64 q, .slice a1 n c1] 42 (0, 0))) := heap_keep hx_7 h_b1_6.out
  have h_b2_7 : Hid (w7.heap[w5.heap.size]? = some (.cells #[.int .i64 q, .slice a_5 n c_5] 49 (0, 0))) := heap_keep hx_7 h_b2_6.out
  have o_5_0_7 := Lib.hid (own_ext o_5_0_6.out hx_7)
  have o_6_0_7 := Lib.hid (own_ext o_6_0_6.out hx_7)
  have o_7_0_7 := Lib.hid (own_ext o_7_0_6.out hx_7)
  have hE_7 := Lib.hid ((hE_6.out).trans hx_7)
  have s_7 := hx_7.size
  try simp at s_7
  have o_8_0_7 := Lib.hid o0
  obtain ⟨a_7_0, c_7_0, rfl, p1, p2, p3⟩ := own_shape o0
  clear o0 p1 p2 p3
  have lim_8_0 : Hid (∀ k, (Value.slice a_7_0 nn c_7_0).ownBlock = some k → w6.heap.size ≤ k ∧ k < w7.heap.size) := fun k hk => by have h := o_8_0_7.out.lt k hk; (try simp at h); omega
  clear z_b2 l_b2 h_b1_6 h_b2_6 o_5_0_6 o_6_0_6 o_7_0_6 hE_6 hx_7
  go_wp2_with fail
  refine (eqIntS_same HLL.out (by omega) _ o_8_0_7.out o_5_0_7.out).mono ?_
  rintro e w8 ⟨rfl, hx_8⟩
  have h_b1_8 : Hid (w8.heap[w.heap.size]? = some (.cells #[.int .i64 q, .slice a1 n c1] 42 (0, 0))) := heap_keep hx_8 h_b1_7.out
  have h_b2_8 : Hid (w8.heap[w5.heap.size]? = some (.cells #[.int .i64 q, .slice a_5 n c_5] 49 (0, 0))) := heap_keep hx_8 h_b2_7.out
  have o_5_0_8 := Lib.hid (own_ext o_5_0_7.out hx_8)
  have o_6_0_8 := Lib.hid (own_ext o_6_0_7.out hx_8)
  have o_7_0_8 := Lib.hid (own_ext o_7_0_7.out hx_8)
  have o_8_0_8 := Lib.hid (own_ext o_8_0_7.out hx_8)
  have hE_8 := Lib.hid ((hE_7.out).trans hx_8)
  have s_8 := hx_8.size
  try simp at s_8
  clear h_b1_7 h_b2_7 o_5_0_7 o_6_0_7 o_7_0_7 o_8_0_7 hE_7 hx_8
  -- arguments as they were
  have z_b2 := fun k => cell_of_row _ _ k _ _ _ h_b2_8.out
  have l_b2 := (Array.getElem?_eq_some_iff.1 h_b2_8.out).1
  have z_b1 := fun k => cell_of_row _ _ k _ _ _ h_b1_8.out
  have l_b1 := (Array.getElem?_eq_some_iff.1 h_b1_8.out).1
  have HK : Hid (∀ w', Ext w8 w' → (w'.cell? ⟨w5.heap.size, 0, none⟩ = some (.int .i64 q) ∧ w'.cell? ⟨w5.heap.size, 1, none⟩ = some (.slice a_5 n c_5) ∧ w'.cell? ⟨w.heap.size, 0, none⟩ = some (.int .i64 q) ∧ w'.cell? ⟨w.heap.size, 1, none⟩ = some (.slice a1 n c1))) := fun w' hx =>
    ⟨(hx.cells.1 _ 0 l_b2).trans (z_b2 0), (hx.cells.1 _ 1 l_b2).trans (z_b2 1), (hx.cells.1 _ 0 l_b1).trans (z_b1 0), (hx.cells.1 _ 1 l_b1).trans (z_b1 1)⟩
  have hE_ := hE_8.out
  go_wp2_with fail
  go_region_held3 (fun w' => w'.cell? ⟨w5.heap.size, 0, none⟩ = some (.int .i64 q) ∧ w'.cell? ⟨w5.heap.size, 1, none⟩ = some (.slice a_5 n c_5) ∧ w'.cell? ⟨w.heap.size, 0, none⟩ = some (.int .i64 q) ∧ w'.cell? ⟨w.heap.size, 1, none⟩ = some (.slice a1 n c1)) (exact HK.out _ (by repeat (first | (with_reducible refine Ext.setCell ?_ (by first | (simp; done) | (simp; omega)) _) | with_reducible refine Ext.alloc ?_ _ | with_reducible refine Ext.drew ?_ | with_reducible refine Ext.drewN ?_ _ | with_reducible assumption | with_reducible exact Ext.refl _ | with_reducible refine Ext.trans ?_ (by with_reducible assumption))))
    (first
    | (go_at_call 29; (with_reducible refine (HT0 _ (by repeat (first | (with_reducible refine Ext.setCell ?_ (by first | (simp; done) | (simp; omega)) _) | with_reducible refine Ext.alloc ?_ _ | with_reducible refine Ext.drew ?_ | with_reducible refine Ext.drewN ?_ _ | with_reducible assumption | with_reducible exact Ext.refl _ | with_reducible refine Ext.trans ?_ (by with_reducible assumption)))).out.mono ?_); rintro e w9 ⟨u0, rfl, oo0, hx_9⟩; have OO0 := Lib.hid oo0; obtain ⟨aE0, cE0, rfl, q1E, q2E, q3E⟩ := own_shape oo0; clear q1E q2E q3E oo0)
    | (go_at_call 32; (with_reducible refine (eqCircuit_same q HL0_0.out (by omega) _ (own_ext o_6_0_8.out (by repeat (first | (with_reducible refine Ext.setCell ?_ (by first | (simp; done) | (simp; omega)) _) | with_reducible refine Ext.alloc ?_ _ | with_reducible refine Ext.drew ?_ | with_reducible refine Ext.drewN ?_ _ | with_reducible assumption | with_reducible exact Ext.refl _ | with_reducible refine Ext.trans ?_ (by with_reducible assumption)))) OO0.out).mono ?_); rintro e w10 ⟨rfl, hx_10⟩))
  have hxx_10 : Ext w8 w10 := (by repeat (first | (with_reducible refine Ext.setCell ?_ (by first | (simp; done) | (simp; omega)) _) | with_reducible refine Ext.alloc ?_ _ | with_reducible refine Ext.drew ?_ | with_reducible refine Ext.drewN ?_ _ | with_reducible assumption | with_reducible exact Ext.refl _ | with_reducible refine Ext.trans ?_ (by with_reducible assumption)))
  have h_b1_10 : Hid (w10.heap[w.heap.size]? = some (.cells #[.int .i64 q, .slice a1 n c1] 42 (0, 0))) := heap_keep hxx_10 h_b1_8.out
  have h_b2_10 : Hid (w10.heap[w5.heap.size]? = some (.cells #[.int .i64 q, .slice a_5 n c_5] 49 (0, 0))) := heap_keep hxx_10 h_b2_8.out
  have o_5_0_10 := Lib.hid (own_ext o_5_0_8.out hxx_10)
  have o_6_0_10 := Lib.hid (own_ext o_6_0_8.out hxx_10)
  have o_7_0_10 := Lib.hid (own_ext o_7_0_8.out hxx_10)
  have o_8_0_10 := Lib.hid (own_ext o_8_0_8.out hxx_10)
  have hE_10 := Lib.hid ((hE_8.out).trans hxx_10)
  have s_10 := hxx_10.size
  try simp at s_10
  clear z_b2 l_b2 z_b1 l_b1 h_b1_8 h_b2_8 o_5_0_8 o_6_0_8 o_7_0_8 o_8_0_8 hE_8 hx_9 hx_10 hxx_10 HK hE_ OO0
  go_wp2_with fail
  refine (HT2 _ hE_10.out).out.mono ?_
  rintro e w11 ⟨u0, rfl, o0, hx_11⟩
  have h_b1_11 : Hid (w11.heap[w.heap.size]? = some (.cells #[.int .i64 q, .slice a1 n c1] 42 (0, 0))) := heap_keep hx_11 h_b1_10.out
  have h_b2_11 : Hid (w11.heap[w5.heap.size]? = some (.cells #[.int .i64 q, .slice a_5 n c_5] 49 (0, 0))) := heap_keep hx_11 h_b2_10.out
  have o_5_0_11 := Lib.hid (own_ext o_5_0_10.out hx_11)
  have o_6_0_11 := Lib.hid (own_ext o_6_0_10.out hx_11)
  have o_7_0_11 := Lib.hid (own_ext o_7_0_10.out hx_11)
  have o_8_0_11 := Lib.hid (own_ext o_8_0_10.out hx_11)
  have hE_11 := Lib.hid ((hE_10.out).trans hx_11)
  have s_11 := hx_11.size
  try simp at s_11
  have o_9_0_11 := Lib.hid o0
  obtain ⟨a_11, c_11, rfl, p1, p2, p3⟩ := own_shape o0
  clear o0 p1 p2 p3
  have lim_9_0 : Hid (∀ k, (Value.slice a_11 m c_11).ownBlock = some k → w10.heap.size ≤ k ∧ k < w11.heap.size) := fun k hk => by have h := o_9_0_11.out.lt k hk; (try simp at h); omega
  clear h_b1_10 h_b2_10 o_5_0_10 o_6_0_10 o_7_0_10 o_8_0_10 hE_10 hx_11
  go_wp2_with fail
  refine (eqIntS_same HL2_0.out (by omega) _ o_7_0_11.out o_9_0_11.out).mono ?_
  rintro e w12 ⟨rfl, hx_12⟩
  have h_b1_12 : Hid (w12.heap[w.heap.size]? = some (.cells #[.int .i64 q, .slice a1 n c1] 42 (0, 0))) := heap_keep hx_12 h_b1_11.out
  have h_b2_12 : Hid (w12.heap[w5.heap.size]? = some (.cells #[.int .i64 q, .slice a_5 n c_5] 49 (0, 0))) := heap_keep hx_12 h_b2_11.out
  have o_5_0_12 := Lib.hid (own_ext o_5_0_11.out hx_12)
  have o_6_0_12 := Lib.hid (own_ext o_6_0_11.out hx_12)
  have o_7_0_12 := Lib.hid (own_ext o_7_0_11.out hx_12)
  have o_8_0_12 := Lib.hid (own_ext o_8_0_11.out hx_12)
  have o_9_0_12 := Lib.hid (own_ext o_9_0_11.out hx_12)
  have hE_12 := Lib.hid ((hE_11.out).trans hx_12)
  have s_12 := hx_12.size
  try simp at s_12
  clear h_b1_11 h_b2_11 o_5_0_11 o_6_0_11 o_7_0_11 o_8_0_11 o_9_0_11 hE_11 hx_12
  have z_b2 := fun k => cell_of_row _ _ k _ _ _ h_b2_12.out
  have l_b2 := (Array.getElem?_eq_some_iff.1 h_b2_12.out).1
  go_wp2_with fail
  refine (markCircuit_any q (by rw [il_length]; exact HL0_0.out) (by omega) (1) (by omega) _ o_6_0_12.out).mono ?_
  rintro e w13 ⟨rfl, om_13, hg_13⟩
  have h_b1_13 : Hid (w13.heap[w.heap.size]? = some (.cells #[.int .i64 q, .slice a1 n c1] 42 (0, 0))) := heap_far hg_13 (heap_alloc_lt h_b1_12.out) (fun j hj => by have := lim_6_0.out j hj; omega)
  have h_b2_13 : Hid (w13.heap[w5.heap.size]? = some (.cells #[.int .i64 q, .slice a_5 n c_5] 49 (0, 0))) := heap_far hg_13 (heap_alloc_lt h_b2_12.out) (fun j hj => by have := lim_6_0.out j hj; omega)
  have o_5_0_13 := Lib.hid (own_far (own_ext o_5_0_12.out ((Ext.refl _).alloc _)) hg_13 (fun j hj k hk => by have := lim_6_0.out j hj; have := lim_5_0.out k hk; omega))
  have o_7_0_13 := Lib.hid (own_far (own_ext o_7_0_12.out ((Ext.refl _).alloc _)) hg_13 (fun j hj k hk => by have := lim_6_0.out j hj; have := lim_7_0.out k hk; omega))
  have o_8_0_13 := Lib.hid (own_far (own_ext o_8_0_12.out ((Ext.refl _).alloc _)) hg_13 (fun j hj k hk => by have := lim_6_0.out j hj; have := lim_8_0.out k hk; omega))
  have hE_13 := Lib.hid (Ext.grown ((hE_12.out.alloc _)) hg_13 (fun k hk => by have := lim_6_0.out k hk; omega))
  have s_13 := hg_13.size
  try simp at s_13
  have o_6_0_13 := Lib.hid om_13
  clear z_b2 l_b2 h_b1_12 h_b2_12 o_5_0_12 o_7_0_12 o_8_0_12 o_9_0_12 hE_12 o_6_0_12 om_13 hg_13
  go_wp2_with fail
  refine (markIntS_any (by rw [il_length]; exact HL2_0.out) (by omega) (1 + (n : Int) * 3) (by omega) _ o_7_0_13.out).mono ?_
  rintro e w14 ⟨rfl, om_14, hg_14⟩
  have h_b1_14 : Hid (w14.heap[w.heap.size]? = some (.cells #[.int .i64 q, .slice a1 n c1] 42 (0, 0))) := heap_far hg_14 h_b1_13.out (fun j hj => by have := lim_7_0.out j hj; omega)
  have o_5_0_14 := Lib.hid (own_far o_5_0_13.out hg_14 (fun j hj k hk => by have := lim_7_0.out j hj; have := lim_5_0.out k hk; omega))
  have o_8_0_14 := Lib.hid (own_far o_8_0_13.out hg_14 (fun j hj k hk => by have := lim_7_0.out j hj; have := lim_8_0.out k hk; omega))
  have hE_14 := Lib.hid (Ext.grown (hE_13.out) hg_14 (fun k hk => by have := lim_7_0.out k hk; omega))
  have s_14 := hg_14.size
  try simp at s_14
  have o_7_0_14 := Lib.hid om_14
  clear h_b1_13 h_b2_13 o_5_0_13 o_6_0_13 o_8_0_13 hE_13 o_7_0_13 om_14 hg_14
  go_wp2_with fail
  refine (eqIntS_same HLL.out (by omega) _ o_8_0_14.out o_5_0_14.out).mono ?_
  rintro e w15 ⟨rfl, hx_15⟩
  have h_b1_15 : Hid (w15.heap[w.heap.size]? = some (.cells #[.int .i64 q, .slice a1 n c1] 42 (0, 0))) := heap_keep hx_15 h_b1_14.out
  have o_5_0_15 := Lib.hid (own_ext o_5_0_14.out hx_15)
  have o_8_0_15 := Lib.hid (own_ext o_8_0_14.out hx_15)
  have hE_15 := Lib.hid ((hE_14.out).trans hx_15)
  have s_15 := hx_15.size
  try simp at s_15
  clear h_b1_14 o_5_0_14 o_7_0_14 o_8_0_14 hE_14 hx_15
  go_wp2_with fail
  refine (markIntS_any (by rw [il_length]; exact HLL.out) (by omega) (1) (by omega) _ o_8_0_15.out).mono ?_
  rintro e w16 ⟨rfl, om_16, hg_16⟩
  have h_b1_16 : Hid (w16.heap[w.heap.size]? = some (.cells #[.int .i64 q, .slice a1 n c1] 42 (0, 0))) := heap_far hg_16 h_b1_15.out (fun j hj => by have := lim_8_0.out j hj; omega)
  have o_5_0_16 := Lib.hid (own_far o_5_0_15.out hg_16 (fun j hj k hk => by have := lim_8_0.out j hj; have := lim_5_0.out k hk; omega))
  have hE_16 := Lib.hid (Ext.grown (hE_15.out) hg_16 (fun k hk => by have := lim_8_0.out k hk; omega))
  have s_16 := hg_16.size
  try simp at s_16
  have o_8_0_16 := Lib.hid om_16
  clear h_b1_15 o_5_0_15 hE_15 o_8_0_15 om_16 hg_16
  go_wp2_with fail
  refine (heldIntS_any (by omega) (1) (by omega) _ o_8_0_16.out).mono ?_
  rintro e w17 ⟨rfl, hw_17⟩
  have hx_17 := law_RunAt_ee hw_17
  clear hw_17
  have h_b1_17 : Hid (w17.heap[w.heap.size]? = some (.cells #[.int .i64 q, .slice a1 n c1] 42 (0, 0))) := heap_keep hx_17 h_b1_16.out
  have o_5_0_17 := Lib.hid (own_ext o_5_0_16.out hx_17)
  have o_8_0_17 := Lib.hid (own_ext o_8_0_16.out hx_17)
  have hE_17 := Lib.hid ((hE_16.out).trans hx_17)
  have s_17 := hx_17.size
  try simp at s_17
  clear h_b1_16 o_5_0_16 o_8_0_16 hE_16 hx_17
  have z_b1 := fun k => cell_of_row _ _ k _ _ _ h_b1_17.out
  have l_b1 := (Array.getElem?_eq_some_iff.1 h_b1_17.out).1
  go_wp2_with fail
  refine (HT0 _ hE_17.out).out.mono ?_
  rintro e w18 ⟨u0, rfl, o0, hx_18⟩
  have h_b1_18 : Hid (w18.heap[w.heap.size]? = some (.cells #[.int .i64 q, .slice a1 n c1] 42 (0, 0))) := heap_keep hx_18 h_b1_17.out
  have o_5_0_18 := Lib.hid (own_ext o_5_0_17.out hx_18)
  have o_8_0_18 := Lib.hid (own_ext o_8_0_17.out hx_18)
  have hE_18 := Lib.hid ((hE_17.out).trans hx_18)
  have s_18 := hx_18.size
  try simp at s_18
  have o_10_0_18 := Lib.hid o0
  obtain ⟨a_18, c_18, rfl, p1, p2, p3⟩ := own_shape o0
  clear o0 p1 p2 p3
  have lim_10_0 : Hid (∀ k, (Value.slice a_18 n c_18).ownBlock = some k → w17.heap.size ≤ k ∧ k < w18.heap.size) := fun k hk => by have h := o_10_0_18.out.lt k hk; (try simp at h); omega
  clear z_b1 l_b1 h_b1_17 o_5_0_17 o_8_0_17 hE_17 hx_18
  go_wp2_with fail
  refine (HT2 _ hE_18.out).out.mono ?_
  rintro e w19 ⟨u0, rfl, o0, hx_19⟩
  have o_5_0_19 := Lib.hid (own_ext o_5_0_18.out hx_19)
  have o_8_0_19 := Lib.hid (own_ext o_8_0_18.out hx_19)
  have o_10_0_19 := Lib.hid (own_ext o_10_0_18.out hx_19)
  have hE_19 := Lib.hid ((hE_18.out).trans hx_19)
  have s_19 := hx_19.size
  try simp at s_19
  have o_11_0_19 := Lib.hid o0
  obtain ⟨a_19, c_19, rfl, p1, p2, p3⟩ := own_shape o0
  clear o0 p1 p2 p3
  have lim_11_0 : Hid (∀ k, (Value.slice a_19 m c_19).ownBlock = some k → w18.heap.size ≤ k ∧ k < w19.heap.size) := fun k hk => by have h := o_11_0_19.out.lt k hk; (try simp at h); omega
  clear h_b1_18 o_5_0_18 o_8_0_18 o_10_0_18 hE_18 hx_19
  go_wp2_with fail
  refine (HI _ _ _ (RV.own o_10_0_19.out HL0_0.out) (RV.own o_11_0_19.out HL2_0.out)).out.mono ?_
  rintro e w20 ⟨u0, rfl, o0, hx_20⟩
  have o_5_0_20 := Lib.hid (own_ext o_5_0_19.out hx_20)
  have o_8_0_20 := Lib.hid (own_ext o_8_0_19.out hx_20)
  have o_10_0_20 := Lib.hid (own_ext o_10_0_19.out hx_20)
  have o_11_0_20 := Lib.hid (own_ext o_11_0_19.out hx_20)
  have hE_20 := Lib.hid ((hE_19.out).trans hx_20)
  have s_20 := hx_20.size
  try simp at s_20
  have o_12_0_20 := Lib.hid o0
  obtain ⟨a_20_0, c_20_0, rfl, p1, p2, p3⟩ := own_shape o0
  clear o0 p1 p2 p3
  have lim_12_0 : Hid (∀ k, (Value.slice a_20_0 nn c_20_0).ownBlock = some k → w19.heap.size ≤ k ∧ k < w20.heap.size) := fun k hk => by have h := o_12_0_20.out.lt k hk; (try simp at h); omega
  clear o_5_0_19 o_8_0_19 o_10_0_19 o_11_0_19 hE_19 hx_20
  go_wp2_with fail
  refine (eqIntS_same HLL.out (by omega) _ o_12_0_20.out o_5_0_20.out).mono ?_
  rintro e w21 ⟨rfl, hx_21⟩
  have o_5_0_21 := Lib.hid (own_ext o_5_0_20.out hx_21)
  have o_8_0_21 := Lib.hid (own_ext o_8_0_20.out hx_21)
  have o_12_0_21 := Lib.hid (own_ext o_12_0_20.out hx_21)
  have hE_21 := Lib.hid ((hE_20.out).trans hx_21)
  have s_21 := hx_21.size
  try simp at s_21
  clear o_5_0_20 o_8_0_20 o_10_0_20 o_11_0_20 o_12_0_20 hE_20 hx_21
  go_wp2_with fail
  refine (heldIntS_any (by omega) (1) (by omega) _ o_8_0_21.out).mono ?_
  rintro e w22 ⟨rfl, hw_22⟩
  have hx_22 := law_RunAt_ee hw_22
  clear hw_22
  have o_8_0_22 := Lib.hid (own_ext o_8_0_21.out hx_22)
  have hE_22 := Lib.hid ((hE_21.out).trans hx_22)
  have s_22 := hx_22.size
  try simp at s_22
  clear o_5_0_21 o_8_0_21 o_12_0_21 hE_21 hx_22
  go_wp2
  go_ret
  exact ⟨rfl, hE_22.out⟩

theorem law_RunAt_c (cs : Array Value) (x : Int) (v : Value) {n m : Nat} {w0 : World} (hs : Shape Try.prog w0 n 42 (Value.agg cs).cells.toList) (hi : I64 [x]) (ht : Shape Try.prog w0 m 33 v.cells.toList) (w : World) (hw : w0 = w := by rfl) (hv : v.cells = #[v] := by rfl) :
    Calls Try.prog 8 #[.agg cs, .int .i64 x, v] w fun e w' => e = .returned (.bool true) ∧ Ext w w' := by
  subst hw
  obtain ⟨q, v1, n1, xs, rfl, h1, -⟩ := circ_arg hs
  obtain ⟨m1, ys, h2⟩ := ints_slice_arg hv ht
  exact law_RunAt q x w0 h1 h2

end Go.Proofs.Ytjeahopiejcopaa
