/- The law on RunReplacement. -/
import Derived.Test.YtlbcjbeafampcaaRrP
import Derived.Test.YtlbcjbeafampcaaRrS
import Derived.Test.YtlbcjbeafampcaaCirM
import Derived.Test.YtlbcjbeafampcaaZm
import Derived.Deep.RegionHeld3
import Derived.Deep.Cut
namespace Go.Proofs.Ytlbcjbeafampcaa
open Go.RowKit Go.Lib
set_option linter.unusedVariables false
set_option linter.unusedSimpArgs false

theorem law_RunReplacement_ee {a b : World} (h : a = b) : Ext a b := by subst h; exact Ext.refl _

set_option maxRecDepth 20000 in
set_option maxHeartbeats 20000000 in
theorem law_RunReplacement (q : Int) {v1 : Value} {n : Nat} {xs : List Int} (at' : Int) {v2 : Value} {m : Nat} {ys : List Int} {v3 : Value} {l : Nat} {zs : List Int} (w : World) (h0_0 : RV w 3 v1 n xs) (h2_0 : RV w 1 v2 m ys) (h3_0 : RV w 3 v3 l zs) :
    Calls Try.prog 4 #[.agg #[.int .i64 q, v1], .int .i64 at', v2, v3] w fun e w' => e = .returned (.bool true) ∧ Ext w w' := by
  have HZ0 := fun l (hl : 0 ≤ l ∧ l ≤ 1048576) w' (hx : Ext w w') => Lib.hid (szCircuit_any q l hl w' (h0_0.ext hx))
  have HT0 := fun hm0 w' (hx : Ext w w') => Lib.hid (toCircuit_any q hm0 w' (h0_0.ext hx))
  have HL0_0 := Lib.hid h0_0.1
  have HT2 := fun hm0 w' (hx : Ext w w') => Lib.hid (toIntS_any hm0 w' (h2_0.ext hx))
  have HL2_0 := Lib.hid h2_0.1
  have HZ3 := fun l (hl : 0 ≤ l ∧ l ≤ 1048576) w' (hx : Ext w w') => Lib.hid (szGateS_any l hl w' (h3_0.ext hx))
  have HT3 := fun hm0 w' (hx : Ext w w') => Lib.hid (toGateS_any hm0 w' (h3_0.ext hx))
  have HL3_0 := Lib.hid h3_0.1
  obtain ⟨hlenO, hleO⟩ := rr_lenO (q := q) (at' := at') (ys := ys) (m := m) (zs := zs) (l := l) h0_0.1
  obtain ⟨hlenW, hleW⟩ := rr_lenW (q := q) (xs := xs) (n := n) (at' := at') (ys := ys) (m := m) h3_0.1
  have HS := fun hn hm hl x0_0 x2_0 x3_0 w' (k0_0 : RV w' 3 x0_0 n xs) (k2_0 : RV w' 1 x2_0 m ys) (k3_0 : RV w' 3 x3_0 l zs) => Lib.hid (s_runReplacement_any q at' hn hm hl w' k0_0 k2_0 k3_0)
  have HI := fun hn hm hl x0_0 x2_0 x3_0 w' (k0_0 : RV w' 3 x0_0 n xs) (k2_0 : RV w' 1 x2_0 m ys) (k3_0 : RV w' 3 x3_0 l zs) => Lib.hid (runReplacement_any q at' hn hm hl w' k0_0 k2_0 k3_0)
  obtain ⟨-, a1, c1, rfl, q1_0_0, q2_0_0, hh⟩ := h0_0
  clear hh
  obtain ⟨-, a2, c2, rfl, q1_2_0, q2_2_0, hh⟩ := h2_0
  clear hh
  obtain ⟨-, a3, c3, rfl, q1_3_0, q2_3_0, hh⟩ := h3_0
  clear hh
  generalize rrT q xs n at' ys m zs l = rT at *
  generalize rrO q xs n at' ys m zs l = LO at *
  generalize rrOn q xs n at' ys m zs l = nO at *
  generalize rrW q xs n at' ys m zs l = LW at *
  generalize rrWn q xs n at' ys m zs l = nW at *
  generalize rrOk q xs n at' ys m zs l = ok at *
  have HLO := Lib.hid hlenO
  have HLW := Lib.hid hlenW
  clear hlenO hlenW
  by_cases hm2 : (m : Int) ≤ 1048576
  case neg =>
    have hgt2 : (1048576 : Int) < m := by omega
    go_enter Try.func4, Try.ntmps4
    go_wp2
    go_ret
    exact ⟨rfl, (by repeat (first | (with_reducible refine Ext.setCell ?_ (by first | (simp; done) | (simp; omega)) _) | with_reducible refine Ext.alloc ?_ _ | with_reducible refine Ext.drew ?_ | with_reducible refine Ext.drewN ?_ _ | with_reducible assumption | with_reducible exact Ext.refl _ | with_reducible refine Ext.trans ?_ (by with_reducible assumption)))⟩
  have hng2 : ¬ ((1048576 : Int) < m) := by omega
  have HZ0 := HZ0 ((1048576 : Int)) (by omega)
  by_cases hm0 : (n : Int) ≤ (1048576 : Int)
  case neg =>
    simp only [if_neg hm0] at HZ0
    go_enter Try.func4, Try.ntmps4
    go_wp2_with fail
    refine (HZ0 _ (by repeat (first | (with_reducible refine Ext.setCell ?_ (by first | (simp; done) | (simp; omega)) _) | with_reducible refine Ext.alloc ?_ _ | with_reducible refine Ext.drew ?_ | with_reducible refine Ext.drewN ?_ _ | with_reducible assumption | with_reducible exact Ext.refl _ | with_reducible refine Ext.trans ?_ (by with_reducible assumption)))).out.mono ?_
    rintro e w1 ⟨rfl, hx1⟩
    obtain ⟨hc1, hf1⟩ := hx1.cells
    have hz1 := hx1.size
    try simp at hz1
    try have hb1_1 : w.heap.size < w1.heap.size := by omega
    try have hb1_2 : w.heap.size + 1 < w1.heap.size := by omega
    try have hb1_3 : w.heap.size + 2 < w1.heap.size := by omega
    go_wp2
    go_ret
    exact ⟨rfl, (by repeat (first | (with_reducible refine Ext.setCell ?_ (by first | (simp; done) | (simp; omega)) _) | with_reducible refine Ext.alloc ?_ _ | with_reducible refine Ext.drew ?_ | with_reducible refine Ext.drewN ?_ _ | with_reducible assumption | with_reducible exact Ext.refl _ | with_reducible refine Ext.trans ?_ (by with_reducible assumption)))⟩
  simp only [if_pos hm0] at HZ0
  have hr0 : ¬ ((1048576 : Int) - n < 0) := by omega
  have HZ3 := HZ3 ((1048576 : Int) - n) (by omega)
  by_cases hm3 : (l : Int) ≤ (1048576 : Int) - n
  case neg =>
    simp only [if_neg hm3] at HZ3
    go_enter Try.func4, Try.ntmps4
    go_wp2_with fail
    refine (HZ0 _ (by repeat (first | (with_reducible refine Ext.setCell ?_ (by first | (simp; done) | (simp; omega)) _) | with_reducible refine Ext.alloc ?_ _ | with_reducible refine Ext.drew ?_ | with_reducible refine Ext.drewN ?_ _ | with_reducible assumption | with_reducible exact Ext.refl _ | with_reducible refine Ext.trans ?_ (by with_reducible assumption)))).out.mono ?_
    rintro e w1 ⟨rfl, hx1⟩
    obtain ⟨hc1, hf1⟩ := hx1.cells
    have hz1 := hx1.size
    try simp at hz1
    try have hb1_1 : w.heap.size < w1.heap.size := by omega
    try have hb1_2 : w.heap.size + 1 < w1.heap.size := by omega
    try have hb1_3 : w.heap.size + 2 < w1.heap.size := by omega
    go_wp2_with fail
    refine (HZ3 _ (by repeat (first | (with_reducible refine Ext.setCell ?_ (by first | (simp; done) | (simp; omega)) _) | with_reducible refine Ext.alloc ?_ _ | with_reducible refine Ext.drew ?_ | with_reducible refine Ext.drewN ?_ _ | with_reducible assumption | with_reducible exact Ext.refl _ | with_reducible refine Ext.trans ?_ (by with_reducible assumption)))).out.mono ?_
    rintro e w2 ⟨rfl, hw2⟩
    have hx2 := law_RunReplacement_ee hw2
    clear hw2
    obtain ⟨hc2, hf2⟩ := hx2.cells
    have hz2 := hx2.size
    try simp at hz2
    try have hb2_1 : w.heap.size < w2.heap.size := by omega
    try have hb2_2 : w.heap.size + 1 < w2.heap.size := by omega
    try have hb2_3 : w.heap.size + 2 < w2.heap.size := by omega
    go_wp2
    go_ret
    exact ⟨rfl, (by repeat (first | (with_reducible refine Ext.setCell ?_ (by first | (simp; done) | (simp; omega)) _) | with_reducible refine Ext.alloc ?_ _ | with_reducible refine Ext.drew ?_ | with_reducible refine Ext.drewN ?_ _ | with_reducible assumption | with_reducible exact Ext.refl _ | with_reducible refine Ext.trans ?_ (by with_reducible assumption)))⟩
  simp only [if_pos hm3] at HZ3
  have hr3 : ¬ ((1048576 : Int) - n - l < 0) := by omega
  have HT0 := HT0 (by omega)
  have HT2 := HT2 (by omega)
  have HT3 := HT3 (by omega)
  have HS := HS (by omega) (by omega) (by omega)
  have HI := HI (by omega) (by omega) (by omega)
  go_enter Try.func4, Try.ntmps4
  go_wp2_with fail
  refine (HZ0 _ ((Ext.refl w).alloc _)).out.mono ?_
  rintro e w1 ⟨rfl, hx_1⟩
  have h_b1_1 : Hid (w1.heap[w.heap.size]? = some (.cells #[.int .i64 q, .slice a1 n c1] 24 (0, 0))) := heap_keep hx_1 (heap_alloc_new _ _)
  have hE_1 := Lib.hid ((((Ext.refl w).alloc _)).trans hx_1)
  have s_1 := hx_1.size
  try simp at s_1
  clear hx_1
  go_wp2_with fail
  refine (HZ3 _ hE_1.out).out.mono ?_
  rintro e w2 ⟨rfl, hw_2⟩
  have hx_2 := law_RunReplacement_ee hw_2
  clear hw_2
  have h_b1_2 : Hid (w2.heap[w.heap.size]? = some (.cells #[.int .i64 q, .slice a1 n c1] 24 (0, 0))) := heap_keep hx_2 h_b1_1.out
  have hE_2 := Lib.hid ((hE_1.out).trans hx_2)
  have s_2 := hx_2.size
  try simp at s_2
  clear h_b1_1 hE_1 hx_2
  have z_b1 := fun k => cell_of_row _ _ k _ _ _ h_b1_2.out
  have l_b1 := (Array.getElem?_eq_some_iff.1 h_b1_2.out).1
  go_wp2_with fail
  refine (HT0 _ hE_2.out).out.mono ?_
  rintro e w3 ⟨u0, rfl, o0, hx_3⟩
  have h_b1_3 : Hid (w3.heap[w.heap.size]? = some (.cells #[.int .i64 q, .slice a1 n c1] 24 (0, 0))) := heap_keep hx_3 h_b1_2.out
  have hE_3 := Lib.hid ((hE_2.out).trans hx_3)
  have s_3 := hx_3.size
  try simp at s_3
  have o_4_0_3 := Lib.hid o0
  obtain ⟨a_3, c_3, rfl, p1, p2, p3⟩ := own_shape o0
  clear o0 p1 p2 p3
  have lim_4_0 : Hid (∀ k, (Value.slice a_3 n c_3).ownBlock = some k → w2.heap.size ≤ k ∧ k < w3.heap.size) := fun k hk => by have h := o_4_0_3.out.lt k hk; (try simp at h); omega
  clear z_b1 l_b1 h_b1_2 hE_2 hx_3
  go_wp2_with fail
  refine (HT2 _ hE_3.out).out.mono ?_
  rintro e w4 ⟨u0, rfl, o0, hx_4⟩
  have h_b1_4 : Hid (w4.heap[w.heap.size]? = some (.cells #[.int .i64 q, .slice a1 n c1] 24 (0, 0))) := heap_keep hx_4 h_b1_3.out
  have o_4_0_4 := Lib.hid (own_ext o_4_0_3.out hx_4)
  have hE_4 := Lib.hid ((hE_3.out).trans hx_4)
  have s_4 := hx_4.size
  try simp at s_4
  have o_5_0_4 := Lib.hid o0
  obtain ⟨a_4, c_4, rfl, p1, p2, p3⟩ := own_shape o0
  clear o0 p1 p2 p3
  have lim_5_0 : Hid (∀ k, (Value.slice a_4 m c_4).ownBlock = some k → w3.heap.size ≤ k ∧ k < w4.heap.size) := fun k hk => by have h := o_5_0_4.out.lt k hk; (try simp at h); omega
  clear h_b1_3 o_4_0_3 hE_3 hx_4
  go_wp2_with fail
  refine (HT3 _ hE_4.out).out.mono ?_
  rintro e w5 ⟨u0, rfl, o0, hx_5⟩
  have h_b1_5 : Hid (w5.heap[w.heap.size]? = some (.cells #[.int .i64 q, .slice a1 n c1] 24 (0, 0))) := heap_keep hx_5 h_b1_4.out
  have o_4_0_5 := Lib.hid (own_ext o_4_0_4.out hx_5)
  have o_5_0_5 := Lib.hid (own_ext o_5_0_4.out hx_5)
  have hE_5 := Lib.hid ((hE_4.out).trans hx_5)
  have s_5 := hx_5.size
  try simp at s_5
  have o_6_0_5 := Lib.hid o0
  obtain ⟨a_5, c_5, rfl, p1, p2, p3⟩ := own_shape o0
  clear o0 p1 p2 p3
  have lim_6_0 : Hid (∀ k, (Value.slice a_5 l c_5).ownBlock = some k → w4.heap.size ≤ k ∧ k < w5.heap.size) := fun k hk => by have h := o_6_0_5.out.lt k hk; (try simp at h); omega
  clear h_b1_4 o_4_0_4 o_5_0_4 hE_4 hx_5
  go_wp2_with fail
  refine (HS _ _ _ _ (RV.own o_4_0_5.out HL0_0.out) (RV.own o_5_0_5.out HL2_0.out) (RV.own o_6_0_5.out HL3_0.out)).out.mono ?_
  rintro e w6 ⟨u0, u1, rfl, o0, o1, djx, hx_6⟩
  have dj_6 := Lib.hid djx
  clear djx
  have h_b1_6 : Hid (w6.heap[w.heap.size]? = some (.cells #[.int .i64 q, .slice a1 n c1] 24 (0, 0))) := heap_keep hx_6 h_b1_5.out
  have o_4_0_6 := Lib.hid (own_ext o_4_0_5.out hx_6)
  have o_5_0_6 := Lib.hid (own_ext o_5_0_5.out hx_6)
  have o_6_0_6 := Lib.hid (own_ext o_6_0_5.out hx_6)
  have hE_6 := Lib.hid ((hE_5.out).trans hx_6)
  have s_6 := hx_6.size
  try simp at s_6
  have o_7_0_6 := Lib.hid o0
  obtain ⟨a_6_0, c_6_0, rfl, p1, p2, p3⟩ := own_shape o0
  clear o0 p1 p2 p3
  have lim_7_0 : Hid (∀ k, (Value.slice a_6_0 nO c_6_0).ownBlock = some k → w5.heap.size ≤ k ∧ k < w6.heap.size) := fun k hk => by have h := o_7_0_6.out.lt k hk; (try simp at h); omega
  have o_7_1_6 := Lib.hid o1
  obtain ⟨a_6_1, c_6_1, rfl, p1, p2, p3⟩ := own_shape o1
  clear o1 p1 p2 p3
  have lim_7_1 : Hid (∀ k, (Value.slice a_6_1 nW c_6_1).ownBlock = some k → w5.heap.size ≤ k ∧ k < w6.heap.size) := fun k hk => by have h := o_7_1_6.out.lt k hk; (try simp at h); omega
  clear h_b1_5 o_4_0_5 o_5_0_5 o_6_0_5 hE_5 hx_6
  have z_b1 := fun k => cell_of_row _ _ k _ _ _ h_b1_6.out
  have l_b1 := (Array.getElem?_eq_some_iff.1 h_b1_6.out).1
  go_wp2_with fail
  refine (HT0 _ (hE_6.out.alloc _)).out.mono ?_
  rintro e w7 ⟨u0, rfl, o0, hx_7⟩
  have h_b1_7 : Hid (w7.heap[w.heap.size]? = some (.cells #[.int .i64 q, .slice a1 n c1] 24 (0, 0))) := heap_keep hx_7 (heap_alloc_lt h_b1_6.out)
  have h_b2_7 : Hid (w7.heap[w6.heap.size]? = some (.cells #[.int .i64 rT, .slice a_6_0 nO c_6_0, .slice a_6_1 nW c_6_1] 45 (0, 0))) := heap_keep hx_7 (heap_alloc_new _ _)
  have o_7_0_7 := Lib.hid (own_ext (own_ext o_7_0_6.out ((Ext.refl _).alloc _)) hx_7)
  have o_7_1_7 := Lib.hid (own_ext (own_ext o_7_1_6.out ((Ext.refl _).alloc _)) hx_7)
  have hE_7 := Lib.hid (((hE_6.out.alloc _)).trans hx_7)
  have s_7 := hx_7.size
  try simp at s_7
  have o_8_0_7 := Lib.hid o0
  obtain ⟨a_7, c_7, rfl, p1, p2, p3⟩ := own_shape o0
  clear o0 p1 p2 p3
  have lim_8_0 : Hid (∀ k, (Value.slice a_7 n c_7).ownBlock = some k → w6.heap.size + 1 ≤ k ∧ k < w7.heap.size) := fun k hk => by have h := o_8_0_7.out.lt k hk; (try simp at h); omega
  clear z_b1 l_b1 h_b1_6 o_4_0_6 o_5_0_6 o_6_0_6 o_7_0_6 o_7_1_6 hE_6 hx_7
  go_wp2_with fail
  refine (HT2 _ (hE_7.out.alloc _)).out.mono ?_
  rintro e w8 ⟨u0, rfl, o0, hx_8⟩
  have h_b1_8 : Hid (w8.heap[w.heap.size]? = some (.cells #[.int .i64 q, .slice a1 n c1] 24 (0, 0))) := heap_keep hx_8 (heap_alloc_lt h_b1_7.out)
  have h_b2_8 : Hid (w8.heap[w6.heap.size]? = some (.cells #[.int .i64 rT, .slice a_6_0 nO c_6_0, .slice a_6_1 nW c_6_1] 45 (0, 0))) := heap_keep hx_8 (heap_alloc_lt h_b2_7.out)
  have h_b3_8 : Hid (w8.heap[w7.heap.size]? = some (.cells #[.int .i64 q, .slice a_7 n c_7] 31 (0, 0))) := heap_keep hx_8 (heap_alloc_new _ _)
  have o_7_0_8 := Lib.hid (own_ext (own_ext o_7_0_7.out ((Ext.refl _).alloc _)) hx_8)
  have o_7_1_8 := Lib.hid (own_ext (own_ext o_7_1_7.out ((Ext.refl _).alloc _)) hx_8)
  have o_8_0_8 := Lib.hid (own_ext (own_ext o_8_0_7.out ((Ext.refl _).alloc _)) hx_8)
  have hE_8 := Lib.hid (((hE_7.out.alloc _)).trans hx_8)
  have s_8 := hx_8.size
  try simp at s_8
  have o_9_0_8 := Lib.hid o0
  obtain ⟨a_8, c_8, rfl, p1, p2, p3⟩ := own_shape o0
  clear o0 p1 p2 p3
  have lim_9_0 : Hid (∀ k, (Value.slice a_8 m c_8).ownBlock = some k → w7.heap.size + 1 ≤ k ∧ k < w8.heap.size) := fun k hk => by have h := o_9_0_8.out.lt k hk; (try simp at h); omega
  clear h_b1_7 h_b2_7 o_7_0_7 o_7_1_7 o_8_0_7 hE_7 hx_8
  go_wp2_with fail
  refine (HT3 _ hE_8.out).out.mono ?_
  rintro e w9 ⟨u0, rfl, o0, hx_9⟩
  have h_b1_9 : Hid (w9.heap[w.heap.size]? = some (.cells #[.int .i64 q, .slice a1 n c1] 24 (0, 0))) := heap_keep hx_9 h_b1_8.out
  have h_b2_9 : Hid (w9.heap[w6.heap.size]? = some (.cells #[.int .i64 rT, .slice a_6_0 nO c_6_0, .slice a_6_1 nW c_6_1] 45 (0, 0))) := heap_keep hx_9 h_b2_8.out
  have h_b3_9 : Hid (w9.heap[w7.heap.size]? = some (.cells #[.int .i64 q, .slice a_7 n c_7] 31 (0, 0))) := heap_keep hx_9 h_b3_8.out
  have o_7_0_9 := Lib.hid (own_ext o_7_0_8.out hx_9)
  have o_7_1_9 := Lib.hid (own_ext o_7_1_8.out hx_9)
  have o_8_0_9 := Lib.hid (own_ext o_8_0_8.out hx_9)
  have o_9_0_9 := Lib.hid (own_ext o_9_0_8.out hx_9)
  have hE_9 := Lib.hid ((hE_8.out).trans hx_9)
  have s_9 := hx_9.size
  try simp at s_9
  have o_10_0_9 := Lib.hid o0
  obtain ⟨a_9, c_9, rfl, p1, p2, p3⟩ := own_shape o0
  clear o0 p1 p2 p3
  have lim_10_0 : Hid (∀ k, (Value.slice a_9 l c_9).ownBlock = some k → w8.heap.size ≤ k ∧ k < w9.heap.size) := fun k hk => by have h := o_10_0_9.out.lt k hk; (try simp at h); omega
  clear h_b1_8 h_b2_8 h_b3_8 o_7_0_8 o_7_1_8 o_8_0_8 o_9_0_8 hE_8 hx_9
  have z_b3 := fun k => cell_of_row _ _ k _ _ _ h_b3_9.out
  have l_b3 := (Array.getElem?_eq_some_iff.1 h_b3_9.out).1
  go_wp2_with fail
  refine (HI _ _ _ _ (RV.own o_8_0_9.out HL0_0.out) (RV.own o_9_0_9.out HL2_0.out) (RV.own o_10_0_9.out HL3_0.out)).out.mono ?_
  rintro e w10 ⟨u0, u1, rfl, o0, o1, djx, hx_10⟩
  have dj_10 := Lib.hid djx
  clear djx
  have h_b1_10 : Hid (w10.heap[w.heap.size]? = some (.cells #[.int .i64 q, .slice a1 n c1] 24 (0, 0))) := heap_keep hx_10 h_b1_9.out
  have h_b2_10 : Hid (w10.heap[w6.heap.size]? = some (.cells #[.int .i64 rT, .slice a_6_0 nO c_6_0, .slice a_6_1 nW c_6_1] 45 (0, 0))) := heap_keep hx_10 h_b2_9.out
  have h_b3_10 : Hid (w10.heap[w7.heap.size]? = some (.cells #[.int .i64 q, .slice a_7 n c_7] 31 (0, 0))) := heap_keep hx_10 h_b3_9.out
  have o_7_0_10 := Lib.hid (own_ext o_7_0_9.out hx_10)
  have o_7_1_10 := Lib.hid (own_ext o_7_1_9.out hx_10)
  have o_8_0_10 := Lib.hid (own_ext o_8_0_9.out hx_10)
  have o_9_0_10 := Lib.hid (own_ext o_9_0_9.out hx_10)
  have o_10_0_10 := Lib.hid (own_ext o_10_0_9.out hx_10)
  have hE_10 := Lib.hid ((hE_9.out).trans hx_10)
  have s_10 := hx_10.size
  try simp at s_10
  have o_11_0_10 := Lib.hid o0
  obtain ⟨a_10_0, c_10_0, rfl, p1, p2, p3⟩ := own_shape o0
  clear o0 p1 p2 p3
  have lim_11_0 : Hid (∀ k, (Value.slice a_10_0 nO c_10_0).ownBlock = some k → w9.heap.size ≤ k ∧ k < w10.heap.size) := fun k hk => by have h := o_11_0_10.out.lt k hk; (try simp at h); omega
  have o_11_1_10 := Lib.hid o1
  obtain ⟨a_10_1, c_10_1, rfl, p1, p2, p3⟩ := own_shape o1
  clear o1 p1 p2 p3
  have lim_11_1 : Hid (∀ k, (Value.slice a_10_1 nW c_10_1).ownBlock = some k → w9.heap.size ≤ k ∧ k < w10.heap.size) := fun k hk => by have h := o_11_1_10.out.lt k hk; (try simp at h); omega
  clear z_b3 l_b3 h_b1_9 h_b2_9 h_b3_9 o_7_0_9 o_7_1_9 o_8_0_9 o_9_0_9 o_10_0_9 hE_9 hx_10
  have z_b2 := fun k => cell_of_row _ _ k _ _ _ h_b2_10.out
  have l_b2 := (Array.getElem?_eq_some_iff.1 h_b2_10.out).1
  go_wp2_with fail
  refine (eqReplacement_same rT HLO.out (by omega) HLW.out (by omega) _ (own_ext o_11_0_10.out ((Ext.refl _).alloc _)) (own_ext o_11_1_10.out ((Ext.refl _).alloc _)) (own_ext o_7_0_10.out ((Ext.refl _).alloc _)) (own_ext o_7_1_10.out ((Ext.refl _).alloc _))).mono ?_
  rintro e w11 ⟨rfl, hx_11⟩
  have h_b1_11 : Hid (w11.heap[w.heap.size]? = some (.cells #[.int .i64 q, .slice a1 n c1] 24 (0, 0))) := heap_keep hx_11 (heap_alloc_lt h_b1_10.out)
  have h_b2_11 : Hid (w11.heap[w6.heap.size]? = some (.cells #[.int .i64 rT, .slice a_6_0 nO c_6_0, .slice a_6_1 nW c_6_1] 45 (0, 0))) := heap_keep hx_11 (heap_alloc_lt h_b2_10.out)
  have h_b3_11 : Hid (w11.heap[w7.heap.size]? = some (.cells #[.int .i64 q, .slice a_7 n c_7] 31 (0, 0))) := heap_keep hx_11 (heap_alloc_lt h_b3_10.out)
  have h_b4_11 : Hid (w11.heap[w10.heap.size]? = some (.cells #[.int .i64 rT, .slice a_10_0 nO c_10_0, .slice a_10_1 nW c_10_1] 45 (0, 0))) := heap_keep hx_11 (heap_alloc_new _ _)
  have o_7_0_11 := Lib.hid (own_ext (own_ext o_7_0_10.out ((Ext.refl _).alloc _)) hx_11)
  have o_7_1_11 := Lib.hid (own_ext (own_ext o_7_1_10.out ((Ext.refl _).alloc _)) hx_11)
  have o_8_0_11 := Lib.hid (own_ext (own_ext o_8_0_10.out ((Ext.refl _).alloc _)) hx_11)
  have o_9_0_11 := Lib.hid (own_ext (own_ext o_9_0_10.out ((Ext.refl _).alloc _)) hx_11)
  have o_10_0_11 := Lib.hid (own_ext (own_ext o_10_0_10.out ((Ext.refl _).alloc _)) hx_11)
  have o_11_0_11 := Lib.hid (own_ext (own_ext o_11_0_10.out ((Ext.refl _).alloc _)) hx_11)
  have o_11_1_11 := Lib.hid (own_ext (own_ext o_11_1_10.out ((Ext.refl _).alloc _)) hx_11)
  have hE_11 := Lib.hid (((hE_10.out.alloc _)).trans hx_11)
  have s_11 := hx_11.size
  try simp at s_11
  clear z_b2 l_b2 h_b1_10 h_b2_10 h_b3_10 o_7_0_10 o_7_1_10 o_8_0_10 o_9_0_10 o_10_0_10 o_11_0_10 o_11_1_10 hE_10 hx_11
  -- arguments as they were
  have z_b3 := fun k => cell_of_row _ _ k _ _ _ h_b3_11.out
  have l_b3 := (Array.getElem?_eq_some_iff.1 h_b3_11.out).1
  have z_b1 := fun k => cell_of_row _ _ k _ _ _ h_b1_11.out
  have l_b1 := (Array.getElem?_eq_some_iff.1 h_b1_11.out).1
  have HK : Hid (∀ w', Ext w11 w' → (w'.cell? ⟨w7.heap.size, 0, none⟩ = some (.int .i64 q) ∧ w'.cell? ⟨w7.heap.size, 1, none⟩ = some (.slice a_7 n c_7) ∧ w'.cell? ⟨w.heap.size, 0, none⟩ = some (.int .i64 q) ∧ w'.cell? ⟨w.heap.size, 1, none⟩ = some (.slice a1 n c1))) := fun w' hx =>
    ⟨(hx.cells.1 _ 0 l_b3).trans (z_b3 0), (hx.cells.1 _ 1 l_b3).trans (z_b3 1), (hx.cells.1 _ 0 l_b1).trans (z_b1 0), (hx.cells.1 _ 1 l_b1).trans (z_b1 1)⟩
  have hE_ := hE_11.out
  go_wp2_with fail
  go_region_held3 (fun w' => w'.cell? ⟨w7.heap.size, 0, none⟩ = some (.int .i64 q) ∧ w'.cell? ⟨w7.heap.size, 1, none⟩ = some (.slice a_7 n c_7) ∧ w'.cell? ⟨w.heap.size, 0, none⟩ = some (.int .i64 q) ∧ w'.cell? ⟨w.heap.size, 1, none⟩ = some (.slice a1 n c1)) (exact HK.out _ (by repeat (first | (with_reducible refine Ext.setCell ?_ (by first | (simp; done) | (simp; omega)) _) | with_reducible refine Ext.alloc ?_ _ | with_reducible refine Ext.drew ?_ | with_reducible refine Ext.drewN ?_ _ | with_reducible assumption | with_reducible exact Ext.refl _ | with_reducible refine Ext.trans ?_ (by with_reducible assumption))))
    (first
    | (go_at_call 16; (with_reducible refine (HT0 _ (by repeat (first | (with_reducible refine Ext.setCell ?_ (by first | (simp; done) | (simp; omega)) _) | with_reducible refine Ext.alloc ?_ _ | with_reducible refine Ext.drew ?_ | with_reducible refine Ext.drewN ?_ _ | with_reducible assumption | with_reducible exact Ext.refl _ | with_reducible refine Ext.trans ?_ (by with_reducible assumption)))).out.mono ?_); rintro e w12 ⟨u0, rfl, oo0, hx_12⟩; have OO0 := Lib.hid oo0; obtain ⟨aE0, cE0, rfl, q1E, q2E, q3E⟩ := own_shape oo0; clear q1E q2E q3E oo0)
    | (go_at_call 21; (with_reducible refine (eqCircuit_same q HL0_0.out (by omega) _ (own_ext o_8_0_11.out (by repeat (first | (with_reducible refine Ext.setCell ?_ (by first | (simp; done) | (simp; omega)) _) | with_reducible refine Ext.alloc ?_ _ | with_reducible refine Ext.drew ?_ | with_reducible refine Ext.drewN ?_ _ | with_reducible assumption | with_reducible exact Ext.refl _ | with_reducible refine Ext.trans ?_ (by with_reducible assumption)))) OO0.out).mono ?_); rintro e w13 ⟨rfl, hx_13⟩))
  have hxx_13 : Ext w11 w13 := (by repeat (first | (with_reducible refine Ext.setCell ?_ (by first | (simp; done) | (simp; omega)) _) | with_reducible refine Ext.alloc ?_ _ | with_reducible refine Ext.drew ?_ | with_reducible refine Ext.drewN ?_ _ | with_reducible assumption | with_reducible exact Ext.refl _ | with_reducible refine Ext.trans ?_ (by with_reducible assumption)))
  have h_b1_13 : Hid (w13.heap[w.heap.size]? = some (.cells #[.int .i64 q, .slice a1 n c1] 24 (0, 0))) := heap_keep hxx_13 h_b1_11.out
  have h_b2_13 : Hid (w13.heap[w6.heap.size]? = some (.cells #[.int .i64 rT, .slice a_6_0 nO c_6_0, .slice a_6_1 nW c_6_1] 45 (0, 0))) := heap_keep hxx_13 h_b2_11.out
  have h_b3_13 : Hid (w13.heap[w7.heap.size]? = some (.cells #[.int .i64 q, .slice a_7 n c_7] 31 (0, 0))) := heap_keep hxx_13 h_b3_11.out
  have h_b4_13 : Hid (w13.heap[w10.heap.size]? = some (.cells #[.int .i64 rT, .slice a_10_0 nO c_10_0, .slice a_10_1 nW c_10_1] 45 (0, 0))) := heap_keep hxx_13 h_b4_11.out
  have o_7_0_13 := Lib.hid (own_ext o_7_0_11.out hxx_13)
  have o_7_1_13 := Lib.hid (own_ext o_7_1_11.out hxx_13)
  have o_8_0_13 := Lib.hid (own_ext o_8_0_11.out hxx_13)
  have o_9_0_13 := Lib.hid (own_ext o_9_0_11.out hxx_13)
  have o_10_0_13 := Lib.hid (own_ext o_10_0_11.out hxx_13)
  have o_11_0_13 := Lib.hid (own_ext o_11_0_11.out hxx_13)
  have o_11_1_13 := Lib.hid (own_ext o_11_1_11.out hxx_13)
  have hE_13 := Lib.hid ((hE_11.out).trans hxx_13)
  have s_13 := hxx_13.size
  try simp at s_13
  clear z_b3 l_b3 z_b1 l_b1 h_b1_11 h_b2_11 h_b3_11 h_b4_11 o_7_0_11 o_7_1_11 o_8_0_11 o_9_0_11 o_10_0_11 o_11_0_11 o_11_1_11 hE_11 hx_12 hx_13 hxx_13 HK hE_ OO0
  go_wp2_with fail
  refine (HT2 _ hE_13.out).out.mono ?_
  rintro e w14 ⟨u0, rfl, o0, hx_14⟩
  have h_b1_14 : Hid (w14.heap[w.heap.size]? = some (.cells #[.int .i64 q, .slice a1 n c1] 24 (0, 0))) := heap_keep hx_14 h_b1_13.out
  have h_b2_14 : Hid (w14.heap[w6.heap.size]? = some (.cells #[.int .i64 rT, .slice a_6_0 nO c_6_0, .slice a_6_1 nW c_6_1] 45 (0, 0))) := heap_keep hx_14 h_b2_13.out
  have h_b3_14 : Hid (w14.heap[w7.heap.size]? = some (.cells #[.int .i64 q, .slice a_7 n c_7] 31 (0, 0))) := heap_keep hx_14 h_b3_13.out
  have h_b4_14 : Hid (w14.heap[w10.heap.size]? = some (.cells #[.int .i64 rT, .slice a_10_0 nO c_10_0, .slice a_10_1 nW c_10_1] 45 (0, 0))) := heap_keep hx_14 h_b4_13.out
  have o_7_0_14 := Lib.hid (own_ext o_7_0_13.out hx_14)
  have o_7_1_14 := Lib.hid (own_ext o_7_1_13.out hx_14)
  have o_8_0_14 := Lib.hid (own_ext o_8_0_13.out hx_14)
  have o_9_0_14 := Lib.hid (own_ext o_9_0_13.out hx_14)
  have o_10_0_14 := Lib.hid (own_ext o_10_0_13.out hx_14)
  have o_11_0_14 := Lib.hid (own_ext o_11_0_13.out hx_14)
  have o_11_1_14 := Lib.hid (own_ext o_11_1_13.out hx_14)
  have hE_14 := Lib.hid ((hE_13.out).trans hx_14)
  have s_14 := hx_14.size
  try simp at s_14
  have o_12_0_14 := Lib.hid o0
  obtain ⟨a_14, c_14, rfl, p1, p2, p3⟩ := own_shape o0
  clear o0 p1 p2 p3
  have lim_12_0 : Hid (∀ k, (Value.slice a_14 m c_14).ownBlock = some k → w13.heap.size ≤ k ∧ k < w14.heap.size) := fun k hk => by have h := o_12_0_14.out.lt k hk; (try simp at h); omega
  clear h_b1_13 h_b2_13 h_b3_13 h_b4_13 o_7_0_13 o_7_1_13 o_8_0_13 o_9_0_13 o_10_0_13 o_11_0_13 o_11_1_13 hE_13 hx_14
  go_wp2_with fail
  refine (eqIntS_same HL2_0.out (by omega) _ o_9_0_14.out o_12_0_14.out).mono ?_
  rintro e w15 ⟨rfl, hx_15⟩
  have h_b1_15 : Hid (w15.heap[w.heap.size]? = some (.cells #[.int .i64 q, .slice a1 n c1] 24 (0, 0))) := heap_keep hx_15 h_b1_14.out
  have h_b2_15 : Hid (w15.heap[w6.heap.size]? = some (.cells #[.int .i64 rT, .slice a_6_0 nO c_6_0, .slice a_6_1 nW c_6_1] 45 (0, 0))) := heap_keep hx_15 h_b2_14.out
  have h_b3_15 : Hid (w15.heap[w7.heap.size]? = some (.cells #[.int .i64 q, .slice a_7 n c_7] 31 (0, 0))) := heap_keep hx_15 h_b3_14.out
  have h_b4_15 : Hid (w15.heap[w10.heap.size]? = some (.cells #[.int .i64 rT, .slice a_10_0 nO c_10_0, .slice a_10_1 nW c_10_1] 45 (0, 0))) := heap_keep hx_15 h_b4_14.out
  have o_7_0_15 := Lib.hid (own_ext o_7_0_14.out hx_15)
  have o_7_1_15 := Lib.hid (own_ext o_7_1_14.out hx_15)
  have o_8_0_15 := Lib.hid (own_ext o_8_0_14.out hx_15)
  have o_9_0_15 := Lib.hid (own_ext o_9_0_14.out hx_15)
  have o_10_0_15 := Lib.hid (own_ext o_10_0_14.out hx_15)
  have o_11_0_15 := Lib.hid (own_ext o_11_0_14.out hx_15)
  have o_11_1_15 := Lib.hid (own_ext o_11_1_14.out hx_15)
  have o_12_0_15 := Lib.hid (own_ext o_12_0_14.out hx_15)
  have hE_15 := Lib.hid ((hE_14.out).trans hx_15)
  have s_15 := hx_15.size
  try simp at s_15
  clear h_b1_14 h_b2_14 h_b3_14 h_b4_14 o_7_0_14 o_7_1_14 o_8_0_14 o_9_0_14 o_10_0_14 o_11_0_14 o_11_1_14 o_12_0_14 hE_14 hx_15
  go_wp2_with fail
  refine (HT3 _ hE_15.out).out.mono ?_
  rintro e w16 ⟨u0, rfl, o0, hx_16⟩
  have h_b1_16 : Hid (w16.heap[w.heap.size]? = some (.cells #[.int .i64 q, .slice a1 n c1] 24 (0, 0))) := heap_keep hx_16 h_b1_15.out
  have h_b2_16 : Hid (w16.heap[w6.heap.size]? = some (.cells #[.int .i64 rT, .slice a_6_0 nO c_6_0, .slice a_6_1 nW c_6_1] 45 (0, 0))) := heap_keep hx_16 h_b2_15.out
  have h_b3_16 : Hid (w16.heap[w7.heap.size]? = some (.cells #[.int .i64 q, .slice a_7 n c_7] 31 (0, 0))) := heap_keep hx_16 h_b3_15.out
  have h_b4_16 : Hid (w16.heap[w10.heap.size]? = some (.cells #[.int .i64 rT, .slice a_10_0 nO c_10_0, .slice a_10_1 nW c_10_1] 45 (0, 0))) := heap_keep hx_16 h_b4_15.out
  have o_7_0_16 := Lib.hid (own_ext o_7_0_15.out hx_16)
  have o_7_1_16 := Lib.hid (own_ext o_7_1_15.out hx_16)
  have o_8_0_16 := Lib.hid (own_ext o_8_0_15.out hx_16)
  have o_9_0_16 := Lib.hid (own_ext o_9_0_15.out hx_16)
  have o_10_0_16 := Lib.hid (own_ext o_10_0_15.out hx_16)
  have o_11_0_16 := Lib.hid (own_ext o_11_0_15.out hx_16)
  have o_11_1_16 := Lib.hid (own_ext o_11_1_15.out hx_16)
  have hE_16 := Lib.hid ((hE_15.out).trans hx_16)
  have s_16 := hx_16.size
  try simp at s_16
  have o_13_0_16 := Lib.hid o0
  obtain ⟨a_16, c_16, rfl, p1, p2, p3⟩ := own_shape o0
  clear o0 p1 p2 p3
  have lim_13_0 : Hid (∀ k, (Value.slice a_16 l c_16).ownBlock = some k → w15.heap.size ≤ k ∧ k < w16.heap.size) := fun k hk => by have h := o_13_0_16.out.lt k hk; (try simp at h); omega
  clear h_b1_15 h_b2_15 h_b3_15 h_b4_15 o_7_0_15 o_7_1_15 o_8_0_15 o_9_0_15 o_10_0_15 o_11_0_15 o_11_1_15 o_12_0_15 hE_15 hx_16
  go_wp2_with fail
  refine (eqGateS_same HL3_0.out (by omega) _ o_10_0_16.out o_13_0_16.out).mono ?_
  rintro e w17 ⟨rfl, hx_17⟩
  have h_b1_17 : Hid (w17.heap[w.heap.size]? = some (.cells #[.int .i64 q, .slice a1 n c1] 24 (0, 0))) := heap_keep hx_17 h_b1_16.out
  have h_b2_17 : Hid (w17.heap[w6.heap.size]? = some (.cells #[.int .i64 rT, .slice a_6_0 nO c_6_0, .slice a_6_1 nW c_6_1] 45 (0, 0))) := heap_keep hx_17 h_b2_16.out
  have h_b3_17 : Hid (w17.heap[w7.heap.size]? = some (.cells #[.int .i64 q, .slice a_7 n c_7] 31 (0, 0))) := heap_keep hx_17 h_b3_16.out
  have h_b4_17 : Hid (w17.heap[w10.heap.size]? = some (.cells #[.int .i64 rT, .slice a_10_0 nO c_10_0, .slice a_10_1 nW c_10_1] 45 (0, 0))) := heap_keep hx_17 h_b4_16.out
  have o_7_0_17 := Lib.hid (own_ext o_7_0_16.out hx_17)
  have o_7_1_17 := Lib.hid (own_ext o_7_1_16.out hx_17)
  have o_8_0_17 := Lib.hid (own_ext o_8_0_16.out hx_17)
  have o_9_0_17 := Lib.hid (own_ext o_9_0_16.out hx_17)
  have o_10_0_17 := Lib.hid (own_ext o_10_0_16.out hx_17)
  have o_11_0_17 := Lib.hid (own_ext o_11_0_16.out hx_17)
  have o_11_1_17 := Lib.hid (own_ext o_11_1_16.out hx_17)
  have o_13_0_17 := Lib.hid (own_ext o_13_0_16.out hx_17)
  have hE_17 := Lib.hid ((hE_16.out).trans hx_17)
  have s_17 := hx_17.size
  try simp at s_17
  clear h_b1_16 h_b2_16 h_b3_16 h_b4_16 o_7_0_16 o_7_1_16 o_8_0_16 o_9_0_16 o_10_0_16 o_11_0_16 o_11_1_16 o_13_0_16 hE_16 hx_17
  have z_b3 := fun k => cell_of_row _ _ k _ _ _ h_b3_17.out
  have l_b3 := (Array.getElem?_eq_some_iff.1 h_b3_17.out).1
  go_wp2_with fail
  refine (markCircuit_any q (by rw [il_length]; exact HL0_0.out) (by omega) (1) (by omega) _ o_8_0_17.out).mono ?_
  rintro e w18 ⟨rfl, om_18, hg_18⟩
  have h_b1_18 : Hid (w18.heap[w.heap.size]? = some (.cells #[.int .i64 q, .slice a1 n c1] 24 (0, 0))) := heap_far hg_18 (heap_alloc_lt h_b1_17.out) (fun j hj => by have := lim_8_0.out j hj; omega)
  have h_b2_18 : Hid (w18.heap[w6.heap.size]? = some (.cells #[.int .i64 rT, .slice a_6_0 nO c_6_0, .slice a_6_1 nW c_6_1] 45 (0, 0))) := heap_far hg_18 (heap_alloc_lt h_b2_17.out) (fun j hj => by have := lim_8_0.out j hj; omega)
  have h_b3_18 : Hid (w18.heap[w7.heap.size]? = some (.cells #[.int .i64 q, .slice a_7 n c_7] 31 (0, 0))) := heap_far hg_18 (heap_alloc_lt h_b3_17.out) (fun j hj => by have := lim_8_0.out j hj; omega)
  have h_b4_18 : Hid (w18.heap[w10.heap.size]? = some (.cells #[.int .i64 rT, .slice a_10_0 nO c_10_0, .slice a_10_1 nW c_10_1] 45 (0, 0))) := heap_far hg_18 (heap_alloc_lt h_b4_17.out) (fun j hj => by have := lim_8_0.out j hj; omega)
  have o_7_0_18 := Lib.hid (own_far (own_ext o_7_0_17.out ((Ext.refl _).alloc _)) hg_18 (fun j hj k hk => by have := lim_8_0.out j hj; have := lim_7_0.out k hk; omega))
  have o_7_1_18 := Lib.hid (own_far (own_ext o_7_1_17.out ((Ext.refl _).alloc _)) hg_18 (fun j hj k hk => by have := lim_8_0.out j hj; have := lim_7_1.out k hk; omega))
  have o_9_0_18 := Lib.hid (own_far (own_ext o_9_0_17.out ((Ext.refl _).alloc _)) hg_18 (fun j hj k hk => by have := lim_8_0.out j hj; have := lim_9_0.out k hk; omega))
  have o_10_0_18 := Lib.hid (own_far (own_ext o_10_0_17.out ((Ext.refl _).alloc _)) hg_18 (fun j hj k hk => by have := lim_8_0.out j hj; have := lim_10_0.out k hk; omega))
  have o_11_0_18 := Lib.hid (own_far (own_ext o_11_0_17.out ((Ext.refl _).alloc _)) hg_18 (fun j hj k hk => by have := lim_8_0.out j hj; have := lim_11_0.out k hk; omega))
  have o_11_1_18 := Lib.hid (own_far (own_ext o_11_1_17.out ((Ext.refl _).alloc _)) hg_18 (fun j hj k hk => by have := lim_8_0.out j hj; have := lim_11_1.out k hk; omega))
  have hE_18 := Lib.hid (Ext.grown ((hE_17.out.alloc _)) hg_18 (fun k hk => by have := lim_8_0.out k hk; omega))
  have s_18 := hg_18.size
  try simp at s_18
  have o_8_0_18 := Lib.hid om_18
  clear z_b3 l_b3 h_b1_17 h_b2_17 h_b3_17 h_b4_17 o_7_0_17 o_7_1_17 o_9_0_17 o_10_0_17 o_11_0_17 o_11_1_17 o_13_0_17 hE_17 o_8_0_17 om_18 hg_18
  go_wp2_with fail
  refine (markIntS_any (by rw [il_length]; exact HL2_0.out) (by omega) (1 + (n : Int) * 3) (by omega) _ o_9_0_18.out).mono ?_
  rintro e w19 ⟨rfl, om_19, hg_19⟩
  have h_b1_19 : Hid (w19.heap[w.heap.size]? = some (.cells #[.int .i64 q, .slice a1 n c1] 24 (0, 0))) := heap_far hg_19 h_b1_18.out (fun j hj => by have := lim_9_0.out j hj; omega)
  have h_b2_19 : Hid (w19.heap[w6.heap.size]? = some (.cells #[.int .i64 rT, .slice a_6_0 nO c_6_0, .slice a_6_1 nW c_6_1] 45 (0, 0))) := heap_far hg_19 h_b2_18.out (fun j hj => by have := lim_9_0.out j hj; omega)
  have h_b4_19 : Hid (w19.heap[w10.heap.size]? = some (.cells #[.int .i64 rT, .slice a_10_0 nO c_10_0, .slice a_10_1 nW c_10_1] 45 (0, 0))) := heap_far hg_19 h_b4_18.out (fun j hj => by have := lim_9_0.out j hj; omega)
  have o_7_0_19 := Lib.hid (own_far o_7_0_18.out hg_19 (fun j hj k hk => by have := lim_9_0.out j hj; have := lim_7_0.out k hk; omega))
  have o_7_1_19 := Lib.hid (own_far o_7_1_18.out hg_19 (fun j hj k hk => by have := lim_9_0.out j hj; have := lim_7_1.out k hk; omega))
  have o_10_0_19 := Lib.hid (own_far o_10_0_18.out hg_19 (fun j hj k hk => by have := lim_9_0.out j hj; have := lim_10_0.out k hk; omega))
  have o_11_0_19 := Lib.hid (own_far o_11_0_18.out hg_19 (fun j hj k hk => by have := lim_9_0.out j hj; have := lim_11_0.out k hk; omega))
  have o_11_1_19 := Lib.hid (own_far o_11_1_18.out hg_19 (fun j hj k hk => by have := lim_9_0.out j hj; have := lim_11_1.out k hk; omega))
  have hE_19 := Lib.hid (Ext.grown (hE_18.out) hg_19 (fun k hk => by have := lim_9_0.out k hk; omega))
  have s_19 := hg_19.size
  try simp at s_19
  have o_9_0_19 := Lib.hid om_19
  clear h_b1_18 h_b2_18 h_b3_18 h_b4_18 o_7_0_18 o_7_1_18 o_8_0_18 o_10_0_18 o_11_0_18 o_11_1_18 hE_18 o_9_0_18 om_19 hg_19
  go_wp2_with fail
  refine (markGateS_any (by rw [il_length]; exact HL3_0.out) (by omega) (1 + (n : Int) * 3 + (m : Int)) (by omega) _ o_10_0_19.out).mono ?_
  rintro e w20 ⟨rfl, om_20, hg_20⟩
  have h_b1_20 : Hid (w20.heap[w.heap.size]? = some (.cells #[.int .i64 q, .slice a1 n c1] 24 (0, 0))) := heap_far hg_20 h_b1_19.out (fun j hj => by have := lim_10_0.out j hj; omega)
  have h_b2_20 : Hid (w20.heap[w6.heap.size]? = some (.cells #[.int .i64 rT, .slice a_6_0 nO c_6_0, .slice a_6_1 nW c_6_1] 45 (0, 0))) := heap_far hg_20 h_b2_19.out (fun j hj => by have := lim_10_0.out j hj; omega)
  have h_b4_20 : Hid (w20.heap[w10.heap.size]? = some (.cells #[.int .i64 rT, .slice a_10_0 nO c_10_0, .slice a_10_1 nW c_10_1] 45 (0, 0))) := heap_far hg_20 h_b4_19.out (fun j hj => by have := lim_10_0.out j hj; omega)
  have o_7_0_20 := Lib.hid (own_far o_7_0_19.out hg_20 (fun j hj k hk => by have := lim_10_0.out j hj; have := lim_7_0.out k hk; omega))
  have o_7_1_20 := Lib.hid (own_far o_7_1_19.out hg_20 (fun j hj k hk => by have := lim_10_0.out j hj; have := lim_7_1.out k hk; omega))
  have o_11_0_20 := Lib.hid (own_far o_11_0_19.out hg_20 (fun j hj k hk => by have := lim_10_0.out j hj; have := lim_11_0.out k hk; omega))
  have o_11_1_20 := Lib.hid (own_far o_11_1_19.out hg_20 (fun j hj k hk => by have := lim_10_0.out j hj; have := lim_11_1.out k hk; omega))
  have hE_20 := Lib.hid (Ext.grown (hE_19.out) hg_20 (fun k hk => by have := lim_10_0.out k hk; omega))
  have s_20 := hg_20.size
  try simp at s_20
  have o_10_0_20 := Lib.hid om_20
  clear h_b1_19 h_b2_19 h_b4_19 o_7_0_19 o_7_1_19 o_9_0_19 o_11_0_19 o_11_1_19 hE_19 o_10_0_19 om_20 hg_20
  have z_b4 := fun k => cell_of_row _ _ k _ _ _ h_b4_20.out
  have l_b4 := (Array.getElem?_eq_some_iff.1 h_b4_20.out).1
  have z_b2 := fun k => cell_of_row _ _ k _ _ _ h_b2_20.out
  have l_b2 := (Array.getElem?_eq_some_iff.1 h_b2_20.out).1
  go_wp2_with fail
  refine (eqReplacement_same rT HLO.out (by omega) HLW.out (by omega) _ o_11_0_20.out o_11_1_20.out o_7_0_20.out o_7_1_20.out).mono ?_
  rintro e w21 ⟨rfl, hx_21⟩
  have h_b1_21 : Hid (w21.heap[w.heap.size]? = some (.cells #[.int .i64 q, .slice a1 n c1] 24 (0, 0))) := heap_keep hx_21 h_b1_20.out
  have h_b2_21 : Hid (w21.heap[w6.heap.size]? = some (.cells #[.int .i64 rT, .slice a_6_0 nO c_6_0, .slice a_6_1 nW c_6_1] 45 (0, 0))) := heap_keep hx_21 h_b2_20.out
  have h_b4_21 : Hid (w21.heap[w10.heap.size]? = some (.cells #[.int .i64 rT, .slice a_10_0 nO c_10_0, .slice a_10_1 nW c_10_1] 45 (0, 0))) := heap_keep hx_21 h_b4_20.out
  have o_7_0_21 := Lib.hid (own_ext o_7_0_20.out hx_21)
  have o_7_1_21 := Lib.hid (own_ext o_7_1_20.out hx_21)
  have o_11_0_21 := Lib.hid (own_ext o_11_0_20.out hx_21)
  have o_11_1_21 := Lib.hid (own_ext o_11_1_20.out hx_21)
  have hE_21 := Lib.hid ((hE_20.out).trans hx_21)
  have s_21 := hx_21.size
  try simp at s_21
  clear z_b4 l_b4 z_b2 l_b2 h_b1_20 h_b2_20 h_b4_20 o_7_0_20 o_7_1_20 o_10_0_20 o_11_0_20 o_11_1_20 hE_20 hx_21
  have z_b4 := fun k => cell_of_row _ _ k _ _ _ h_b4_21.out
  have l_b4 := (Array.getElem?_eq_some_iff.1 h_b4_21.out).1
  go_wp2_with fail
  refine (markReplacementB_any rT (by rw [il_length]; exact HLO.out) (by rw [il_length]; exact HLW.out) (by omega) (by omega) (1) (by omega) _ o_11_0_21.out o_11_1_21.out dj_10.out lim_11_0.out lim_11_1.out).mono ?_
  rintro e w22 ⟨rfl, om0_22, om1_22, hz_22⟩
  have h_b1_22 : Hid (w22.heap[w.heap.size]? = some (.cells #[.int .i64 q, .slice a1 n c1] 24 (0, 0))) := heap_zn hz_22 h_b1_21.out (by omega)
  have h_b2_22 : Hid (w22.heap[w6.heap.size]? = some (.cells #[.int .i64 rT, .slice a_6_0 nO c_6_0, .slice a_6_1 nW c_6_1] 45 (0, 0))) := heap_zn hz_22 h_b2_21.out (by omega)
  have h_b4_22 : Hid (w22.heap[w10.heap.size]? = some (.cells #[.int .i64 rT, .slice a_10_0 nO c_10_0, .slice a_10_1 nW c_10_1] 45 (0, 0))) := heap_zn hz_22 h_b4_21.out (by omega)
  have o_7_0_22 := Lib.hid (own_zn o_7_0_21.out hz_22 (fun k hk => by have := lim_7_0.out k hk; omega))
  have o_7_1_22 := Lib.hid (own_zn o_7_1_21.out hz_22 (fun k hk => by have := lim_7_1.out k hk; omega))
  have hE_22 := Lib.hid (Ext.zn (hE_21.out) hz_22 (by omega))
  have s_22 := hz_22.size
  try simp at s_22
  have o_11_0_22 := Lib.hid om0_22
  have o_11_1_22 := Lib.hid om1_22
  clear z_b4 l_b4 h_b1_21 h_b2_21 h_b4_21 o_7_0_21 o_7_1_21 hE_21 o_11_0_21 o_11_1_21 hz_22 om0_22 om1_22
  have z_b4 := fun k => cell_of_row _ _ k _ _ _ h_b4_22.out
  have l_b4 := (Array.getElem?_eq_some_iff.1 h_b4_22.out).1
  go_wp2_with fail
  refine (heldReplacement_any rT (by omega) (by omega) (1) (by omega) _ o_11_0_22.out o_11_1_22.out).mono ?_
  rintro e w23 ⟨rfl, hx_23⟩
  have h_b1_23 : Hid (w23.heap[w.heap.size]? = some (.cells #[.int .i64 q, .slice a1 n c1] 24 (0, 0))) := heap_keep hx_23 h_b1_22.out
  have h_b2_23 : Hid (w23.heap[w6.heap.size]? = some (.cells #[.int .i64 rT, .slice a_6_0 nO c_6_0, .slice a_6_1 nW c_6_1] 45 (0, 0))) := heap_keep hx_23 h_b2_22.out
  have h_b4_23 : Hid (w23.heap[w10.heap.size]? = some (.cells #[.int .i64 rT, .slice a_10_0 nO c_10_0, .slice a_10_1 nW c_10_1] 45 (0, 0))) := heap_keep hx_23 h_b4_22.out
  have o_7_0_23 := Lib.hid (own_ext o_7_0_22.out hx_23)
  have o_7_1_23 := Lib.hid (own_ext o_7_1_22.out hx_23)
  have o_11_0_23 := Lib.hid (own_ext o_11_0_22.out hx_23)
  have o_11_1_23 := Lib.hid (own_ext o_11_1_22.out hx_23)
  have hE_23 := Lib.hid ((hE_22.out).trans hx_23)
  have s_23 := hx_23.size
  try simp at s_23
  clear z_b4 l_b4 h_b1_22 h_b2_22 h_b4_22 o_7_0_22 o_7_1_22 o_11_0_22 o_11_1_22 hE_22 hx_23
  have z_b1 := fun k => cell_of_row _ _ k _ _ _ h_b1_23.out
  have l_b1 := (Array.getElem?_eq_some_iff.1 h_b1_23.out).1
  go_wp2_with fail
  refine (HT0 _ hE_23.out).out.mono ?_
  rintro e w24 ⟨u0, rfl, o0, hx_24⟩
  have h_b1_24 : Hid (w24.heap[w.heap.size]? = some (.cells #[.int .i64 q, .slice a1 n c1] 24 (0, 0))) := heap_keep hx_24 h_b1_23.out
  have h_b2_24 : Hid (w24.heap[w6.heap.size]? = some (.cells #[.int .i64 rT, .slice a_6_0 nO c_6_0, .slice a_6_1 nW c_6_1] 45 (0, 0))) := heap_keep hx_24 h_b2_23.out
  have h_b4_24 : Hid (w24.heap[w10.heap.size]? = some (.cells #[.int .i64 rT, .slice a_10_0 nO c_10_0, .slice a_10_1 nW c_10_1] 45 (0, 0))) := heap_keep hx_24 h_b4_23.out
  have o_7_0_24 := Lib.hid (own_ext o_7_0_23.out hx_24)
  have o_7_1_24 := Lib.hid (own_ext o_7_1_23.out hx_24)
  have o_11_0_24 := Lib.hid (own_ext o_11_0_23.out hx_24)
  have o_11_1_24 := Lib.hid (own_ext o_11_1_23.out hx_24)
  have hE_24 := Lib.hid ((hE_23.out).trans hx_24)
  have s_24 := hx_24.size
  try simp at s_24
  have o_14_0_24 := Lib.hid o0
  obtain ⟨a_24, c_24, rfl, p1, p2, p3⟩ := own_shape o0
  clear o0 p1 p2 p3
  have lim_14_0 : Hid (∀ k, (Value.slice a_24 n c_24).ownBlock = some k → w23.heap.size ≤ k ∧ k < w24.heap.size) := fun k hk => by have h := o_14_0_24.out.lt k hk; (try simp at h); omega
  clear z_b1 l_b1 h_b1_23 h_b2_23 h_b4_23 o_7_0_23 o_7_1_23 o_11_0_23 o_11_1_23 hE_23 hx_24
  go_wp2_with fail
  refine (HT2 _ hE_24.out).out.mono ?_
  rintro e w25 ⟨u0, rfl, o0, hx_25⟩
  have h_b2_25 : Hid (w25.heap[w6.heap.size]? = some (.cells #[.int .i64 rT, .slice a_6_0 nO c_6_0, .slice a_6_1 nW c_6_1] 45 (0, 0))) := heap_keep hx_25 h_b2_24.out
  have h_b4_25 : Hid (w25.heap[w10.heap.size]? = some (.cells #[.int .i64 rT, .slice a_10_0 nO c_10_0, .slice a_10_1 nW c_10_1] 45 (0, 0))) := heap_keep hx_25 h_b4_24.out
  have o_7_0_25 := Lib.hid (own_ext o_7_0_24.out hx_25)
  have o_7_1_25 := Lib.hid (own_ext o_7_1_24.out hx_25)
  have o_11_0_25 := Lib.hid (own_ext o_11_0_24.out hx_25)
  have o_11_1_25 := Lib.hid (own_ext o_11_1_24.out hx_25)
  have o_14_0_25 := Lib.hid (own_ext o_14_0_24.out hx_25)
  have hE_25 := Lib.hid ((hE_24.out).trans hx_25)
  have s_25 := hx_25.size
  try simp at s_25
  have o_15_0_25 := Lib.hid o0
  obtain ⟨a_25, c_25, rfl, p1, p2, p3⟩ := own_shape o0
  clear o0 p1 p2 p3
  have lim_15_0 : Hid (∀ k, (Value.slice a_25 m c_25).ownBlock = some k → w24.heap.size ≤ k ∧ k < w25.heap.size) := fun k hk => by have h := o_15_0_25.out.lt k hk; (try simp at h); omega
  clear h_b1_24 h_b2_24 h_b4_24 o_7_0_24 o_7_1_24 o_11_0_24 o_11_1_24 o_14_0_24 hE_24 hx_25
  go_wp2_with fail
  refine (HT3 _ hE_25.out).out.mono ?_
  rintro e w26 ⟨u0, rfl, o0, hx_26⟩
  have h_b2_26 : Hid (w26.heap[w6.heap.size]? = some (.cells #[.int .i64 rT, .slice a_6_0 nO c_6_0, .slice a_6_1 nW c_6_1] 45 (0, 0))) := heap_keep hx_26 h_b2_25.out
  have h_b4_26 : Hid (w26.heap[w10.heap.size]? = some (.cells #[.int .i64 rT, .slice a_10_0 nO c_10_0, .slice a_10_1 nW c_10_1] 45 (0, 0))) := heap_keep hx_26 h_b4_25.out
  have o_7_0_26 := Lib.hid (own_ext o_7_0_25.out hx_26)
  have o_7_1_26 := Lib.hid (own_ext o_7_1_25.out hx_26)
  have o_11_0_26 := Lib.hid (own_ext o_11_0_25.out hx_26)
  have o_11_1_26 := Lib.hid (own_ext o_11_1_25.out hx_26)
  have o_14_0_26 := Lib.hid (own_ext o_14_0_25.out hx_26)
  have o_15_0_26 := Lib.hid (own_ext o_15_0_25.out hx_26)
  have hE_26 := Lib.hid ((hE_25.out).trans hx_26)
  have s_26 := hx_26.size
  try simp at s_26
  have o_16_0_26 := Lib.hid o0
  obtain ⟨a_26, c_26, rfl, p1, p2, p3⟩ := own_shape o0
  clear o0 p1 p2 p3
  have lim_16_0 : Hid (∀ k, (Value.slice a_26 l c_26).ownBlock = some k → w25.heap.size ≤ k ∧ k < w26.heap.size) := fun k hk => by have h := o_16_0_26.out.lt k hk; (try simp at h); omega
  clear h_b2_25 h_b4_25 o_7_0_25 o_7_1_25 o_11_0_25 o_11_1_25 o_14_0_25 o_15_0_25 hE_25 hx_26
  go_wp2_with fail
  refine (HI _ _ _ _ (RV.own o_14_0_26.out HL0_0.out) (RV.own o_15_0_26.out HL2_0.out) (RV.own o_16_0_26.out HL3_0.out)).out.mono ?_
  rintro e w27 ⟨u0, u1, rfl, o0, o1, djx, hx_27⟩
  have dj_27 := Lib.hid djx
  clear djx
  have h_b2_27 : Hid (w27.heap[w6.heap.size]? = some (.cells #[.int .i64 rT, .slice a_6_0 nO c_6_0, .slice a_6_1 nW c_6_1] 45 (0, 0))) := heap_keep hx_27 h_b2_26.out
  have h_b4_27 : Hid (w27.heap[w10.heap.size]? = some (.cells #[.int .i64 rT, .slice a_10_0 nO c_10_0, .slice a_10_1 nW c_10_1] 45 (0, 0))) := heap_keep hx_27 h_b4_26.out
  have o_7_0_27 := Lib.hid (own_ext o_7_0_26.out hx_27)
  have o_7_1_27 := Lib.hid (own_ext o_7_1_26.out hx_27)
  have o_11_0_27 := Lib.hid (own_ext o_11_0_26.out hx_27)
  have o_11_1_27 := Lib.hid (own_ext o_11_1_26.out hx_27)
  have o_14_0_27 := Lib.hid (own_ext o_14_0_26.out hx_27)
  have o_15_0_27 := Lib.hid (own_ext o_15_0_26.out hx_27)
  have o_16_0_27 := Lib.hid (own_ext o_16_0_26.out hx_27)
  have hE_27 := Lib.hid ((hE_26.out).trans hx_27)
  have s_27 := hx_27.size
  try simp at s_27
  have o_17_0_27 := Lib.hid o0
  obtain ⟨a_27_0, c_27_0, rfl, p1, p2, p3⟩ := own_shape o0
  clear o0 p1 p2 p3
  have lim_17_0 : Hid (∀ k, (Value.slice a_27_0 nO c_27_0).ownBlock = some k → w26.heap.size ≤ k ∧ k < w27.heap.size) := fun k hk => by have h := o_17_0_27.out.lt k hk; (try simp at h); omega
  have o_17_1_27 := Lib.hid o1
  obtain ⟨a_27_1, c_27_1, rfl, p1, p2, p3⟩ := own_shape o1
  clear o1 p1 p2 p3
  have lim_17_1 : Hid (∀ k, (Value.slice a_27_1 nW c_27_1).ownBlock = some k → w26.heap.size ≤ k ∧ k < w27.heap.size) := fun k hk => by have h := o_17_1_27.out.lt k hk; (try simp at h); omega
  clear h_b2_26 h_b4_26 o_7_0_26 o_7_1_26 o_11_0_26 o_11_1_26 o_14_0_26 o_15_0_26 o_16_0_26 hE_26 hx_27
  have z_b2 := fun k => cell_of_row _ _ k _ _ _ h_b2_27.out
  have l_b2 := (Array.getElem?_eq_some_iff.1 h_b2_27.out).1
  go_wp2_with fail
  refine (eqReplacement_same rT HLO.out (by omega) HLW.out (by omega) _ (own_ext o_17_0_27.out ((Ext.refl _).alloc _)) (own_ext o_17_1_27.out ((Ext.refl _).alloc _)) (own_ext o_7_0_27.out ((Ext.refl _).alloc _)) (own_ext o_7_1_27.out ((Ext.refl _).alloc _))).mono ?_
  rintro e w28 ⟨rfl, hx_28⟩
  have h_b2_28 : Hid (w28.heap[w6.heap.size]? = some (.cells #[.int .i64 rT, .slice a_6_0 nO c_6_0, .slice a_6_1 nW c_6_1] 45 (0, 0))) := heap_keep hx_28 (heap_alloc_lt h_b2_27.out)
  have h_b4_28 : Hid (w28.heap[w10.heap.size]? = some (.cells #[.int .i64 rT, .slice a_10_0 nO c_10_0, .slice a_10_1 nW c_10_1] 45 (0, 0))) := heap_keep hx_28 (heap_alloc_lt h_b4_27.out)
  have h_b5_28 : Hid (w28.heap[w27.heap.size]? = some (.cells #[.int .i64 rT, .slice a_27_0 nO c_27_0, .slice a_27_1 nW c_27_1] 45 (0, 0))) := heap_keep hx_28 (heap_alloc_new _ _)
  have o_7_0_28 := Lib.hid (own_ext (own_ext o_7_0_27.out ((Ext.refl _).alloc _)) hx_28)
  have o_7_1_28 := Lib.hid (own_ext (own_ext o_7_1_27.out ((Ext.refl _).alloc _)) hx_28)
  have o_11_0_28 := Lib.hid (own_ext (own_ext o_11_0_27.out ((Ext.refl _).alloc _)) hx_28)
  have o_11_1_28 := Lib.hid (own_ext (own_ext o_11_1_27.out ((Ext.refl _).alloc _)) hx_28)
  have o_17_0_28 := Lib.hid (own_ext (own_ext o_17_0_27.out ((Ext.refl _).alloc _)) hx_28)
  have o_17_1_28 := Lib.hid (own_ext (own_ext o_17_1_27.out ((Ext.refl _).alloc _)) hx_28)
  have hE_28 := Lib.hid (((hE_27.out.alloc _)).trans hx_28)
  have s_28 := hx_28.size
  try simp at s_28
  clear z_b2 l_b2 h_b2_27 h_b4_27 o_7_0_27 o_7_1_27 o_11_0_27 o_11_1_27 o_14_0_27 o_15_0_27 o_16_0_27 o_17_0_27 o_17_1_27 hE_27 hx_28
  have z_b4 := fun k => cell_of_row _ _ k _ _ _ h_b4_28.out
  have l_b4 := (Array.getElem?_eq_some_iff.1 h_b4_28.out).1
  go_wp2_with fail
  refine (heldReplacement_any rT (by omega) (by omega) (1) (by omega) _ o_11_0_28.out o_11_1_28.out).mono ?_
  rintro e w29 ⟨rfl, hx_29⟩
  have h_b4_29 : Hid (w29.heap[w10.heap.size]? = some (.cells #[.int .i64 rT, .slice a_10_0 nO c_10_0, .slice a_10_1 nW c_10_1] 45 (0, 0))) := heap_keep hx_29 h_b4_28.out
  have o_11_0_29 := Lib.hid (own_ext o_11_0_28.out hx_29)
  have o_11_1_29 := Lib.hid (own_ext o_11_1_28.out hx_29)
  have hE_29 := Lib.hid ((hE_28.out).trans hx_29)
  have s_29 := hx_29.size
  try simp at s_29
  clear z_b4 l_b4 h_b2_28 h_b4_28 h_b5_28 o_7_0_28 o_7_1_28 o_11_0_28 o_11_1_28 o_17_0_28 o_17_1_28 hE_28 hx_29
  go_wp2
  go_ret
  exact ⟨rfl, hE_29.out⟩

theorem law_RunReplacement_c (cs : Array Value) (x : Int) (v u : Value) {n m l : Nat} {w0 : World} (hs : Shape Try.prog w0 n 24 (Value.agg cs).cells.toList) (hi : I64 [x]) (ht : Shape Try.prog w0 m 41 v.cells.toList) (hu : Shape Try.prog w0 l 22 u.cells.toList) (w : World) (hw : w0 = w := by rfl) (hv : v.cells = #[v] := by rfl) (huv : u.cells = #[u] := by rfl) :
    Calls Try.prog 4 #[.agg cs, .int .i64 x, v, u] w fun e w' => e = .returned (.bool true) ∧ Ext w w' := by
  subst hw
  obtain ⟨q, v1, n1, xs, rfl, h1, -⟩ := circ_arg hs
  obtain ⟨m1, ys, h2⟩ := ints_slice_arg hv ht
  obtain ⟨m2, zs, h3⟩ := gates_slice_arg huv hu
  exact law_RunReplacement q x w0 h1 h2 h3

end Go.Proofs.Ytlbcjbeafampcaa
