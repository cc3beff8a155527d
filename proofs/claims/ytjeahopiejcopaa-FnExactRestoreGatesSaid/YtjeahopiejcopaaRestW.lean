/- The law on RestoreGates. -/
import Derived.Test.YtjeahopiejcopaaRestP
import Derived.Test.YtjeahopiejcopaaRestQ
import Derived.Test.YtjeahopiejcopaaCirM
import Derived.Deep.RegionHeld3
import Derived.Deep.Cut
namespace Go.Proofs.Ytjeahopiejcopaa
open Go.RowKit Go.Lib
set_option linter.unusedVariables false
set_option linter.unusedSimpArgs false

theorem law_RestoreGates_ee {a b : World} (h : a = b) : Ext a b := by subst h; exact Ext.refl _

set_option maxRecDepth 20000 in
set_option maxHeartbeats 20000000 in
theorem law_RestoreGates {v1 : Value} {n : Nat} {xs : List Int} {v2 : Value} {m : Nat} {ys : List Int} (w : World) (h0_0 : RV w 1 v1 n xs) (h1_0 : RV w 1 v2 m ys) :
    Calls Try.prog 4 #[v1, v2] w fun e w' => e = .returned (.bool true) ∧ Ext w w' := by
  have HT0 := fun hm0 w' (hx : Ext w w') => Lib.hid (toIntS_any hm0 w' (h0_0.ext hx))
  have HL0_0 := Lib.hid h0_0.1
  have HT1 := fun hm0 w' (hx : Ext w w') => Lib.hid (toIntS_any hm0 w' (h1_0.ext hx))
  have HL1_0 := Lib.hid h1_0.1
  have hle := rgL_len xs ys n m
  have HS := fun hn hm x0_0 x1_0 w' (k0_0 : RV w' 1 x0_0 n xs) (k1_0 : RV w' 1 x1_0 m ys) => Lib.hid (s_restore_any hn hm w' k0_0 k1_0)
  have HI := fun hn hm x0_0 x1_0 w' (k0_0 : RV w' 1 x0_0 n xs) (k1_0 : RV w' 1 x1_0 m ys) => Lib.hid (restore_any hn hm w' k0_0 k1_0)
  obtain ⟨-, a1, c1, rfl, q1_0_0, q2_0_0, hh⟩ := h0_0
  clear hh
  obtain ⟨-, a2, c2, rfl, q1_1_0, q2_1_0, hh⟩ := h1_0
  clear hh
  generalize rgL xs ys n m = LL at *
  generalize hnn : LL.length / 3 = nn at *
  generalize okRg xs ys n m = ok at *
  have HLL : Hid (LL.length = nn * 3) := by unfold Hid; omega
  have hnl : nn ≤ m := by omega
  clear hnn hle
  by_cases hm0 : (n : Int) ≤ 1048576
  case neg =>
    have hgt0 : (1048576 : Int) < n := by omega
    go_enter Try.func4, Try.ntmps4
    go_wp2
    go_ret
    exact ⟨rfl, (by repeat (first | (with_reducible refine Ext.setCell ?_ (by first | (simp; done) | (simp; omega)) _) | with_reducible refine Ext.alloc ?_ _ | with_reducible refine Ext.drew ?_ | with_reducible refine Ext.drewN ?_ _ | with_reducible assumption | with_reducible exact Ext.refl _ | with_reducible refine Ext.trans ?_ (by with_reducible assumption)))⟩
  have hng0 : ¬ ((1048576 : Int) < n) := by omega
  by_cases hm1 : (m : Int) ≤ 1048576
  case neg =>
    have hgt1 : (1048576 : Int) < m := by omega
    go_enter Try.func4, Try.ntmps4
    go_wp2
    go_ret
    exact ⟨rfl, (by repeat (first | (with_reducible refine Ext.setCell ?_ (by first | (simp; done) | (simp; omega)) _) | with_reducible refine Ext.alloc ?_ _ | with_reducible refine Ext.drew ?_ | with_reducible refine Ext.drewN ?_ _ | with_reducible assumption | with_reducible exact Ext.refl _ | with_reducible refine Ext.trans ?_ (by with_reducible assumption)))⟩
  have hng1 : ¬ ((1048576 : Int) < m) := by omega
  have HT0 := HT0 (by omega)
  have HT1 := HT1 (by omega)
  have HS := HS (by omega) (by omega)
  have HI := HI (by omega) (by omega)
  go_enter Try.func4, Try.ntmps4
  go_wp2_with fail
  refine (HT0 _ (Ext.refl w)).out.mono ?_
  rintro e w1 ⟨u0, rfl, o0, hx_1⟩
  have hE_1 := Lib.hid (((Ext.refl w)).trans hx_1)
  have s_1 := hx_1.size
  try simp at s_1
  have o_3_0_1 := Lib.hid o0
  obtain ⟨a_1, c_1, rfl, p1, p2, p3⟩ := own_shape o0
  clear o0 p1 p2 p3
  have lim_3_0 : Hid (∀ k, (Value.slice a_1 n c_1).ownBlock = some k → w.heap.size ≤ k ∧ k < w1.heap.size) := fun k hk => by have h := o_3_0_1.out.lt k hk; (try simp at h); omega
  clear hx_1
  go_wp2_with fail
  refine (HT1 _ hE_1.out).out.mono ?_
  rintro e w2 ⟨u0, rfl, o0, hx_2⟩
  have o_3_0_2 := Lib.hid (own_ext o_3_0_1.out hx_2)
  have hE_2 := Lib.hid ((hE_1.out).trans hx_2)
  have s_2 := hx_2.size
  try simp at s_2
  have o_4_0_2 := Lib.hid o0
  obtain ⟨a_2, c_2, rfl, p1, p2, p3⟩ := own_shape o0
  clear o0 p1 p2 p3
  have lim_4_0 : Hid (∀ k, (Value.slice a_2 m c_2).ownBlock = some k → w1.heap.size ≤ k ∧ k < w2.heap.size) := fun k hk => by have h := o_4_0_2.out.lt k hk; (try simp at h); omega
  clear o_3_0_1 hE_1 hx_2
  go_wp2_with fail
  refine (HS _ _ _ (RV.own o_3_0_2.out HL0_0.out) (RV.own o_4_0_2.out HL1_0.out)).out.mono ?_
  rintro e w3 ⟨u0, rfl, o0, hx_3⟩
  have o_3_0_3 := Lib.hid (own_ext o_3_0_2.out hx_3)
  have o_4_0_3 := Lib.hid (own_ext o_4_0_2.out hx_3)
  have hE_3 := Lib.hid ((hE_2.out).trans hx_3)
  have s_3 := hx_3.size
  try simp at s_3
  have o_5_0_3 := Lib.hid o0
  obtain ⟨a_3_0, c_3_0, rfl, p1, p2, p3⟩ := own_shape o0
  clear o0 p1 p2 p3
  have lim_5_0 : Hid (∀ k, (Value.slice a_3_0 nn c_3_0).ownBlock = some k → w2.heap.size ≤ k ∧ k < w3.heap.size) := fun k hk => by have h := o_5_0_3.out.lt k hk; (try simp at h); omega
  clear o_3_0_2 o_4_0_2 hE_2 hx_3
  go_wp2_with fail
  refine (HT0 _ hE_3.out).out.mono ?_
  rintro e w4 ⟨u0, rfl, o0, hx_4⟩
  have o_5_0_4 := Lib.hid (own_ext o_5_0_3.out hx_4)
  have hE_4 := Lib.hid ((hE_3.out).trans hx_4)
  have s_4 := hx_4.size
  try simp at s_4
  have o_6_0_4 := Lib.hid o0
  obtain ⟨a_4, c_4, rfl, p1, p2, p3⟩ := own_shape o0
  clear o0 p1 p2 p3
  have lim_6_0 : Hid (∀ k, (Value.slice a_4 n c_4).ownBlock = some k → w3.heap.size ≤ k ∧ k < w4.heap.size) := fun k hk => by have h := o_6_0_4.out.lt k hk; (try simp at h); omega
  clear o_3_0_3 o_4_0_3 o_5_0_3 hE_3 hx_4
  go_wp2_with fail
  refine (HT1 _ hE_4.out).out.mono ?_
  rintro e w5 ⟨u0, rfl, o0, hx_5⟩
  have o_5_0_5 := Lib.hid (own_ext o_5_0_4.out hx_5)
  have o_6_0_5 := Lib.hid (own_ext o_6_0_4.out hx_5)
  have hE_5 := Lib.hid ((hE_4.out).trans hx_5)
  have s_5 := hx_5.size
  try simp at s_5
  have o_7_0_5 := Lib.hid o0
  obtain ⟨a_5, c_5, rfl, p1, p2, p3⟩ := own_shape o0
  clear o0 p1 p2 p3
  have lim_7_0 : Hid (∀ k, (Value.slice a_5 m c_5).ownBlock = some k → w4.heap.size ≤ k ∧ k < w5.heap.size) := fun k hk => by have h := o_7_0_5.out.lt k hk; (try simp at h); omega
  clear o_5_0_4 o_6_0_4 hE_4 hx_5
  go_wp2_with fail
  refine (HI _ _ _ (RV.own o_6_0_5.out HL0_0.out) (RV.own o_7_0_5.out HL1_0.out)).out.mono ?_
  rintro e w6 ⟨u0, rfl, o0, hx_6⟩
  have o_5_0_6 := Lib.hid (own_ext o_5_0_5.out hx_6)
  have o_6_0_6 := Lib.hid (own_ext o_6_0_5.out hx_6)
  have o_7_0_6 := Lib.hid (own_ext o_7_0_5.out hx_6)
  have hE_6 := Lib.hid ((hE_5.out).trans hx_6)
  have s_6 := hx_6.size
  try simp at s_6
  have o_8_0_6 := Lib.hid o0
  obtain ⟨a_6_0, c_6_0, rfl, p1, p2, p3⟩ := own_shape o0
  clear o0 p1 p2 p3
  have lim_8_0 : Hid (∀ k, (Value.slice a_6_0 nn c_6_0).ownBlock = some k → w5.heap.size ≤ k ∧ k < w6.heap.size) := fun k hk => by have h := o_8_0_6.out.lt k hk; (try simp at h); omega
  clear o_5_0_5 o_6_0_5 o_7_0_5 hE_5 hx_6
  go_wp2_with fail
  refine (eqGateS_same HLL.out (by omega) _ o_8_0_6.out o_5_0_6.out).mono ?_
  rintro e w7 ⟨rfl, hx_7⟩
  have o_5_0_7 := Lib.hid (own_ext o_5_0_6.out hx_7)
  have o_6_0_7 := Lib.hid (own_ext o_6_0_6.out hx_7)
  have o_7_0_7 := Lib.hid (own_ext o_7_0_6.out hx_7)
  have o_8_0_7 := Lib.hid (own_ext o_8_0_6.out hx_7)
  have hE_7 := Lib.hid ((hE_6.out).trans hx_7)
  have s_7 := hx_7.size
  try simp at s_7
  clear o_5_0_6 o_6_0_6 o_7_0_6 o_8_0_6 hE_6 hx_7
  go_wp2_with fail
  refine (HT0 _ hE_7.out).out.mono ?_
  rintro e w8 ⟨u0, rfl, o0, hx_8⟩
  have o_5_0_8 := Lib.hid (own_ext o_5_0_7.out hx_8)
  have o_6_0_8 := Lib.hid (own_ext o_6_0_7.out hx_8)
  have o_7_0_8 := Lib.hid (own_ext o_7_0_7.out hx_8)
  have o_8_0_8 := Lib.hid (own_ext o_8_0_7.out hx_8)
  have hE_8 := Lib.hid ((hE_7.out).trans hx_8)
  have s_8 := hx_8.size
  try simp at s_8
  have o_9_0_8 := Lib.hid o0
  obtain ⟨a_8, c_8, rfl, p1, p2, p3⟩ := own_shape o0
  clear o0 p1 p2 p3
  have lim_9_0 : Hid (∀ k, (Value.slice a_8 n c_8).ownBlock = some k → w7.heap.size ≤ k ∧ k < w8.heap.size) := fun k hk => by have h := o_9_0_8.out.lt k hk; (try simp at h); omega
  clear o_5_0_7 o_6_0_7 o_7_0_7 o_8_0_7 hE_7 hx_8
  go_wp2_with fail
  refine (eqIntS_same HL0_0.out (by omega) _ o_6_0_8.out o_9_0_8.out).mono ?_
  rintro e w9 ⟨rfl, hx_9⟩
  have o_5_0_9 := Lib.hid (own_ext o_5_0_8.out hx_9)
  have o_6_0_9 := Lib.hid (own_ext o_6_0_8.out hx_9)
  have o_7_0_9 := Lib.hid (own_ext o_7_0_8.out hx_9)
  have o_8_0_9 := Lib.hid (own_ext o_8_0_8.out hx_9)
  have o_9_0_9 := Lib.hid (own_ext o_9_0_8.out hx_9)
  have hE_9 := Lib.hid ((hE_8.out).trans hx_9)
  have s_9 := hx_9.size
  try simp at s_9
  clear o_5_0_8 o_6_0_8 o_7_0_8 o_8_0_8 o_9_0_8 hE_8 hx_9
  go_wp2_with fail
  refine (HT1 _ hE_9.out).out.mono ?_
  rintro e w10 ⟨u0, rfl, o0, hx_10⟩
  have o_5_0_10 := Lib.hid (own_ext o_5_0_9.out hx_10)
  have o_6_0_10 := Lib.hid (own_ext o_6_0_9.out hx_10)
  have o_7_0_10 := Lib.hid (own_ext o_7_0_9.out hx_10)
  have o_8_0_10 := Lib.hid (own_ext o_8_0_9.out hx_10)
  have hE_10 := Lib.hid ((hE_9.out).trans hx_10)
  have s_10 := hx_10.size
  try simp at s_10
  have o_10_0_10 := Lib.hid o0
  obtain ⟨a_10, c_10, rfl, p1, p2, p3⟩ := own_shape o0
  clear o0 p1 p2 p3
  have lim_10_0 : Hid (∀ k, (Value.slice a_10 m c_10).ownBlock = some k → w9.heap.size ≤ k ∧ k < w10.heap.size) := fun k hk => by have h := o_10_0_10.out.lt k hk; (try simp at h); omega
  clear o_5_0_9 o_6_0_9 o_7_0_9 o_8_0_9 o_9_0_9 hE_9 hx_10
  go_wp2_with fail
  refine (eqIntS_same HL1_0.out (by omega) _ o_7_0_10.out o_10_0_10.out).mono ?_
  rintro e w11 ⟨rfl, hx_11⟩
  have o_5_0_11 := Lib.hid (own_ext o_5_0_10.out hx_11)
  have o_6_0_11 := Lib.hid (own_ext o_6_0_10.out hx_11)
  have o_7_0_11 := Lib.hid (own_ext o_7_0_10.out hx_11)
  have o_8_0_11 := Lib.hid (own_ext o_8_0_10.out hx_11)
  have o_10_0_11 := Lib.hid (own_ext o_10_0_10.out hx_11)
  have hE_11 := Lib.hid ((hE_10.out).trans hx_11)
  have s_11 := hx_11.size
  try simp at s_11
  clear o_5_0_10 o_6_0_10 o_7_0_10 o_8_0_10 o_10_0_10 hE_10 hx_11
  go_wp2_with fail
  refine (markIntS_any (by rw [il_length]; exact HL0_0.out) (by omega) (1) (by omega) _ o_6_0_11.out).mono ?_
  rintro e w12 ⟨rfl, om_12, hg_12⟩
  have o_5_0_12 := Lib.hid (own_far o_5_0_11.out hg_12 (fun j hj k hk => by have := lim_6_0.out j hj; have := lim_5_0.out k hk; omega))
  have o_7_0_12 := Lib.hid (own_far o_7_0_11.out hg_12 (fun j hj k hk => by have := lim_6_0.out j hj; have := lim_7_0.out k hk; omega))
  have o_8_0_12 := Lib.hid (own_far o_8_0_11.out hg_12 (fun j hj k hk => by have := lim_6_0.out j hj; have := lim_8_0.out k hk; omega))
  have hE_12 := Lib.hid (Ext.grown (hE_11.out) hg_12 (fun k hk => by have := lim_6_0.out k hk; omega))
  have s_12 := hg_12.size
  try simp at s_12
  have o_6_0_12 := Lib.hid om_12
  clear o_5_0_11 o_7_0_11 o_8_0_11 o_10_0_11 hE_11 o_6_0_11 om_12 hg_12
  go_wp2_with fail
  refine (markIntS_any (by rw [il_length]; exact HL1_0.out) (by omega) (1 + (n : Int)) (by omega) _ o_7_0_12.out).mono ?_
  rintro e w13 ⟨rfl, om_13, hg_13⟩
  have o_5_0_13 := Lib.hid (own_far o_5_0_12.out hg_13 (fun j hj k hk => by have := lim_7_0.out j hj; have := lim_5_0.out k hk; omega))
  have o_8_0_13 := Lib.hid (own_far o_8_0_12.out hg_13 (fun j hj k hk => by have := lim_7_0.out j hj; have := lim_8_0.out k hk; omega))
  have hE_13 := Lib.hid (Ext.grown (hE_12.out) hg_13 (fun k hk => by have := lim_7_0.out k hk; omega))
  have s_13 := hg_13.size
  try simp at s_13
  have o_7_0_13 := Lib.hid om_13
  clear o_5_0_12 o_6_0_12 o_8_0_12 hE_12 o_7_0_12 om_13 hg_13
  go_wp2_with fail
  refine (eqGateS_same HLL.out (by omega) _ o_8_0_13.out o_5_0_13.out).mono ?_
  rintro e w14 ⟨rfl, hx_14⟩
  have o_5_0_14 := Lib.hid (own_ext o_5_0_13.out hx_14)
  have o_8_0_14 := Lib.hid (own_ext o_8_0_13.out hx_14)
  have hE_14 := Lib.hid ((hE_13.out).trans hx_14)
  have s_14 := hx_14.size
  try simp at s_14
  clear o_5_0_13 o_7_0_13 o_8_0_13 hE_13 hx_14
  go_wp2_with fail
  refine (markGateS_any (by rw [il_length]; exact HLL.out) (by omega) (1) (by omega) _ o_8_0_14.out).mono ?_
  rintro e w15 ⟨rfl, om_15, hg_15⟩
  have o_5_0_15 := Lib.hid (own_far o_5_0_14.out hg_15 (fun j hj k hk => by have := lim_8_0.out j hj; have := lim_5_0.out k hk; omega))
  have hE_15 := Lib.hid (Ext.grown (hE_14.out) hg_15 (fun k hk => by have := lim_8_0.out k hk; omega))
  have s_15 := hg_15.size
  try simp at s_15
  have o_8_0_15 := Lib.hid om_15
  clear o_5_0_14 hE_14 o_8_0_14 om_15 hg_15
  go_wp2_with fail
  refine (heldGateS_any (by omega) (1) (by omega) _ o_8_0_15.out).mono ?_
  rintro e w16 ⟨rfl, hw_16⟩
  have hx_16 := law_RestoreGates_ee hw_16
  clear hw_16
  have o_5_0_16 := Lib.hid (own_ext o_5_0_15.out hx_16)
  have o_8_0_16 := Lib.hid (own_ext o_8_0_15.out hx_16)
  have hE_16 := Lib.hid ((hE_15.out).trans hx_16)
  have s_16 := hx_16.size
  try simp at s_16
  clear o_5_0_15 o_8_0_15 hE_15 hx_16
  go_wp2_with fail
  refine (HT0 _ hE_16.out).out.mono ?_
  rintro e w17 ⟨u0, rfl, o0, hx_17⟩
  have o_5_0_17 := Lib.hid (own_ext o_5_0_16.out hx_17)
  have o_8_0_17 := Lib.hid (own_ext o_8_0_16.out hx_17)
  have hE_17 := Lib.hid ((hE_16.out).trans hx_17)
  have s_17 := hx_17.size
  try simp at s_17
  have o_11_0_17 := Lib.hid o0
  obtain ⟨a_17, c_17, rfl, p1, p2, p3⟩ := own_shape o0
  clear o0 p1 p2 p3
  have lim_11_0 : Hid (∀ k, (Value.slice a_17 n c_17).ownBlock = some k → w16.heap.size ≤ k ∧ k < w17.heap.size) := fun k hk => by have h := o_11_0_17.out.lt k hk; (try simp at h); omega
  clear o_5_0_16 o_8_0_16 hE_16 hx_17
  go_wp2_with fail
  refine (HT1 _ hE_17.out).out.mono ?_
  rintro e w18 ⟨u0, rfl, o0, hx_18⟩
  have o_5_0_18 := Lib.hid (own_ext o_5_0_17.out hx_18)
  have o_8_0_18 := Lib.hid (own_ext o_8_0_17.out hx_18)
  have o_11_0_18 := Lib.hid (own_ext o_11_0_17.out hx_18)
  have hE_18 := Lib.hid ((hE_17.out).trans hx_18)
  have s_18 := hx_18.size
  try simp at s_18
  have o_12_0_18 := Lib.hid o0
  obtain ⟨a_18, c_18, rfl, p1, p2, p3⟩ := own_shape o0
  clear o0 p1 p2 p3
  have lim_12_0 : Hid (∀ k, (Value.slice a_18 m c_18).ownBlock = some k → w17.heap.size ≤ k ∧ k < w18.heap.size) := fun k hk => by have h := o_12_0_18.out.lt k hk; (try simp at h); omega
  clear o_5_0_17 o_8_0_17 o_11_0_17 hE_17 hx_18
  go_wp2_with fail
  refine (HI _ _ _ (RV.own o_11_0_18.out HL0_0.out) (RV.own o_12_0_18.out HL1_0.out)).out.mono ?_
  rintro e w19 ⟨u0, rfl, o0, hx_19⟩
  have o_5_0_19 := Lib.hid (own_ext o_5_0_18.out hx_19)
  have o_8_0_19 := Lib.hid (own_ext o_8_0_18.out hx_19)
  have o_11_0_19 := Lib.hid (own_ext o_11_0_18.out hx_19)
  have o_12_0_19 := Lib.hid (own_ext o_12_0_18.out hx_19)
  have hE_19 := Lib.hid ((hE_18.out).trans hx_19)
  have s_19 := hx_19.size
  try simp at s_19
  have o_13_0_19 := Lib.hid o0
  obtain ⟨a_19_0, c_19_0, rfl, p1, p2, p3⟩ := own_shape o0
  clear o0 p1 p2 p3
  have lim_13_0 : Hid (∀ k, (Value.slice a_19_0 nn c_19_0).ownBlock = some k → w18.heap.size ≤ k ∧ k < w19.heap.size) := fun k hk => by have h := o_13_0_19.out.lt k hk; (try simp at h); omega
  clear o_5_0_18 o_8_0_18 o_11_0_18 o_12_0_18 hE_18 hx_19
  go_wp2_with fail
  refine (eqGateS_same HLL.out (by omega) _ o_13_0_19.out o_5_0_19.out).mono ?_
  rintro e w20 ⟨rfl, hx_20⟩
  have o_5_0_20 := Lib.hid (own_ext o_5_0_19.out hx_20)
  have o_8_0_20 := Lib.hid (own_ext o_8_0_19.out hx_20)
  have o_13_0_20 := Lib.hid (own_ext o_13_0_19.out hx_20)
  have hE_20 := Lib.hid ((hE_19.out).trans hx_20)
  have s_20 := hx_20.size
  try simp at s_20
  clear o_5_0_19 o_8_0_19 o_11_0_19 o_12_0_19 o_13_0_19 hE_19 hx_20
  go_wp2_with fail
  refine (heldGateS_any (by omega) (1) (by omega) _ o_8_0_20.out).mono ?_
  rintro e w21 ⟨rfl, hw_21⟩
  have hx_21 := law_RestoreGates_ee hw_21
  clear hw_21
  have o_8_0_21 := Lib.hid (own_ext o_8_0_20.out hx_21)
  have hE_21 := Lib.hid ((hE_20.out).trans hx_21)
  have s_21 := hx_21.size
  try simp at s_21
  clear o_5_0_20 o_8_0_20 o_13_0_20 hE_20 hx_21
  go_wp2
  go_ret
  exact ⟨rfl, hE_21.out⟩

theorem law_RestoreGates_c (v : Value) (u : Value) {n m : Nat} {w0 : World} (hs : Shape Try.prog w0 n 33 v.cells.toList) (ht : Shape Try.prog w0 m 33 u.cells.toList) (w : World) (hw : w0 = w := by rfl) (hv : v.cells = #[v] := by rfl) (hu : u.cells = #[u] := by rfl) :
    Calls Try.prog 4 #[v, u] w fun e w' => e = .returned (.bool true) ∧ Ext w w' := by
  subst hw
  obtain ⟨m1, xs, h1⟩ := ints_slice_arg hv hs
  obtain ⟨m2, ys, h2⟩ := ints_slice_arg hu ht
  exact law_RestoreGates w0 h1 h2

end Go.Proofs.Ytjeahopiejcopaa
