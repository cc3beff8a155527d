/- The law on CandidatesFor. -/
import Derived.Test.YtbffcpnpdpgfeaaCdW
import Derived.Test.YtbffcpnpdpgfeaaSlRing
import Derived.Test.YtbffcpnpdpgfeaaTarget
import Derived.Test.YtbffcpnpdpgfeaaHk
import Derived.Deep.RegionHeld3
import Derived.Deep.Cut
namespace Go.Proofs.Ytbffcpnpdpgfeaa
open Go.RowKit Go.Lib
set_option linter.unusedVariables false
set_option linter.unusedSimpArgs false

theorem law_CandidatesFor_ee {a b : World} (h : a = b) : Ext a b := by subst h; exact Ext.refl _

set_option maxRecDepth 20000 in
set_option maxHeartbeats 20000000 in
theorem law_CandidatesFor (x y n : Int) (k : Int) (num : Int) (den : Int) (w : World)  :
    Calls Try.prog 3 #[.agg #[.int .i64 x, .int .i64 y, .int .i64 n], .int .i64 k, .int .i64 num, .int .i64 den] w fun e w' => e = .returned (.bool true) ∧ Ext w w' := by
  have hle := cdR_len x y n k num den
  have HS := fun   w'  => Lib.hid (s_candidatesFor_any x y n k num den w')
  have HI := fun   w'  => Lib.hid (candidatesFor_any x y n k num den w')
  generalize hnn : (cdR x y n k num den).length = nn at *
  have HLL : Hid ((fl4 (cdR x y n k num den)).length = nn * 4) := by unfold Hid; rw [fl4_len, hnn]
  generalize fl4 (cdR x y n k num den) = LL at *
  generalize cdOk x y n k num den = ok at *
  clear hnn
  go_enter Try.func3, Try.ntmps3
  go_wp2_with fail
  refine (toTarget_any x y n _).mono ?_
  rintro e w1 ⟨rfl, hx_1⟩
  have h_b1_1 : Hid (w1.heap[w.heap.size]? = some (.cells #[.int .i64 x, .int .i64 y, .int .i64 n] 23 (0, 0))) := heap_keep hx_1 (heap_alloc_new _ _)
  have hE_1 := Lib.hid ((((Ext.refl w).alloc _)).trans hx_1)
  have s_1 := hx_1.size
  try simp at s_1
  clear hx_1
  go_wp2_with fail
  refine (HS  _ ).out.mono ?_
  rintro e w2 ⟨u0, rfl, o0, hx_2⟩
  have h_b1_2 : Hid (w2.heap[w.heap.size]? = some (.cells #[.int .i64 x, .int .i64 y, .int .i64 n] 23 (0, 0))) := heap_keep hx_2 h_b1_1.out
  have hE_2 := Lib.hid ((hE_1.out).trans hx_2)
  have s_2 := hx_2.size
  try simp at s_2
  have o_1_0_2 := Lib.hid o0
  obtain ⟨a_2_0, c_2_0, rfl, p1, p2, p3⟩ := own_shape o0
  clear o0 p1 p2 p3
  have lim_1_0 : Hid (∀ k, (Value.slice a_2_0 nn c_2_0).ownBlock = some k → w1.heap.size ≤ k ∧ k < w2.heap.size) := fun k hk => by have h := o_1_0_2.out.lt k hk; (try simp at h); omega
  clear h_b1_1 hE_1 hx_2
  have z_b1 := fun k => cell_of_row _ _ k _ _ _ h_b1_2.out
  have l_b1 := (Array.getElem?_eq_some_iff.1 h_b1_2.out).1
  go_wp2_with fail
  refine (toTarget_any x y n _).mono ?_
  rintro e w3 ⟨rfl, hx_3⟩
  have h_b1_3 : Hid (w3.heap[w.heap.size]? = some (.cells #[.int .i64 x, .int .i64 y, .int .i64 n] 23 (0, 0))) := heap_keep hx_3 h_b1_2.out
  have o_1_0_3 := Lib.hid (own_ext o_1_0_2.out hx_3)
  have hE_3 := Lib.hid ((hE_2.out).trans hx_3)
  have s_3 := hx_3.size
  try simp at s_3
  clear z_b1 l_b1 h_b1_2 o_1_0_2 hE_2 hx_3
  go_wp2_with fail
  refine (HI  _ ).out.mono ?_
  rintro e w4 ⟨u0, rfl, o0, hx_4⟩
  have h_b1_4 : Hid (w4.heap[w.heap.size]? = some (.cells #[.int .i64 x, .int .i64 y, .int .i64 n] 23 (0, 0))) := heap_keep hx_4 h_b1_3.out
  have o_1_0_4 := Lib.hid (own_ext o_1_0_3.out hx_4)
  have hE_4 := Lib.hid ((hE_3.out).trans hx_4)
  have s_4 := hx_4.size
  try simp at s_4
  have o_2_0_4 := Lib.hid o0
  obtain ⟨a_4_0, c_4_0, rfl, p1, p2, p3⟩ := own_shape o0
  clear o0 p1 p2 p3
  have lim_2_0 : Hid (∀ k, (Value.slice a_4_0 nn c_4_0).ownBlock = some k → w3.heap.size ≤ k ∧ k < w4.heap.size) := fun k hk => by have h := o_2_0_4.out.lt k hk; (try simp at h); omega
  clear h_b1_3 o_1_0_3 hE_3 hx_4
  go_wp2_with fail
  refine (eqRingS_same HLL.out (by omega) _ o_2_0_4.out o_1_0_4.out).mono ?_
  rintro e w5 ⟨rfl, hx_5⟩
  have h_b1_5 : Hid (w5.heap[w.heap.size]? = some (.cells #[.int .i64 x, .int .i64 y, .int .i64 n] 23 (0, 0))) := heap_keep hx_5 h_b1_4.out
  have o_1_0_5 := Lib.hid (own_ext o_1_0_4.out hx_5)
  have o_2_0_5 := Lib.hid (own_ext o_2_0_4.out hx_5)
  have hE_5 := Lib.hid ((hE_4.out).trans hx_5)
  have s_5 := hx_5.size
  try simp at s_5
  clear h_b1_4 o_1_0_4 o_2_0_4 hE_4 hx_5
  go_wp2_with fail
  refine (markRingS_any (by rw [il_length]; exact HLL.out) (by omega) (1) (by omega) _ o_2_0_5.out).mono ?_
  rintro e w6 ⟨rfl, om_6, hg_6⟩
  have h_b1_6 : Hid (w6.heap[w.heap.size]? = some (.cells #[.int .i64 x, .int .i64 y, .int .i64 n] 23 (0, 0))) := heap_far hg_6 h_b1_5.out (fun j hj => by have := lim_2_0.out j hj; omega)
  have o_1_0_6 := Lib.hid (own_far o_1_0_5.out hg_6 (fun j hj k hk => by have := lim_2_0.out j hj; have := lim_1_0.out k hk; omega))
  have hE_6 := Lib.hid (Ext.grown (hE_5.out) hg_6 (fun k hk => by have := lim_2_0.out k hk; omega))
  have s_6 := hg_6.size
  try simp at s_6
  have o_2_0_6 := Lib.hid om_6
  clear h_b1_5 o_1_0_5 hE_5 o_2_0_5 om_6 hg_6
  go_wp2_with fail
  refine (heldRingS_any (by omega) (1) (by omega) _ o_2_0_6.out).mono ?_
  rintro e w7 ⟨rfl, hw_7⟩
  have hx_7 := law_CandidatesFor_ee hw_7
  clear hw_7
  have h_b1_7 : Hid (w7.heap[w.heap.size]? = some (.cells #[.int .i64 x, .int .i64 y, .int .i64 n] 23 (0, 0))) := heap_keep hx_7 h_b1_6.out
  have o_1_0_7 := Lib.hid (own_ext o_1_0_6.out hx_7)
  have o_2_0_7 := Lib.hid (own_ext o_2_0_6.out hx_7)
  have hE_7 := Lib.hid ((hE_6.out).trans hx_7)
  have s_7 := hx_7.size
  try simp at s_7
  clear h_b1_6 o_1_0_6 o_2_0_6 hE_6 hx_7
  have z_b1 := fun k => cell_of_row _ _ k _ _ _ h_b1_7.out
  have l_b1 := (Array.getElem?_eq_some_iff.1 h_b1_7.out).1
  go_wp2_with fail
  refine (toTarget_any x y n _).mono ?_
  rintro e w8 ⟨rfl, hx_8⟩
  have h_b1_8 : Hid (w8.heap[w.heap.size]? = some (.cells #[.int .i64 x, .int .i64 y, .int .i64 n] 23 (0, 0))) := heap_keep hx_8 h_b1_7.out
  have o_1_0_8 := Lib.hid (own_ext o_1_0_7.out hx_8)
  have o_2_0_8 := Lib.hid (own_ext o_2_0_7.out hx_8)
  have hE_8 := Lib.hid ((hE_7.out).trans hx_8)
  have s_8 := hx_8.size
  try simp at s_8
  clear z_b1 l_b1 h_b1_7 o_1_0_7 o_2_0_7 hE_7 hx_8
  go_wp2_with fail
  refine (HI  _ ).out.mono ?_
  rintro e w9 ⟨u0, rfl, o0, hx_9⟩
  have o_1_0_9 := Lib.hid (own_ext o_1_0_8.out hx_9)
  have o_2_0_9 := Lib.hid (own_ext o_2_0_8.out hx_9)
  have hE_9 := Lib.hid ((hE_8.out).trans hx_9)
  have s_9 := hx_9.size
  try simp at s_9
  have o_3_0_9 := Lib.hid o0
  obtain ⟨a_9_0, c_9_0, rfl, p1, p2, p3⟩ := own_shape o0
  clear o0 p1 p2 p3
  have lim_3_0 : Hid (∀ k, (Value.slice a_9_0 nn c_9_0).ownBlock = some k → w8.heap.size ≤ k ∧ k < w9.heap.size) := fun k hk => by have h := o_3_0_9.out.lt k hk; (try simp at h); omega
  clear h_b1_8 o_1_0_8 o_2_0_8 hE_8 hx_9
  go_wp2_with fail
  refine (eqRingS_same HLL.out (by omega) _ o_3_0_9.out o_1_0_9.out).mono ?_
  rintro e w10 ⟨rfl, hx_10⟩
  have o_1_0_10 := Lib.hid (own_ext o_1_0_9.out hx_10)
  have o_2_0_10 := Lib.hid (own_ext o_2_0_9.out hx_10)
  have o_3_0_10 := Lib.hid (own_ext o_3_0_9.out hx_10)
  have hE_10 := Lib.hid ((hE_9.out).trans hx_10)
  have s_10 := hx_10.size
  try simp at s_10
  clear o_1_0_9 o_2_0_9 o_3_0_9 hE_9 hx_10
  go_wp2_with fail
  refine (heldRingS_any (by omega) (1) (by omega) _ o_2_0_10.out).mono ?_
  rintro e w11 ⟨rfl, hw_11⟩
  have hx_11 := law_CandidatesFor_ee hw_11
  clear hw_11
  have o_2_0_11 := Lib.hid (own_ext o_2_0_10.out hx_11)
  have hE_11 := Lib.hid ((hE_10.out).trans hx_11)
  have s_11 := hx_11.size
  try simp at s_11
  clear o_1_0_10 o_2_0_10 o_3_0_10 hE_10 hx_11
  go_wp2
  go_ret
  exact ⟨rfl, hE_11.out⟩

theorem law_CandidatesFor_c (x y n k num den : Int) (w : World) :
    Calls Try.prog 3 #[.agg #[.int .i64 x, .int .i64 y, .int .i64 n], .int .i64 k, .int .i64 num, .int .i64 den] w fun e w' => e = .returned (.bool true) ∧ Ext w w' := by
  exact law_CandidatesFor x y n k num den w

end Go.Proofs.Ytbffcpnpdpgfeaa
