/- The grid: the reference's points. -/
import Derived.Test.YtojoljffaedpfaaGrdU
import Derived.Test.YtojoljffaedpfaaGrdP
namespace Go.Proofs.Ytojoljffaedpfaa
open Go.RowKit Go.Lib
set_option linter.unusedVariables false
set_option linter.unusedSimpArgs false

theorem put_perm {L M : List (Int × Int)} {x : Int × Int} (h : Put2 L x M) : M.Perm (L ++ [x]) := by
  obtain ⟨k, -, rfl, -⟩ := h
  have h1 : (L.take k ++ x :: L.drop k).Perm (x :: (L.take k ++ L.drop k)) := List.perm_middle
  rw [List.take_append_drop] at h1
  exact h1.trans (List.perm_append_singleton x L).symm
theorem put_sorted {L M : List (Int × Int)} {x : Int × Int} (h : Put2 L x M) (hs : L.Pairwise ltK) (hb : ∀ y ∈ L, Bnd y) (hx : Bnd x) (hn : x ∉ L) : M.Pairwise ltK := by
  obtain ⟨k, hk, rfl, h1, h2⟩ := h
  refine pw_insert (by rw [List.take_append_drop]; exact hs) (fun y hy => ?_) (fun y hy => h1 y hy)
  rcases h2 with rfl | ⟨hl, h3⟩
  · simp at hy
  · have hyL := List.mem_of_mem_take hy
    have hne : ¬ ky y.1 y.2 = ky x.1 x.2 := fun e => hn (ky_inj (hb y hyL) hx e ▸ hyL)
    have hle : ky y.1 y.2 ≤ ky L[k - 1].1 L[k - 1].2 := by
      obtain ⟨i, hi, rfl⟩ := List.getElem_of_mem hy
      rw [List.length_take] at hi
      rw [List.getElem_take]
      rcases Nat.lt_or_ge i (k - 1) with h4 | h4
      · have := List.pairwise_iff_getElem.1 hs i (k - 1) (by omega) hl h4
        unfold ltK at this
        omega
      · obtain rfl : i = k - 1 := by omega
        omega
    show ky y.1 y.2 < ky x.1 x.2
    omega
theorem inv_perm {S D : Int × Int → Prop} {L M : List (Int × Int)} {K : Int} (h : Inv S D L K) (hp : M.Perm L) : Inv S D M K :=
  ⟨fun x => hp.mem_iff.trans (h.1 x), hp.nodup_iff.2 h.2.1, by rw [hp.length_eq]; exact h.2.2⟩

theorem rt2_bd2 (q : Int) (h : -760000 ≤ q ∧ q ≤ 760000) : -1100000 ≤ rt2 q ∧ rt2 q ≤ 1100000 := by
  have := rt2_ky q (by omega)
  omega
set_option maxRecDepth 20000 in
set_option maxHeartbeats 4000000 in
theorem l25Points_any {lo hi den lo' hi' den' : Int} (ra : Rng lo hi den = true) (rb : Rng lo' hi' den' = true) (w : World) :
    Calls Try.prog 34 #[.agg #[.int .i64 lo, .int .i64 hi, .int .i64 den], .agg #[.int .i64 lo', .int .i64 hi', .int .i64 den']] w fun e w' => ∃ v, e = .returned v ∧
      w'.ownsRow w.heap.size 34 2 v (gpL lo hi den lo' hi' den').length (IL (fl2 (gpL lo hi den lo' hi' den'))) ∧ (gpL lo hi den lo' hi' den').length ≤ 30000 ∧ Ext w w' := by
  have HQ := Lib.hid (fun x (hs : Sol 1 lo hi den lo' hi' den' x) => ref_q ra rb hs)
  have HP := Lib.hid (fun x (hs : Sol 1 lo hi den lo' hi' den' x) => ref_p ra rb hs)
  have hAB := rAB_bd ra rb
  obtain ⟨⟨b1, b2, b3, b4⟩, ⟨b5, b6⟩, b7, b8⟩ := ref_bd ra rb
  obtain ⟨d1, d2, d3, d4, d5, d6, d7, d8⟩ := Rng_bd ra
  obtain ⟨g1, g2, g3, g4, g5, g6, g7, g8⟩ := Rng_bd rb
  have HFa := fun w => Lib.hid (l25Floor_any lo den (by omega) ⟨d1, d2⟩ w)
  have HFb := fun w => Lib.hid (l25Floor_any hi' den' (by omega) ⟨g1, g2⟩ w)
  have HFc := fun w => Lib.hid (l25Floor_any hi den (by omega) ⟨d1, d2⟩ w)
  have HFd := fun w => Lib.hid (l25Floor_any lo' den' (by omega) ⟨g1, g2⟩ w)
  have HR1 := fun w => Lib.hid (l25Root_any (lo / den - hi' / den' - 1) (by omega) w)
  have HR2 := fun w => Lib.hid (l25Root_any (hi / den + 1 - lo' / den') (by omega) w)
  have r1 := rt2_bd (lo / den - hi' / den' - 1) (by omega)
  have r2 := rt2_bd (hi / den + 1 - lo' / den') (by omega)
  have HQ1 := fun w => Lib.hid (l25Floor_any (rt2 (lo / den - hi' / den' - 1)) 4 (by omega) (by decide) w)
  have HQ2 := fun w => Lib.hid (l25Floor_any (rt2 (hi / den + 1 - lo' / den')) 4 (by omega) (by decide) w)
  have HRq := fun q (h : -2100000 ≤ q ∧ q ≤ 2100000) w => Lib.hid (l25Root_any q h w)
  have HIa := fun p q (hp : -4000000 ≤ p ∧ p ≤ 4000000) (hq : -1000000 ≤ q ∧ q ≤ 1000000) w => Lib.hid (l25In_any p q lo hi den (rng_fine (by decide) (by decide) ra hp hq) w)
  have HIb := fun p q (hp : -4000000 ≤ p ∧ p ≤ 4000000) (hq : -1000000 ≤ q ∧ q ≤ 1000000) w => Lib.hid (l25In_any p q lo' hi' den' (rng_fine (by decide) (by decide) rb hp hq) w)
  have hf : rt2 (lo / den - hi' / den' - 1) / 4 - 1 = rA lo den hi' den' := rfl
  have hl : rt2 (hi / den + 1 - lo' / den') / 4 + 1 = rB hi den lo' den' := rfl
  generalize hF : lo / den = F at *
  generalize hG : hi' / den' = G at *
  generalize hF' : hi / den = F' at *
  generalize hG' : lo' / den' = G' at *
  have hv1 : -2000001 ≤ F - G - 1 := by omega
  have hv2 : F - G - 1 ≤ 2000001 := by omega
  have hv3 : -2000001 ≤ F' + 1 - G' := by omega
  have hv4 : F' + 1 - G' ≤ 2000001 := by omega
  generalize rt2 (F - G - 1) = R1 at *
  generalize rt2 (F' + 1 - G') = R2 at *
  generalize rA lo den hi' den' = f at *
  generalize rB hi den lo' den' = l at *
  obtain ⟨t1, t2, t3⟩ := hAB
  have hf' := Lib.hid hf
  have hl' := Lib.hid hl
  have r3 : -750001 ≤ R1 / 4 ∧ R1 / 4 ≤ 750000 ∧ -750001 ≤ R2 / 4 ∧ R2 / 4 ≤ 750000 := by omega
  generalize R1 / 4 = Q1 at *
  generalize R2 / 4 = Q2 at *
  have u1 : f ≤ 760000 := by omega
  have u2 : -760000 ≤ l := by omega
  have hq1 : -760001 ≤ Q1 := by omega
  have hq2 : Q1 ≤ 760001 := by omega
  have hq3 : -760001 ≤ Q2 := by omega
  have hq4 : Q2 ≤ 760001 := by omega
  clear hf' hl' hF hG hF' hG' r1 r2 ra rb
  have i1 : IntKind.i64.wrap (F - G) = F - G := IntWalk.i64_in _ (by omega)
  have i2 : IntKind.i64.wrap (F - G - 1) = F - G - 1 := IntWalk.i64_in _ (by omega)
  have i3 : IntKind.i64.wrap (F' + 1) = F' + 1 := IntWalk.i64_in _ (by omega)
  have i4 : IntKind.i64.wrap (F' + 1 - G') = F' + 1 - G' := IntWalk.i64_in _ (by omega)
  go_enter Try.func34, Try.ntmps34
  go_wp2
  refine wp_region_madeC (m := 86) (by kernel_rfl) (by kernel_rfl) rfl (fun hxc => ?_)
  repeat (refine mw_quiet ?_; apply Exists.intro; refine ⟨fun σ => ?_, ?_⟩; (first | (go_simp; rfl) | (go_simp; intro x; first | (go_at_call 62; with_reducible exact calls_ext ((HFa _).out)) | (go_at_call 62; with_reducible exact calls_ext ((HFb _).out)) | (go_at_call 62; exact calls_ext ((HFa _).out)) | (go_at_call 62; exact calls_ext ((HFb _).out)))); simp only [Act.put, List.setIfInBounds_toArray, List.set_cons_succ, List.set_cons_zero, List.nil_append, List.cons_append])
  refine ⟨by kernel_rfl, fun σ w1 hF1 => ?_⟩
  have hx1 := hF1.ext
  clear hF1 hxc
  obtain ⟨hc1, hf1⟩ := hx1.cells
  have hz1 := hx1.size
  try simp at hz1
  have hs1_0 := sz2 (a := w.heap.size) (b := w1.heap.size) (by omega)
  go_wp2
  refine wp_region_madeC (m := 86) (by kernel_rfl) (by kernel_rfl) rfl (fun hxc => ?_)
  repeat (refine mw_quiet ?_; apply Exists.intro; refine ⟨fun σ => ?_, ?_⟩; (first | (go_simp; rfl) | (go_simp; intro x; first | (go_at_call 62; with_reducible exact calls_ext ((HFc _).out)) | (go_at_call 62; with_reducible exact calls_ext ((HFd _).out)) | (go_at_call 62; exact calls_ext ((HFc _).out)) | (go_at_call 62; exact calls_ext ((HFd _).out)))); simp only [Act.put, List.setIfInBounds_toArray, List.set_cons_succ, List.set_cons_zero, List.nil_append, List.cons_append])
  refine ⟨by kernel_rfl, fun σ w2 hF2 => ?_⟩
  have hx2 := hF2.ext
  clear hF2 hxc
  obtain ⟨hc2, hf2⟩ := hx2.cells
  have hz2 := hx2.size
  try simp at hz2
  have hs2_0 := sz2 (a := w.heap.size) (b := w2.heap.size) (by omega)
  have hE2 : Ext w w2 := (by repeat (first | (with_reducible refine Ext.setCell ?_ (by first | (simp; done) | (simp; omega)) _) | with_reducible refine Ext.alloc ?_ _ | with_reducible refine Ext.drew ?_ | with_reducible refine Ext.drewN ?_ _ | with_reducible assumption | with_reducible exact Ext.refl _ | with_reducible refine Ext.trans ?_ (by with_reducible assumption)))
  have hA2 : Hid (w2.heap[w.heap.size]? = some (.cells #[.int .i64 lo, .int .i64 hi, .int .i64 den] 27 (0, 0))) := (hx2.heap (by omega)).trans ((hx1.heap (by simp; omega)).trans (heap_alloc_lt (heap_alloc_new _ _)))
  have hB2 : Hid (w2.heap[w.heap.size + 1]? = some (.cells #[.int .i64 lo', .int .i64 hi', .int .i64 den'] 27 (0, 0))) := (hx2.heap (by omega)).trans ((hx1.heap (by simp)).trans (heap_alloc_at _ _ _ (by simp)))
  have hs2 : w.heap.size + 2 ≤ w2.heap.size := by omega
  clear hx1 hx2 hc1 hf1 hc2 hf2 hs1_0 hs2_0 hz1 hz2 i1 i2 i3 i4
  go_wp2_with fail
  refine (HR1 _).out.mono ?_
  rintro e w' ⟨rfl, rfl⟩
  go_wp2_with fail
  refine (HQ1 _).out.mono ?_
  rintro e w' ⟨rfl, rfl⟩
  go_wp2
  go_loopw [5, 8, 9, 10] (fun s5 i _ _ wr => ∃ (q : Int) (v : Value) (L : List (Int × Int)), f ≤ q ∧ (q = f ∨ q ≤ l + 1) ∧ i = .int .i64 q ∧ s5 = v ∧ Hid (wr.ownsRow w.heap.size 34 2 v L.length (IL (fl2 L))) ∧ Hid (L.Pairwise ltK) ∧ Hid (Inv (Sol 1 lo hi den lo' hi' den') (DO q) L ((q - f) * 60)) ∧ Ext w2 wr) (fun _ i _ _ _ => (l + 1 - intOf i).toNat)
  case atStart => exact ⟨f, _, [], by omega, by omega, rfl, rfl, own_nil _ _ _ _, List.Pairwise.nil, by unfold Hid; rw [Int.sub_self, Int.zero_mul]; exact inv_start (fun x hx => (HQ.out x hx).1), Ext.refl _⟩
  case round =>
    obtain ⟨q, v, L, hfq, hql, rfl, rfl, HW, HS, HI, hE⟩ := hrel
    obtain ⟨av, cv, rfl, hc1', hc2', _⟩ := own_shape HW.out
    have hA := Lib.hid ((hE.heap (by omega)).trans hA2.out)
    have hB := Lib.hid ((hE.heap (by omega)).trans hB2.out)
    have HE := Lib.hid (hE2.trans hE)
    have HEr := Lib.hid hE
    have zA := fun k => cell_of_row _ _ k _ _ _ hA.out
    have lA := (Array.getElem?_eq_some_iff.1 hA.out).1
    by_cases hlt : q ≤ l
    case neg =>
      go_wp2_with fail
      refine (HR2 _).out.mono ?_
      rintro e w' ⟨rfl, rfl⟩
      go_wp2_with fail
      refine (HQ2 _).out.mono ?_
      rintro e w' ⟨rfl, rfl⟩
      go_wp2
      go_ret
      have hL : L = gpL lo hi den lo' hi' den' := theL_eq ltK_irr ltK_tr HS.out (fun x => (HI.out.1 x).trans ⟨fun k => k.1, fun k => ⟨k, by have := (HQ.out x k).2; unfold DO; omega⟩⟩)
      have h3 := HI.out.2.2
      rw [← hL]
      exact ⟨_, rfl, HW.out, by omega, HE.out⟩
    have HRr := HRq q (by omega)
    have HPq := Lib.hid (fun x (hx : x.2 = q) (hs : Sol 1 lo hi den lo' hi' den' x) => hx ▸ HP.out x hs)
    have rb1 := rt2_bd2 q (by omega)
    generalize rt2 q = r at *
    go_wp2_with fail
    refine (HR2 _).out.mono ?_
    rintro e w' ⟨rfl, rfl⟩
    go_wp2_with fail
    refine (HQ2 _).out.mono ?_
    rintro e w' ⟨rfl, rfl⟩
    go_wp2_with fail
    refine (HRr _).out.mono ?_
    rintro e w' ⟨rfl, rfl⟩
    go_wp2_with fail
    refine (HFa _).out.mono ?_
    rintro e w' ⟨rfl, rfl⟩
    go_wp2
    clear zA lA
    go_loopw [5, 10] (fun s5 i wr => ∃ (p : Int) (v : Value) (L : List (Int × Int)), F - r - 2 ≤ p ∧ (p = F - r - 2 ∨ p ≤ F' - r + 3) ∧ i = .int .i64 p ∧ s5 = v ∧ Hid (wr.ownsRow w.heap.size 34 2 v L.length (IL (fl2 L))) ∧ Hid (L.Pairwise ltK) ∧ Hid (Inv (Sol 1 lo hi den lo' hi' den') (DI q p) L ((q - f) * 60 + (p - (F - r - 2)))) ∧ Ext w2 wr) (fun _ i _ => (F' - r + 3 - intOf i).toNat)
    case atStart => exact ⟨F - r - 2, _, L, by omega, by omega, rfl, rfl, HW, HS, by unfold Hid; rw [Int.sub_self, Int.add_zero]; exact inv_in HI.out (fun x hx hs => (HPq.out x hx hs).1), HEr.out⟩
    case round =>
      obtain ⟨p, v, L, hap, hpb, rfl, rfl, HW, HS, HJ, hE3⟩ := hrel
      obtain ⟨av, cv, rfl, hc1', hc2', _⟩ := own_shape HW.out
      have hA3 := Lib.hid ((hE3.heap (by omega)).trans hA2.out)
      have hB3 := Lib.hid ((hE3.heap (by omega)).trans hB2.out)
      have zA := fun k => cell_of_row _ _ k _ _ _ hA3.out
      have lA := (Array.getElem?_eq_some_iff.1 hA3.out).1
      have HE3 := Lib.hid (hE2.trans hE3)
      have hLn : L.length ≤ 30000 := by have := HJ.out.2.2; omega
      by_cases hpt : p ≤ F' - r + 2
      case neg =>
        go_wp2_with fail
        refine (HFc _).out.mono ?_
        rintro e w' ⟨rfl, rfl⟩
        go_wp2
        go_roundw
        case rel => exact ⟨q + 1, _, L, by omega, by omega, by go_num, rfl, HW, HS, by unfold Hid; exact inv_out HJ.out (fun x hx hs => (HPq.out x hx hs).2) (by omega) (by omega), hE3⟩
        case measure => simp [intOf]; omega
      have hIa := HIa p q (by omega) (by omega)
      have hIb := HIb p (-q) (by omega) (by omega)
      have HSol : Hid (Sol 1 lo hi den lo' hi' den' (p, q) ↔ Lies p q 1 lo hi den = true ∧ Lies p (-q) 1 lo' hi' den' = true) := by
        unfold Hid Sol
        simp only [Int.one_mul]
        exact ⟨fun k => k.2.2, fun k => ⟨⟨by omega, by omega⟩, ⟨by omega, by omega⟩, k⟩⟩
      have hbnd : Bnd (p, q) := ⟨⟨by show -4000000 ≤ p; omega, by show p ≤ 4000000; omega⟩, ⟨by show -1000000 ≤ q; omega, by show q ≤ 1000000; omega⟩⟩
      have HBN := Lib.hid hbnd
      have zB := fun k => cell_of_row _ _ k _ _ _ hB3.out
      have lB := (Array.getElem?_eq_some_iff.1 hB3.out).1
      clear hbnd
      generalize Lies p q 1 lo hi den = u1 at *
      generalize Lies p (-q) 1 lo' hi' den' = u2 at *
      have hKe : (q - f) * 60 + (p + 1 - (F - r - 2)) = (q - f) * 60 + (p - (F - r - 2)) + 1 := by omega
      have HKE := Lib.hid hKe
      clear hKe
      cases u1
      · have hno : Hid (¬ Sol 1 lo hi den lo' hi' den' (p, q)) := fun k => by have := (HSol.out.1 k).1; cases this
        go_wp2_with fail
        refine (HFc _).out.mono ?_
        rintro e w' ⟨rfl, rfl⟩
        go_wp2_with fail
        refine (hIa _).out.mono ?_
        rintro e w3 ⟨rfl, hx3⟩
        have hX3 := hE3.trans hx3
        have hO3 := Lib.hid (own_ext HW.out hx3)
        go_wp2
        go_roundw
        case rel => exact ⟨p + 1, _, L, by omega, by omega, by go_num, rfl, hO3.out, HS, by unfold Hid; rw [HKE.out]; exact inv_no HJ.out hno.out, hX3⟩
        case measure => simp [intOf]; omega
      · go_wp2_with fail
        refine (HFc _).out.mono ?_
        rintro e w' ⟨rfl, rfl⟩
        go_wp2_with fail
        refine (hIa _).out.mono ?_
        rintro e w3 ⟨rfl, hx3⟩
        have hX3 := hE3.trans hx3
        have hO3 := Lib.hid (own_ext HW.out hx3)
        have hB4 := (hX3.heap (by omega)).trans hB2.out
        have zB4 := fun k => cell_of_row _ _ k _ _ _ hB4
        have lB4 := (Array.getElem?_eq_some_iff.1 hB4).1
        clear hB4 zB lB zA lA
        go_wp2_with fail
        refine (hIb _).out.mono ?_
        rintro e w4 ⟨rfl, hx4⟩
        have hX4 := hX3.trans hx4
        have hO4 := Lib.hid (own_ext hO3.out hx4)
        clear zB4 lB4
        cases u2
        · have hno : Hid (¬ Sol 1 lo hi den lo' hi' den' (p, q)) := fun k => by have := (HSol.out.1 k).2; cases this
          go_wp2
          go_roundw
          case rel => exact ⟨p + 1, _, L, by omega, by omega, by go_num, rfl, hO4.out, HS, by unfold Hid; rw [HKE.out]; exact inv_no HJ.out hno.out, hX4⟩
          case measure => simp [intOf]; omega
        · have hyes : Hid (Sol 1 lo hi den lo' hi' den' (p, q)) := HSol.out.2 (by simp)
          have HPU := Lib.hid (l25Put_any (L := L) rfl (by omega) (fun y hy => sol1_bnd y ((HJ.out.1 y).1 hy).1) p q HBN.out w4 (RVt.own hO4.out (fl2_len L)))
          go_wp2_with fail
          refine HPU.out.mono ?_
          rintro e w5 ⟨v5, rfl, M, m1, m2, m3, hx5⟩
          have HM1 := Lib.hid m1
          have HM2 := Lib.hid m2
          have HM3 := Lib.hid m3
          have hX5 := hX4.trans hx5
          have hsz := hX4.size
          clear m1 m2 m3
          go_wp2
          go_roundw
          case rel =>
            refine ⟨p + 1, _, M, by omega, by omega, by go_num, rfl, ?_, ?_, ?_, hX5⟩
            · unfold Hid
              rw [HM1.out]
              exact own_base HM3.out (by omega)
            · unfold Hid
              refine put_sorted HM2.out HS.out (fun y hy => sol1_bnd y ((HJ.out.1 y).1 hy).1) HBN.out (fun hm => ?_)
              have := ((HJ.out.1 _).1 hm).2
              unfold DI at this
              simp only at this
              omega
            · unfold Hid
              rw [HKE.out]
              exact inv_perm (inv_yes HJ.out hyes.out) (put_perm HM2.out)
          case measure => simp [intOf]; omega

end Go.Proofs.Ytojoljffaedpfaa
