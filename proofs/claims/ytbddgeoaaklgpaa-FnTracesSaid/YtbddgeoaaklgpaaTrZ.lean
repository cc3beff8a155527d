/- slices.SortStableFunc at short lists of ints, with the closures of FoataOf. -/
import Derived.Test.YtbddgeoaaklgpaaTrY
namespace Go.Proofs.Ytbddgeoaaklgpaa
open Go.RowKit Go.Lib
set_option linter.unusedVariables false
set_option linter.unusedSimpArgs false

def nI (O : List Nat) : List Int := O.map fun (o : Nat) => (o : Int)
theorem nI_len (O : List Nat) : (nI O).length = O.length := List.length_map _
theorem nI_app (A B : List Nat) : nI (A ++ B) = nI A ++ nI B := List.map_append
def rgI (i m : Nat) : List Int := nI (List.range' i (m - i))
theorem rgI_cons {i m : Nat} (h : i < m) : rgI i m = (i : Int) :: rgI (i + 1) m := by
  unfold rgI nI
  rw [show m - i = m - (i + 1) + 1 by omega, List.range'_succ]
  rfl
theorem rgI_nil (m : Nat) : rgI m m = [] := by unfold rgI; rw [Nat.sub_self]; rfl
theorem tP_next (xs : List Int) (i : Nat) : tP (clG xs (i + 1)) = tins (prT xs i) (tP (clG xs i)) := by
  unfold tP
  rw [tpl_succ]
  exact tsrt_snoc _ _ _

set_option maxRecDepth 20000 in
set_option maxHeartbeats 8000000 in
theorem insI_any {ab cb kb : Nat} {q : Nat} {va v : Value} {m g cap base : Nat} {xs : List Int} (hc : cOk q xs m = true) (h0 : 0 < m) (W0 : World) (HK : KY ab cb kb q va v m xs W0) (hb : W0.heap.size ≤ base) (w : World) (hx : Ext W0 w) (hR : w.ownsRow base 3 1 (.slice (some ⟨g, 0, none⟩) m cap) m (IL (rgI 0 m))) :
    Calls Try.prog 105 #[.slice (some ⟨g, 0, none⟩) m cap, .int .i64 0, .int .i64 m, .func (.func 74) #[] #[.pointer (some ⟨kb, 0, none⟩)]] w fun e w' => e = .returned (.tuple #[]) ∧ ∃ O : List Nat, O.map (prT xs) = tP (clG xs m) ∧ (∀ o, o ∈ O → o < m) ∧ w'.ownsRow base 3 1 (.slice (some ⟨g, 0, none⟩) m cap) m (IL (nI O)) ∧ Ext W0 w' := by
  have hm := (cOk_q1 hc).2.2
  have HC := fun i k (hi : i < m) (hk : k < m) w' (hx : Ext W0 w') => Lib.hid (scmp_any hc hi hk w' (HK.ext hx))
  have HN := fun i k (hi : i < m) (hk : k < m) => Lib.hid (cK_neg hc hi hk)
  have HTP := Lib.hid (tP_next xs)
  have HPL : Hid (∀ i, (tP (clG xs i)).length = i) := Lib.hid (fun i => by unfold tP; rw [tsrt_len, tpl_len, clG_len]; simp)
  have HPA : Hid (∀ i, Asc (tP (clG xs i))) := Lib.hid (fun i => tP_asc _)
  obtain ⟨_, _, ee, hcap1, hcap2, hg⟩ := own_shape hR
  cases ee
  obtain ⟨g', ee, hg1, hg2, -, -⟩ := hg h0
  cases ee
  have HR := Lib.hid hR
  have HX := Lib.hid hx
  clear hR hx HK hc
  go_enter Try.func105, Try.ntmps105
  go_wp2
  go_loopw [8, 9] (fun s8 _ wr => ∃ (i : Nat) (O : List Nat), 1 ≤ i ∧ i ≤ m ∧ s8 = .int .i64 i ∧ Hid (O.map (prT xs) = tP (clG xs i)) ∧ Hid (∀ o, o ∈ O → o < i) ∧ Hid (wr.ownsRow base 3 1 (.slice (some ⟨g, 0, none⟩) m cap) m (IL (nI O ++ rgI i m))) ∧ Hid (Ext W0 wr)) (fun s8 _ _ => m - (intOf s8).toNat)
  case atStart =>
    refine ⟨1, [0], by omega, by omega, rfl, ?_, by unfold Hid; simp, ?_, HX⟩
    · unfold Hid; rw [HTP.out 0]; rfl
    · have := HR.out
      rw [rgI_cons h0] at this
      exact this
  case round =>
    rename World => wA
    obtain ⟨i, O, i1, i2, rfl, HO, HOi, HRo, HXa⟩ := hrel
    by_cases hlt : i < m
    · have hlt' : (i : Int) < (m : Int) := by omega
      have HTi := Lib.hid (HTP.out i)
      have hOl : O.length = i := by have := congrArg List.length HO.out; rw [List.length_map, HPL.out] at this; exact this
      have HRc := HRo.out
      rw [rgI_cons hlt] at HRc
      have HRc := Lib.hid HRc
      have HAi := HPA.out i
      rw [← HO.out] at HAi HTi
      have HAi := Lib.hid HAi
      have HNi := fun k (hk : k < m) => HN i k hlt hk
      have HCi := fun k (hk : k < m) w' (hx : Ext W0 w') => HC i k hlt hk w' hx
      clear HRo
      go_wp2
      go_loopw [9] (fun s9 wq => ∃ (j : Nat) (A B : List Nat), Hid (O = A ++ B) ∧ s9 = .int .i64 j ∧ Hid (A.length = j) ∧ Hid (∀ y, y ∈ B → tkey (prT xs i) < tkey (prT xs y)) ∧ Hid (wq.ownsRow base 3 1 (.slice (some ⟨g, 0, none⟩) m cap) m (IL (nI A ++ (i : Int) :: (nI B ++ rgI (i + 1) m)))) ∧ Hid (Ext W0 wq)) (fun s9 _ => (intOf s9).toNat)
      case atStart =>
        exact ⟨i, O, [], by unfold Hid; simp, rfl, hOl, by unfold Hid; simp, HRc, HXa⟩
      case round =>
        obtain ⟨j, A, B, HAB, rfl, HAl, HBx, HQ, HXr⟩ := hrel
        have hji : j ≤ i := by rw [← hOl, HAB.out, List.length_append, HAl.out]; omega
        have HFin : Hid ((∀ z, z ∈ A → tkey (prT xs z) ≤ tkey (prT xs i)) → (A ++ i :: B).map (prT xs) = tP (clG xs (i + 1)) ∧ (∀ o, o ∈ A ++ i :: B → o < i + 1) ∧ nI A ++ (i : Int) :: (nI B ++ rgI (i + 1) m) = nI (A ++ i :: B) ++ rgI (i + 1) m) := Lib.hid (fun hA => by
          refine ⟨?_, fun o ho => ?_, ?_⟩
          · rw [HTi.out, HAB.out, List.map_append, List.map_append, List.map_cons]
            exact (tins_at (fun y hy => by obtain ⟨z, hz, rfl⟩ := List.mem_map.1 hy; exact hA z hz) (fun y hy => by obtain ⟨z, hz, rfl⟩ := List.mem_map.1 hy; exact HBx.out z hz)).symm
          · rcases List.mem_append.1 ho with h | h
            · have := HOi.out o (by rw [HAB.out]; exact List.mem_append_left _ h); omega
            · rcases List.mem_cons.1 h with rfl | h
              · omega
              · have := HOi.out o (by rw [HAB.out]; exact List.mem_append_right _ h); omega
          · rw [nI_app, List.append_assoc]
            rfl)
        by_cases hj0 : j = 0
        · have hn0 : ¬ (0 : Int) < (j : Int) := by omega
          have hn1 : ¬ 0 < j := by omega
          have hAe : A = [] := List.eq_nil_of_length_eq_zero (by have := HAl.out; omega)
          obtain ⟨f1, f2, f3⟩ := HFin.out (by rw [hAe]; simp)
          have F1 := Lib.hid f1
          have F2 := Lib.hid f2
          have HQ' := HQ.out
          rw [f3] at HQ'
          have HQ' := Lib.hid HQ'
          clear f1 f2 f3 HFin hj0 HC HN HCi HNi
          go_wp2
          refine wp_region_xt (by kernel_rfl) (by kernel_rfl) (fun hxc => ?_)
          repeat (first | go_big_quiet_step (fail) | quiet_step (fail))
          refine wpQuiet_nil (forall_xt ?_)
          clear hxc
          intro w1 hx1
          obtain ⟨hc1, hf1⟩ := hx1.cells
          have hz1 := hx1.size
          try simp at hz1
          have HQ1 := Lib.hid (own_ext HQ'.out hx1)
          have HX1 : Hid (Ext W0 w1) := HXr.out.trans hx1
          go_wp2
          go_roundw
          case rel => exact ⟨i + 1, A ++ i :: B, by omega, by omega, by go_num, F1, F2, HQ1, HX1⟩
          case measure => simp [intOf]; omega
        · obtain ⟨J, hJ⟩ : ∃ J, J + 1 = j := ⟨j - 1, by omega⟩
          obtain ⟨A', y, rfl⟩ : ∃ A' y, A = A' ++ [y] := ⟨A.dropLast, A.getLast (by intro e; rw [e] at HAl; exact hj0 HAl.out.symm), (List.dropLast_concat_getLast _).symm⟩
          have hAJ : A'.length = J := by have := HAl.out; rw [List.length_append, ← hJ] at this; simpa using this
          have hym : y < m := by have := HOi.out y (by rw [HAB.out]; simp); omega
          have HQ2 := HQ.out
          rw [show nI (A' ++ [y]) ++ (i : Int) :: (nI B ++ rgI (i + 1) m) = nI A' ++ (y : Int) :: (i : Int) :: (nI B ++ rgI (i + 1) m) by rw [nI_app, List.append_assoc]; rfl] at HQ2
          have hlJ : (nI A').length = J := by rw [nI_len]; exact hAJ
          have zJ : World.cell? _ ⟨g, J, none⟩ = some (.int .i64 (y : Nat)) := (World.ownsRow.cellAt HQ2 J (by omega)).trans (by have := mid_get (nI A') (y : Nat) ((i : Int) :: (nI B ++ rgI (i + 1) m)); rw [hlJ] at this; exact this)
          have zj : World.cell? _ ⟨g, j, none⟩ = some (.int .i64 (i : Nat)) := (World.ownsRow.cellAt HQ2 j (by omega)).trans (by rw [← hJ]; have := mid_get (nI A' ++ [(y : Int)]) (i : Nat) (nI B ++ rgI (i + 1) m); rw [List.length_append, hlJ, List.append_assoc] at this; exact this)
          have hfr := World.ownsRow.frozenAt HQ2
          have lg := (World.ownsRow.lt HQ2 g rfl).2
          have HSW : Hid (∀ W : World, W.ownsRow base 3 1 (.slice (some ⟨g, 0, none⟩) m cap) m (IL (nI A' ++ (y : Int) :: (i : Int) :: (nI B ++ rgI (i + 1) m))) → ((W.setCell ⟨g, j, none⟩ (.int .i64 (y : Nat))).setCell ⟨g, J, none⟩ (.int .i64 (i : Nat))).ownsRow base 3 1 (.slice (some ⟨g, 0, none⟩) m cap) m (IL (nI A' ++ (i : Int) :: (nI (y :: B) ++ rgI (i + 1) m)))) := Lib.hid (fun W hW => by
            have s := World.ownsRow.stored (World.ownsRow.stored hW j (.int .i64 (y : Nat))).1 J (.int .i64 (i : Nat))
            rw [il_setT, il_setT] at s
            have e1 := set_mid1 (nI A') (y : Nat) (i : Nat) (y : Nat) (nI B ++ rgI (i + 1) m)
            have e2 := set_mid (nI A') (y : Nat) (i : Nat) ((y : Int) :: (nI B ++ rgI (i + 1) m))
            rw [hlJ] at e1 e2
            rw [← hJ, e1, e2] at s
            rw [← hJ]
            exact s.1)
          have HQ2 := Lib.hid HQ2
          have hjp : (0 : Int) < (j : Int) := by omega
          have hjp2 : 0 < j := by omega
          have eJ : ((j : Int) - 1) = (J : Int) := by omega
          have HCy := HCi y hym
          have hneg := (HNi y hym).out
          have hjm : j < m := by omega
          have hJm : J < m := by omega
          have hjc : j < cap := by omega
          have hJc : J < cap := by omega
          have hJi : (J : Int) < (m : Int) := by omega
          have hji' : (j : Int) < (m : Int) := by omega
          have HAB2 : Hid (O = A' ++ y :: B) := Lib.hid (by rw [HAB.out]; simp)
          have HAJ := Lib.hid hAJ
          clear hJ hj0 hlJ hAJ HC HN HCi HNi
          generalize cK xs i y = r at *
          by_cases hr : r < 0
          · have hk := hneg.1 hr
            have HBy : Hid (∀ z, z ∈ y :: B → tkey (prT xs i) < tkey (prT xs z)) := Lib.hid (fun z hz => by
              rcases List.mem_cons.1 hz with rfl | hz
              · exact hk
              · exact HBx.out z hz)
            clear hneg hk HFin
            go_wp2
            refine wp_region_xt (by kernel_rfl) (by kernel_rfl) (fun hxc => ?_)
            repeat (first | go_big_quiet_step ((first | (go_at_call 74; exact calls_xt ((HCy _ (HXr.out.trans (Xt.ext _))).out)))) | quiet_step ((first | (go_at_call 74; exact calls_xt ((HCy _ (HXr.out.trans (Xt.ext _))).out)))))
            refine wpQuiet_nil (forall_xt ?_)
            clear hxc
            intro w1 hx1
            obtain ⟨hc1, hf1⟩ := hx1.cells
            have hz1 := hx1.size
            try simp at hz1
            have HQ3 := Lib.hid (own_ext HQ2.out hx1)
            have HX1 : Hid (Ext W0 w1) := HXr.out.trans hx1
            have zJ1 := (hc1 _ _ lg).trans zJ
            have zj1 := (hc1 _ _ lg).trans zj
            have hfr1 := World.ownsRow.frozenAt HQ3.out
            have lg1 : g < w1.heap.size := by omega
            clear hc1 hf1 hx1 zJ zj hfr HCy
            go_wp2
            go_region
            all_goals
              go_wp2
              go_roundw
              case rel =>
                refine ⟨J, A', y :: B, HAB2, by go_num, HAJ, HBy, own_ext (HSW.out _ HQ3.out) ((Ext.refl _).drew), ?_⟩
                unfold Hid
                have hx := HX1.out
                exact (by repeat (first | (with_reducible refine Ext.setCell ?_ (by first | (simp; done) | (simp; omega)) _) | with_reducible refine Ext.alloc ?_ _ | with_reducible refine Ext.drew ?_ | with_reducible refine Ext.drewN ?_ _ | with_reducible assumption | with_reducible exact Ext.refl _ | with_reducible refine Ext.trans ?_ (by with_reducible assumption)))
              case measure => simp [intOf]; omega
          · have hk : ¬ tkey (prT xs i) < tkey (prT xs y) := fun h => hr (hneg.2 h)
            obtain ⟨f1, f2, f3⟩ := HFin.out (fun z hz => by
              rcases List.mem_append.1 hz with hz | hz
              · have hs := HAi.out
                rw [HAB2.out, List.map_append, List.map_cons] at hs
                have := (List.pairwise_append.1 hs).2.2 _ (List.mem_map_of_mem hz) _ List.mem_cons_self
                omega
              · obtain rfl := List.mem_singleton.1 hz
                omega)
            have F1 := Lib.hid f1
            have F2 := Lib.hid f2
            have HQ' := HQ.out
            rw [f3] at HQ'
            have HQ' := Lib.hid HQ'
            clear f1 f2 f3 HFin hneg hk HQ2
            go_wp2
            refine wp_region_xt (by kernel_rfl) (by kernel_rfl) (fun hxc => ?_)
            repeat (first | go_big_quiet_step ((first | (go_at_call 74; exact calls_xt ((HCy _ (HXr.out.trans (Xt.ext _))).out)))) | quiet_step ((first | (go_at_call 74; exact calls_xt ((HCy _ (HXr.out.trans (Xt.ext _))).out)))))
            refine wpQuiet_nil (forall_xt ?_)
            clear hxc
            intro w1 hx1
            obtain ⟨hc1, hf1⟩ := hx1.cells
            have hz1 := hx1.size
            try simp at hz1
            have HQ1 := Lib.hid (own_ext HQ'.out hx1)
            have HX1 : Hid (Ext W0 w1) := HXr.out.trans hx1
            clear HCy
            go_wp2
            go_roundw
            case rel => exact ⟨i + 1, (A' ++ [y]) ++ i :: B, by omega, by omega, by go_num, F1, F2, HQ1, HX1⟩
            case measure => simp [intOf]; omega
    · obtain rfl : i = m := by omega
      have HRe := HRo.out
      rw [rgI_nil, List.append_nil] at HRe
      go_wp2
      go_end0
      exact ⟨rfl, O, HO.out, HOi.out, HRe, HXa.out⟩

theorem insI_none {a : Option Addr} {cap : Nat} {f : Value} (w : World) :
    Calls Try.prog 105 #[.slice a 0 cap, .int .i64 0, .int .i64 0, f] w fun e w' => e = .returned (.tuple #[]) ∧ Ext w w' := by
  go_enter Try.func105, Try.ntmps105
  go_wp2
  go_loopw [8, 9] (fun s8 _ wr => s8 = .int .i64 1 ∧ wr = w) (fun _ _ _ => 0)
  case atStart => exact ⟨rfl, rfl⟩
  case round =>
    obtain ⟨rfl, rfl⟩ := hrel
    go_wp2
    go_end0
    exact ⟨rfl, Ext.refl _⟩

set_option maxRecDepth 20000 in
set_option maxHeartbeats 4000000 in
theorem stableI_any {ab cb kb : Nat} {q : Nat} {va v vo : Value} {m base : Nat} {xs : List Int} (hc : cOk q xs m = true) (h20 : m < 20) (W0 : World) (HK : KY ab cb kb q va v m xs W0) (hb : W0.heap.size ≤ base) (w : World) (hx : Ext W0 w) (hR : w.ownsRow base 3 1 vo m (IL (rgI 0 m))) :
    Calls Try.prog 88 #[vo, .int .i64 m, .func (.func 74) #[] #[.pointer (some ⟨kb, 0, none⟩)]] w fun e w' => e = .returned (.tuple #[]) ∧ ∃ O : List Nat, O.map (prT xs) = tP (clG xs m) ∧ (∀ o, o ∈ O → o < m) ∧ w'.ownsRow base 3 1 vo m (IL (nI O)) ∧ Ext W0 w' := by
  obtain ⟨a, cap, rfl, hcap1, hcap2, hg⟩ := own_shape hR
  have h20' : ¬ (20 : Int) ≤ (m : Int) := by omega
  have h20'' : ¬ (20 : Int) < (m : Int) := by omega
  have HI : Hid (∃ P : Ending → World → Prop, (∀ e w', P e w' → e = .returned (.tuple #[]) ∧ ∃ O : List Nat, O.map (prT xs) = tP (clG xs m) ∧ (∀ o, o ∈ O → o < m) ∧ w'.ownsRow base 3 1 (.slice a m cap) m (IL (nI O)) ∧ Ext W0 w') ∧ Calls Try.prog 105 #[.slice a m cap, .int .i64 0, .int .i64 m, .func (.func 74) #[] #[.pointer (some ⟨kb, 0, none⟩)]] w P) := by
    by_cases h0 : 0 < m
    · obtain ⟨g, rfl, -, -, -, -⟩ := hg h0
      exact ⟨_, fun e w' h => h, insI_any hc h0 W0 HK hb w hx hR⟩
    · obtain rfl : m = 0 := by omega
      refine ⟨_, fun e w' h => ?_, insI_none w⟩
      obtain ⟨h1, h2⟩ := h
      exact ⟨h1, [], rfl, by simp, own_ext hR h2, hx.trans h2⟩
  clear hg hR hc HK
  obtain ⟨P, hP, hCall⟩ := HI.out
  have HP := Lib.hid hP
  have HCall := Lib.hid hCall
  clear hP hCall HI
  go_enter Try.func88, Try.ntmps88
  go_wp2
  go_loopw [7, 8] (fun s7 s8 wr => s7 = .int .i64 0 ∧ s8 = .int .i64 20 ∧ wr = w) (fun _ _ _ => 0)
  case atStart => exact ⟨rfl, rfl, rfl⟩
  case round =>
    obtain ⟨rfl, rfl, rfl⟩ := hrel
    go_wp2_with fail
    refine HCall.out.mono ?_
    intro e w1 hp
    obtain ⟨rfl, HO⟩ := HP.out e w1 hp
    have HO := Lib.hid HO
    clear hp
    go_wp2
    go_loopw [6, 7, 8, 9] (fun s6 _ _ _ wr => s6 = .int .i64 20 ∧ wr = w1) (fun _ _ _ _ _ => 0)
    case atStart => exact ⟨rfl, rfl⟩
    case round =>
      obtain ⟨rfl, rfl⟩ := hrel
      go_wp2
      go_end0
      exact ⟨rfl, HO.out⟩

theorem sortI_any {ab cb kb : Nat} {q : Nat} {va v vo : Value} {m base : Nat} {xs : List Int} (hc : cOk q xs m = true) (h20 : m < 20) (W0 : World) (HK : KY ab cb kb q va v m xs W0) (hb : W0.heap.size ≤ base) (w : World) (hx : Ext W0 w) (hR : w.ownsRow base 3 1 vo m (IL (rgI 0 m))) :
    Calls Try.prog 73 #[vo, .func (.func 74) #[] #[.pointer (some ⟨kb, 0, none⟩)]] w fun e w' => e = .returned (.tuple #[]) ∧ ∃ O : List Nat, O.map (prT xs) = tP (clG xs m) ∧ (∀ o, o ∈ O → o < m) ∧ w'.ownsRow base 3 1 vo m (IL (nI O)) ∧ Ext W0 w' := by
  have HS := Lib.hid (stableI_any hc h20 W0 HK hb w hx hR)
  obtain ⟨a, cap, rfl, hcap1, hcap2, -⟩ := own_shape hR
  clear hR HK hx hc
  go_enter Try.func73, Try.ntmps73
  go_wp2_with fail
  refine HS.out.mono ?_
  rintro e w1 ⟨rfl, HO⟩
  go_wp2
  go_end0
  exact ⟨rfl, HO⟩

end Go.Proofs.Ytbddgeoaaklgpaa
