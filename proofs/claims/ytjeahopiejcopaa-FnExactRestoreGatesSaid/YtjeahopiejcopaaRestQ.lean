/- Restoring a placement: the program's side. -/
import Derived.Test.YtjeahopiejcopaaRestP
import Derived.Test.YtjeahopiejcopaaLt
namespace Go.Proofs.Ytjeahopiejcopaa
open Go.RowKit Go.Lib
set_option linter.unusedVariables false
set_option linter.unusedSimpArgs false

set_option maxRecDepth 20000 in
set_option maxHeartbeats 4000000 in
theorem restore_any {n m : Nat} {v1 v2 : Value} {xs ys : List Int} (hn : n ≤ 1048576) (hm : m ≤ 1048576) (w : World) (h1 : RV w 1 v1 n xs) (h2 : RV w 1 v2 m ys) :
    Calls Try.prog 21 #[v1, v2] w fun e w' => ∃ v, e = .returned (.tuple #[v, .bool (okRg xs ys n m)]) ∧ w'.ownsRow w.heap.size 98 3 v ((rgL xs ys n m).length / 3) (IL (rgL xs ys n m)) ∧ Ext w w' := by
  have H1 := Lib.hid (areNodes_any (by omega) w h1)
  have H2 := Lib.hid (areNodes_any (by omega) w h2)
  have HC := Lib.hid (cloneR_any (by omega) w h1)
  obtain ⟨hl1, a1, c1, rfl, _, _, _⟩ := h1
  obtain ⟨hl2, a2, c2, rfl, d1, d2, D⟩ := h2
  have HD := Lib.hid D
  have HL2 := Lib.hid hl2
  have HL := Lib.hid hl1
  clear D hl2 hl1
  by_cases hnm : n = m
  case neg =>
    have e1 : okRg xs ys n m = false := by unfold okRg; simp [hnm]
    have hnm' : ¬ ((n : Int) = m) := by omega
    rw [rgL_no e1, e1]
    clear H1 H2 HC
    go_enter Try.func21, Try.ntmps21
    go_wp2
    go_ret2
    exact ⟨_, rfl, own_nil _ _ _ _, Ext.refl _⟩
  subst hnm
  cases k1 : nOk xs n
  · have e1 : okRg xs ys n n = false := by unfold okRg; rw [k1]; simp
    rw [rgL_no e1, e1]
    rw [k1] at H1
    clear H2 HC
    go_enter Try.func21, Try.ntmps21
    go_wp2_with (go_at_call 71; ((with_reducible refine (H1.out).mono ?_); rintro e w' ⟨rfl, rfl⟩))
    go_ret2
    exact ⟨_, rfl, own_nil _ _ _ _, Ext.refl _⟩
  cases k2 : nOk ys n
  · have e1 : okRg xs ys n n = false := by unfold okRg; rw [k1, k2]; simp
    rw [rgL_no e1, e1]
    rw [k1] at H1
    rw [k2] at H2
    clear HC
    go_enter Try.func21, Try.ntmps21
    go_wp2_with fail
    refine H1.out.mono ?_
    rintro e w' ⟨rfl, rfl⟩
    go_wp2_with fail
    refine H2.out.mono ?_
    rintro e w' ⟨rfl, rfl⟩
    go_wp2
    go_ret2
    exact ⟨_, rfl, own_nil _ _ _ _, Ext.refl _⟩
  have e1 : okRg xs ys n n = true := by unfold okRg; rw [k1, k2]; simp
  have E2 : Hid (rgL xs ys n n = rstL ys n 0 xs) := by unfold Hid rgL; rw [e1]; rfl
  rw [e1]
  rw [k1] at H1
  rw [k2] at H2
  have HDX : Hid (Dist xs) := dist_of_nOk (by rw [HL.out, Nat.mul_one]; exact k1)
  have HRX : Hid (∀ i, i < n → 0 ≤ at3 xs i ∧ at3 xs i ≤ 4) := fun i hi => nOk_rng k1 hi
  have HRY : Hid (∀ i, i < n → 0 ≤ at3 ys i ∧ at3 ys i ≤ 4) := fun i hi => nOk_rng k2 hi
  clear k1 k2
  go_enter Try.func21, Try.ntmps21
  go_wp2_with fail
  refine H1.out.mono ?_
  rintro e w' ⟨rfl, rfl⟩
  go_wp2_with fail
  refine H2.out.mono ?_
  rintro e w' ⟨rfl, rfl⟩
  go_wp2_with fail
  refine HC.out.mono ?_
  rintro e w1 ⟨v', rfl, o1, hx1⟩
  obtain ⟨av, cv, rfl, _, _, hgv⟩ := own_shape o1
  have hkk := o1.lt
  have HRS0 : Hid (RS w n 0 ys xs (.slice av n cv) (.slice (some ⟨w1.heap.size, 0, none⟩) 0 0) (w1.alloc (.cells #[] 98))) := ⟨⟨xs, [], by have := HL.out; omega, HDX.out, fun j hj => HRX.out j (by have := HL.out; omega), rfl, by simp, own_ext o1 ((Ext.refl _).alloc _), World.ownsRow_lit _ _ 0 hx1.size (by decide) rfl, rfl⟩, fun j hj k hk => by have := (hkk k hk).2; simp [Value.ownBlock] at hj; omega, hx1.alloc _⟩
  have HGV : Hid (0 < n → ∃ g, av = some ⟨g, 0, none⟩ ∧ w.heap.size ≤ g ∧ g < w1.heap.size) := fun hn => by
    obtain ⟨g, h1, h2, h3, _⟩ := hgv hn
    exact ⟨g, h1, h2, h3⟩
  have HS1 := Lib.hid hx1.size
  clear H1 H2 HC HDX HRX hx1 o1 hgv hkk
  go_wp2
  go_loopw [7, 8, 9, 10, 11, 32] (fun s7 _ _ _ _ i wr => ∃ (j : Nat) (v' : Value), j ≤ n ∧ i = .int .i64 j ∧ s7 = v' ∧ w1.heap.size ≤ wr.heap.size ∧ Hid (RS w n j ys xs (.slice av n cv) v' wr)) (fun _ _ _ _ _ i _ => n - (intOf i).toNat)
  case atStart => exact ⟨0, _, by omega, rfl, rfl, by simp, HRS0.out⟩
  case round =>
    clear HRS0
    obtain ⟨j, v', hj, rfl, rfl, hsz, HR⟩ := hrel
    obtain ⟨l, L, q1, q2, q3, q4, q5, o1, o2, q6⟩ := HR.out.ex
    have QL := Lib.hid q1
    have QD := Lib.hid q2
    have QR := Lib.hid q3
    have QM := Lib.hid q4
    have QN := Lib.hid q5
    have QE := Lib.hid q6
    have O1 := Lib.hid o1
    have O2 := Lib.hid o2
    have HF := Lib.hid HR.out.far
    have HE := Lib.hid HR.out.ext
    obtain ⟨au, cu, rfl, _, _, _⟩ := own_shape o2
    clear q1 q2 q3 q4 q5 q6 o1 o2 HR
    by_cases hlt : j < n
    · have hlt' : (j : Int) < n := by omega
      obtain ⟨g, rfl, g1, g2⟩ := HGV.out (by omega)
      obtain ⟨by', offy, rfl, hby, hcy⟩ := HD.out (by omega)
      have zy : wr.cell? ⟨by', offy + j, none⟩ = some (.int .i64 (at3 ys j)) := (HE.out.cells.1 _ _ hby).trans (hcy _ _ (at3_get (by have := HL2.out; omega)))
      have zl : wr.cell? ⟨g, j, none⟩ = some (.int .i64 (at3 l j)) := (own_some O1.out).2.2 _ _ (at3_get (by have := QL.out; omega))
      have ly : by' < wr.heap.size := by have := HE.out.size; omega
      have lg : g < wr.heap.size := by omega
      clear hcy
      have HSE : Hid (at3 l j = at3 ys j → rstL ys (n - j) j l = rstL ys (n - (j + 1)) (j + 1) l) := fun h => by
        rw [show n - j = (n - (j + 1)) + 1 by omega]; exact rstL_step_eq h
      have HSN : Hid (¬ at3 l j = at3 ys j → rstL ys (n - j) j l = [11, at3 l j, at3 ys j] ++ rstL ys (n - (j + 1)) (j + 1) (swpL l (at3 l j) (at3 ys j))) := fun h => by
        rw [show n - j = (n - (j + 1)) + 1 by omega]; exact rstL_step_ne h
      have HIX := fun (w' : World) v (h : RV w' 1 v n l) => Lib.hid (index_any (at3 ys j) (by omega) w' h)
      have r1 := QR.out j (by have := QL.out; omega)
      have r2 := HRY.out j hlt
      have HQR : Hid (∀ i, i < l.length → 0 ≤ at3 (swpL l (at3 l j) (at3 ys j)) i ∧ at3 (swpL l (at3 l j) (at3 ys j)) i ≤ 4) := fun i hi => by
        rw [swpL_at hi]; exact swp_rng r1 r2 (QR.out i hi)
      have HQD : Hid (Dist (swpL l (at3 l j) (at3 ys j))) := dist_swp _ _ QD.out
      have HSB : Hid (∀ o : Nat, o < n → at3 l o = at3 ys j → ¬ at3 l j = at3 ys j → (l.set o (at3 l j)).set j (at3 ys j) = swpL l (at3 l j) (at3 ys j)) := fun o ho h1 h2 => set_both QD.out (by have := QL.out; omega) (by have := QL.out; omega) h1 h2
      have HSO : Hid (hasTo l (at3 ys j) n = false → l.set j (at3 ys j) = swpL l (at3 l j) (at3 ys j)) := fun h => set_one QD.out (by have := QL.out; omega) (by rw [QL.out]; exact h)
      clear r1 r2
      generalize at3 l j = x at *
      generalize at3 ys j = y at *
      by_cases hxy : x = y
      · have hb : (x == y) = true := by simpa using hxy
        have HS := Lib.hid (HSE.out hxy)
        clear hxy HSE HSN HIX HQR HQD HSB HSO
        go_wp2
        go_roundw
        case rel => exact ⟨j + 1, _, by omega, by go_num, rfl, hsz, ⟨l, L, QL.out, QD.out, QR.out, QM.out, by have := QN.out; omega, O1.out, O2.out, by rw [← HS.out]; exact QE.out⟩, HF.out, HE.out⟩
        case measure => simp [intOf]; omega
      · have hb : (x == y) = false := by simpa using hxy
        have HS := Lib.hid (HSN.out hxy)
        have HXY := Lib.hid hxy
        clear hxy HSE HSN
        have hO2 := Lib.hid (own_ext O2.out ((Ext.refl _).alloc (.cells #[.int .i64 11, .int .i64 x, .int .i64 y] 98 (0, 0))))
        have hM2 := Lib.hid (heap_alloc_new wr (.cells #[.int .i64 11, .int .i64 x, .int .i64 y] 98 (0, 0)))
        have hs2 := HE.out.size
        have hLn : L.length / 3 ≤ 1048576 := by have := QN.out; omega
        go_wp2_with (at_builtin; go_loud (refine wpList_append_rvt rfl elt_gate rfl _ (L.length / 3) L rfl hO2.out _ 1 [11, x, y] rfl (rv_heap hM2.out rfl rfl (by omega) (by decide)) (by omega) (by simp; omega) ?_); intro v4 w4 hown4 hgrow4 hiff4 hat4; obtain ⟨a4, c4, rfl, _, _, _⟩ := own_shape hown4)
        have HE4 := Lib.hid (ext_grownB (HE.out.alloc _) hgrow4 hO2.out (Nat.le_refl _))
        have O14 := Lib.hid (own_grownF (own_ext O1.out ((Ext.refl _).alloc _)) hgrow4 HF.out)
        have hs4 : wr.heap.size ≤ w4.heap.size := by have := hgrow4.size; simp at this; omega
        have HO4 := Lib.hid (show w4.ownsRow w.heap.size 98 3 (.slice a4 (L.length / 3 + 1) c4) ((L ++ [11, x, y]).length / 3) (IL (L ++ [11, x, y])) by
          rw [List.length_append, show ([11, x, y] : List Int).length = 3 from rfl, show (L.length + 3) / 3 = L.length / 3 + 1 by omega]
          exact hown4)
        have HF4 : Hid (∀ j, (Value.slice a4 (L.length / 3 + 1) c4).ownBlock = some j → ∀ k, (Value.slice (some ⟨g, 0, none⟩) n cv).ownBlock = some k → j ≠ k) := by
          intro j hj k hk
          simp only [Value.ownBlock, Option.some.injEq] at hk
          subst hk
          rcases hat4 with h5 | h5
          · exact HF.out j (h5.symm.trans hj) g rfl
          · rw [h5] at hj
            simp at hj
            omega
        clear zy zl ly hown4
        have lg4 : g < w4.heap.size := by omega
        refine (HIX _ _ (RV.own O14.out (by have := QL.out; omega))).out.mono ?_
        rintro e w5 ⟨⟨r, rfl, hr⟩, rfl⟩
        have hfr := O14.out.frozenAt
        have HIL : Hid (∀ (l : List Int) (i : Nat) (y : Int), (IL l).set i (.int .i64 y) = IL (l.set i y)) := fun l i y => by simp [IL, List.map_set]
        obtain ⟨u1, t1⟩ := own_at (N := n * 1) O14.out (by rw [il_length]; have := QL.out; omega) (k := j) (by omega)
        rcases hr with ⟨rfl, hno⟩ | ⟨o, rfl, ho, hat, hbef⟩
        · have HNO := Lib.hid (HSO.out hno)
          clear hno HSB HSO
          go_wp2
          go_roundw
          case rel =>
            have s0 := World.ownsRow.stored O14.out j (.int .i64 y)
            have e0 := s0.1
            rw [HIL.out, HNO.out] at e0
            refine ⟨j + 1, _, by omega, by go_num, rfl, by simp; omega, ⟨swpL l x y, L ++ [11, x, y], by rw [swpL_length]; exact QL.out, HQD.out, fun i hi => HQR.out i (by rw [swpL_length] at hi; exact hi), ?_, ?_, e0, own_grownF HO4.out s0.2 (fun a ha b hb => by cases ha; exact fun e => HF4.out b hb g rfl e.symm), ?_⟩, HF4.out, Ext.setCell HE4.out g1 _⟩
            · rw [List.length_append]; have := QM.out; simp; omega
            · rw [List.length_append]; have := QN.out; simp; omega
            · rw [List.append_assoc, ← HS.out]; exact QE.out
          case measure => simp [intOf]; omega
        · have HNO := Lib.hid (HSB.out o ho hat HXY.out)
          clear hat hbef HSB HSO
          have ho' : (o : Int) < n := by omega
          have ho0 : (0 : Int) ≤ o := by omega
          obtain ⟨u2, t2⟩ := own_at (N := n * 1) O14.out (by rw [il_length]; have := QL.out; omega) (k := o) (by omega)
          have s0 := World.ownsRow.stored O14.out o (.int .i64 x)
          have s1 := World.ownsRow.stored s0.1 j (.int .i64 y)
          have S1 := Lib.hid s1.1
          have S2 := Lib.hid (s0.2.trans s1.2)
          obtain ⟨u3, t3⟩ := own_at (N := n * 1) s0.1 (by simp [il_length]; have := QL.out; omega) (k := j) (by omega)
          have hfr2 := s0.1.frozenAt
          clear s0 s1
          go_wp2
          go_roundw
          case rel =>
            have e0 := S1.out
            rw [HIL.out, HIL.out, HNO.out] at e0
            refine ⟨j + 1, _, by omega, by go_num, rfl, by simp; omega, ⟨swpL l x y, L ++ [11, x, y], by rw [swpL_length]; exact QL.out, HQD.out, fun i hi => HQR.out i (by rw [swpL_length] at hi; exact hi), ?_, ?_, e0, own_grownF HO4.out S2.out (fun a ha b hb => by cases ha; exact fun e => HF4.out b hb g rfl e.symm), ?_⟩, HF4.out, Ext.setCell (Ext.setCell HE4.out g1 _) g1 _⟩
            · rw [List.length_append]; have := QM.out; simp; omega
            · rw [List.length_append]; have := QN.out; simp; omega
            · rw [List.append_assoc, ← HS.out]; exact QE.out
          case measure => simp [intOf]; omega
    · obtain rfl : j = n := by omega
      have HQ : Hid (L = rstL ys j 0 xs) := by unfold Hid; rw [← QE.out, Nat.sub_self]; simp [rstL]
      go_wp2
      go_ret2
      rw [E2.out, ← HQ.out]
      exact ⟨_, rfl, O2.out, HE.out⟩

end Go.Proofs.Ytjeahopiejcopaa
