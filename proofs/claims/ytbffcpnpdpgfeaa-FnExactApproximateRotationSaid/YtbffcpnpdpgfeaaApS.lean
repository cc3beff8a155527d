/- spec.ApproximateRotation: the walk. -/
import Derived.Test.YtbffcpnpdpgfeaaApQ
namespace Go.Proofs.Ytbffcpnpdpgfeaa
open Go.RowKit Go.Lib
set_option linter.unusedVariables false
set_option linter.unusedSimpArgs false

theorem cand_any (x y n num den : Int) (hT : Tg x y n = true) (hB : Bnd num den = true) (k : Nat) (hk : k < 9) (w : World) :
    Calls Try.prog 24 #[.agg #[.int .i64 x, .int .i64 y, .int .i64 n], .int .i64 k, .int .i64 num, .int .i64 den] w fun e w' => ∃ v, e = .returned (.tuple #[v, .bool (cdOk x y n k num den)]) ∧
      w'.ownsRow w.heap.size 33 4 v (cdR x y n k num den).length (IL (fl4 (cdR x y n k num den))) ∧ Ext w w' := by
  have hkk : 0 ≤ (k : Int) ∧ (k : Int) ≤ 8 := by omega
  have HV : cdV x y n k num den = true := by
    unfold cdV
    rw [hT, hB, Wn_iff.2 hkk]
    rfl
  have HO : cdOk x y n k num den = decide ((cdL (cdC x y n k) num den).length ≤ 1000) := by unfold cdOk; rw [HV]; simp
  have HR : cdR x y n k num den = if (cdL (cdC x y n k) num den).length ≤ 1000 then cdL (cdC x y n k) num den else [] := by
    unfold cdR
    rw [HO]
    simp
  rw [HO, HR]
  exact l27Candidates_any (cdC x y n k) num den hkk hB (fun u hu => Cx.small ⟨hT, hkk⟩ hu (tg_bd hT)) w

set_option maxRecDepth 20000 in
set_option maxHeartbeats 8000000 in
theorem l27Approximate_any (x y n num den : Int) (hTg : Tg x y n = true) (hBd : Bnd num den = true) (w : World) :
    Calls Try.prog 37 #[.agg #[.int .i64 x, .int .i64 y, .int .i64 n], .int .i64 num, .int .i64 den] w fun e w' => e = .returned (.tuple #[.agg #[.int .i64 (apA x y n (apV x y n num den 9 0) 0), .int .i64 (apA x y n (apV x y n num den 9 0) 1), .int .i64 (apA x y n (apV x y n num den 9 0) 2), .int .i64 (apA x y n (apV x y n num den 9 0) 3), .int .i64 (apA x y n (apV x y n num den 9 0) 4), .int .i64 (apA x y n (apV x y n num den 9 0) 5), .int .i64 (apA x y n (apV x y n num den 9 0) 6), .int .i64 (apA x y n (apV x y n num den 9 0) 7), .int .i64 (apA x y n (apV x y n num den 9 0) 8)], .bool (apV x y n num den 9 0).isSome]) ∧ Ext w w' := by
  obtain ⟨R, hR⟩ : ∃ R, apV x y n num den 9 0 = R := ⟨_, rfl⟩
  rw [hR]
  have HR := Lib.hid hR
  clear hR
  have HC := fun (k : Nat) (hk : k < 9) w' => Lib.hid (cand_any x y n num den hTg hBd k hk w')
  clear hTg hBd
  have HRe := fun (k : Nat) (u : Q4) (h : u ∈ cdR x y n k num den) w' => Lib.hid (l27Left_any (cdC x y n k) (cdR_good h).1 u (cdR_good h).2 w')
  have HSo := fun P Q w' => Lib.hid (s_solveNorm_any P Q w')
  have HLe := fun (k : Nat) => Lib.hid (cdR_len x y n k num den)
  go_enter Try.func37, Try.ntmps37
  go_wp2
  go_loopw [8, 9, 10, 12, 13, 14] (fun s15 _ _ _ _ _ wr => ∃ k : Nat, k ≤ 9 ∧ s15 = .int .i64 k ∧ Hid (apV x y n num den (9 - k) k = R) ∧ Hid (Ext ((w.alloc (.cells #[.int .i64 x, .int .i64 y, .int .i64 n] 27 (0, 0))).alloc (.cells #[.int .i64 0, .int .i64 0, .int .i64 0, .int .i64 0, .int .i64 0, .int .i64 0, .int .i64 0, .int .i64 0, .int .i64 0] 35 (0, 0))) wr)) (fun s15 _ _ _ _ _ _ => 9 - (intOf s15).toNat)
  case atStart => exact ⟨0, by omega, rfl, HR, Ext.refl _⟩
  case round =>
    obtain ⟨k, hk, rfl, HV, HX⟩ := hrel
    have HT : Hid (wr.heap[w.heap.size]? = some (.cells #[.int .i64 x, .int .i64 y, .int .i64 n] 27 (0, 0))) := (HX.out.heap (by simp; try omega)).trans (heap_alloc_lt (heap_alloc_new _ _))
    have HA : Hid (wr.heap[w.heap.size + 1]? = some (.cells #[.int .i64 0, .int .i64 0, .int .i64 0, .int .i64 0, .int .i64 0, .int .i64 0, .int .i64 0, .int .i64 0, .int .i64 0] 35 (0, 0))) := (HX.out.heap (by simp)).trans (heap_alloc_at _ _ _ (by simp))
    have HE0 : Hid (Ext w wr) := (((Ext.refl w).alloc _).alloc _).trans HX.out
    have lT := (Array.getElem?_eq_some_iff.1 HT.out).1
    have lA := (Array.getElem?_eq_some_iff.1 HA.out).1
    by_cases h9 : k < 9
    case neg =>
      obtain rfl : k = 9 := by omega
      obtain rfl : none = R := HV.out
      have zA := fun o => cell_of_row _ _ o _ _ _ HA.out
      have fA := fun o => frozen_of_row _ _ o _ _ HA.out
      have hE := HE0.out
      clear HC HRe HSo HLe HV HX
      go_wp2
      refine bodyPost_ret (v := .tuple #[.agg #[.int .i64 0, .int .i64 0, .int .i64 0, .int .i64 0, .int .i64 0, .int .i64 0, .int .i64 0, .int .i64 0, .int .i64 0], .bool false]) (by simp [results, Try.results37, go_sem, *]) rfl ?_
      exact ⟨rfl, (by repeat (first | (with_reducible refine Ext.setCell ?_ (by first | (simp; done) | (simp; omega)) _) | with_reducible refine Ext.alloc ?_ _ | with_reducible refine Ext.drew ?_ | with_reducible refine Ext.drewN ?_ _ | with_reducible assumption | with_reducible exact Ext.refl _ | with_reducible refine Ext.trans ?_ (by with_reducible assumption)))⟩
    have h9' : (k : Int) ≤ 8 := by omega
    have HCk := HC k h9
    have HRk := HRe k
    have hlen := (HLe k).out
    clear HC HRe HLe
    have zT := fun o => cell_of_row _ _ o _ _ _ HT.out
    cases hok : cdOk x y n k num den
    case false =>
      have hR : none = R := by rw [← HV.out, show 9 - k = (9 - k - 1) + 1 by omega]; exact (apV_bad hok).symm
      subst hR
      rw [hok] at HCk
      clear HV hok HRk HSo hlen HX
      go_wp2_with fail
      refine ((HCk _).out).mono ?_
      rintro e w1 ⟨v, rfl, o1, hx1⟩
      obtain ⟨va, cap, rfl, -, -, -⟩ := own_shape o1
      have hA1 := (hx1.heap lA).trans HA.out
      have zA := fun o => cell_of_row _ _ o _ _ _ hA1
      have fA := fun o => frozen_of_row _ _ o _ _ hA1
      have lA1 := (Array.getElem?_eq_some_iff.1 hA1).1
      have hE := HE0.out.trans hx1
      clear hx1 o1 HCk hA1 zT
      go_wp2
      refine bodyPost_ret (v := .tuple #[.agg #[.int .i64 0, .int .i64 0, .int .i64 0, .int .i64 0, .int .i64 0, .int .i64 0, .int .i64 0, .int .i64 0, .int .i64 0], .bool false]) (by simp [results, Try.results37, go_sem, *]) rfl ?_
      exact ⟨rfl, (by repeat (first | (with_reducible refine Ext.setCell ?_ (by first | (simp; done) | (simp; omega)) _) | with_reducible refine Ext.alloc ?_ _ | with_reducible refine Ext.drew ?_ | with_reducible refine Ext.drewN ?_ _ | with_reducible assumption | with_reducible exact Ext.refl _ | with_reducible refine Ext.trans ?_ (by with_reducible assumption)))⟩
    case true =>
      have HB : Hid (∀ o, fstU (cdC x y n k) (cdR x y n k num den) = o → (match o with | none => apV x y n num den (9 - (k + 1)) (k + 1) | some u => some (u, k)) = R) := fun o ho => by
        rw [← HV.out, show 9 - k = (9 - (k + 1)) + 1 by omega]
        cases o with
        | none => exact (apV_on hok ho).symm
        | some u => exact (apV_hit hok ho).symm
      rw [hok] at HCk
      clear HV hok
      generalize cdR x y n k num den = L at *
      go_wp2_with fail
      refine ((HCk _).out).mono ?_
      rintro e w1 ⟨v, rfl, o1, hx1⟩
      have HX1 := Lib.hid (HX.out.trans hx1)
      have HT1 := Lib.hid ((hx1.heap lT).trans HT.out)
      have HA1 := Lib.hid ((hx1.heap lA).trans HA.out)
      have HE1 := Lib.hid (HE0.out.trans hx1)
      obtain ⟨N, hN⟩ : ∃ N, L.length = N := ⟨_, rfl⟩
      have HN := Lib.hid hN
      rw [hN] at o1
      have HO1 := Lib.hid o1
      obtain ⟨va, cap, rfl, c1, c2, c3⟩ := own_shape o1
      have HP3 := Lib.hid c3
      rw [hN] at hlen
      clear hx1 o1 HCk zT lT lA HX HT HA HE0 hN c3
      have HK := Lib.hid hk
      obtain ⟨wo, rfl⟩ : ∃ wo : World, wo = wr := ⟨_, rfl⟩
      go_wp2
      go_loopw [12, 13, 14, 31] (fun _ _ _ s31 wq => ∃ j : Nat, j ≤ N ∧ s31 = .int .i64 j ∧ Hid (fstU (cdC x y n k) L = fstU (cdC x y n k) (L.drop j)) ∧ Hid (Ext w1 wq)) (fun _ _ _ s31 _ => N - (intOf s31).toNat)
      case atStart => exact ⟨0, by omega, rfl, rfl, Ext.refl _⟩
      case round =>
        obtain ⟨j, hj, rfl, HF, HY⟩ := hrel
        have HT2 := Lib.hid ((HY.out.heap (Array.getElem?_eq_some_iff.1 HT1.out).1).trans HT1.out)
        have HA2 := Lib.hid ((HY.out.heap (Array.getElem?_eq_some_iff.1 HA1.out).1).trans HA1.out)
        have HE2 := Lib.hid (HE1.out.trans HY.out)
        have hN2 : w1.heap.size ≤ wr.heap.size := HY.out.size
        have hw1 : w.heap.size + 1 < wr.heap.size := (Array.getElem?_eq_some_iff.1 HA2.out).1
        by_cases hlt : j < N
        case neg =>
          obtain rfl : j = N := by omega
          have HO := Lib.hid (HB.out none (by rw [HF.out, ← HN.out]; simp [fstU]))
          dsimp only at HO
          clear HB HRk HSo HP3 HO1
          go_wp2
          go_roundw
          case rel => exact ⟨k + 1, by omega, by go_num, HO, HX1.out.trans HY.out⟩
          case measure => simp [intOf]; omega
        have hlt' : (j : Int) < N := by omega
        have hjL : j < L.length := by rw [HN.out]; exact hlt
        obtain ⟨g, rfl, g1, g2, -, -⟩ := HP3.out (by omega)
        obtain ⟨z0, z1, z2, z3, zg⟩ := row_rd HO1.out HN.out HY.out hlt
        have HFd := fstU_drop (c := cdC x y n k) hjL
        have HRu := fun w' => HRk L[j] (List.getElem_mem hjL) w'
        obtain ⟨u, hu⟩ : ∃ u, L[j] = u := ⟨_, rfl⟩
        rw [hu] at z0 z1 z2 z3 HFd HRu
        clear HRk hu hjL
        have hS := fun w' => HSo (lfP (cdC x y n k) u) (lfQ u) w'
        rw [show (cdC x y n k).pw - smq u = lfP (cdC x y n k) u from rfl, show -(sqV u.a u.b u.c u.d) = lfQ u from rfl] at HRu
        rw [show (cdC x y n k).k = (k : Int) from rfl] at HRu
        unfold apS at HFd
        have HFn := Lib.hid (HF.out.trans HFd)
        clear HSo HFd HF
        obtain ⟨sv, hsv⟩ : ∃ sv, solV (lfP (cdC x y n k) u) (lfQ u) = sv := ⟨_, rfl⟩
        have HSV := Lib.hid hsv
        rw [hsv] at hS
        clear hsv
        obtain ⟨P, hP⟩ : ∃ P, lfP (cdC x y n k) u = P := ⟨_, rfl⟩
        obtain ⟨Q, hQ⟩ : ∃ Q, lfQ u = Q := ⟨_, rfl⟩
        rw [hP, hQ] at HRu hS HFn HSV
        have HPE := Lib.hid hP
        have HQE := Lib.hid hQ
        clear hP hQ
        obtain ⟨ua, ub, uc, ud⟩ := u
        obtain ⟨s1, s2, s3, s4⟩ := sv
        dsimp only at z0 z1 z2 z3 HRu hS
        cases hs : (fstN P Q).isSome
        case false =>
          rw [hs] at hS HFn
          simp only [Bool.false_eq_true, if_false] at HFn
          clear HB hs HSV HP3 HO1
          have zT := fun o => cell_of_row _ _ o _ _ _ HT2.out
          go_wp2_with fail
          refine ((HRu _).out).mono ?_
          rintro e w2 ⟨rfl, hx2⟩
          go_wp2_with fail
          refine ((hS _).out).mono ?_
          rintro e w3 ⟨rfl, hx3⟩
          have HX3 : Hid (Ext wr w3) := (((Ext.refl wr).alloc _).trans hx2).trans hx3
          clear hx2 hx3 z0 z1 z2 z3 zT
          go_wp2
          go_roundw
          case rel => exact ⟨j + 1, by omega, by go_num, HFn, (HY.out.trans HX3.out).alloc _⟩
          case measure => simp [intOf]; omega
        case true =>
          have hOb := HB.out (some ⟨ua, ub, uc, ud⟩) (by rw [HFn.out]; simp [hs])
          dsimp only at hOb
          subst hOb
          rw [hs] at hS
          have HSV' : Hid (solV (lfP (cdC x y n k) ⟨ua, ub, uc, ud⟩) (lfQ ⟨ua, ub, uc, ud⟩) = (s1, s2, s3, s4)) := by rw [HPE.out, HQE.out]; exact HSV.out
          clear hs HSV HP3 HO1 HFn HPE HQE
          have zT := fun o => cell_of_row _ _ o _ _ _ HT2.out
          go_wp2_with fail
          refine ((HRu _).out).mono ?_
          rintro e w2 ⟨rfl, hx2⟩
          have hU2 := (hx2.heap (k := wr.heap.size) (by simp)).trans (heap_alloc_new wr (.cells #[.int .i64 ua, .int .i64 ub, .int .i64 uc, .int .i64 ud] 33 (0, 0)))
          have HX2 := Lib.hid (((Ext.refl wr).alloc _).trans hx2)
          have HU2 := Lib.hid hU2
          clear hU2 hx2
          go_wp2_with fail
          refine ((hS _).out).mono ?_
          rintro e w3 ⟨rfl, hx3⟩
          have hU3 := (hx3.heap (Array.getElem?_eq_some_iff.1 HU2.out).1).trans HU2.out
          have hA3 := ((HX2.out.trans hx3).heap (Array.getElem?_eq_some_iff.1 HA2.out).1).trans HA2.out
          have HE3 := Lib.hid (HE2.out.trans (HX2.out.trans hx3))
          have zU := fun o => cell_of_row _ _ o _ _ _ hU3
          have zA := fun o => cell_of_row _ _ o _ _ _ hA3
          have fA := fun o => frozen_of_row _ _ o _ _ hA3
          have lU := (Array.getElem?_eq_some_iff.1 hU3).1
          have lA := (Array.getElem?_eq_some_iff.1 hA3).1
          clear hx3 z0 z1 z2 z3 zT hU3 hA3
          have hE := HE3.out
          go_wp2
          refine bodyPost_ret (v := .tuple #[.agg #[.int .i64 ua, .int .i64 ub, .int .i64 uc, .int .i64 ud, .int .i64 s1, .int .i64 s2, .int .i64 s3, .int .i64 s4, .int .i64 k], .bool true]) (by simp [results, Try.results37, go_sem, *]) rfl ?_
          refine ⟨?_, (by repeat (first | (with_reducible refine Ext.setCell ?_ (by first | (simp; done) | (simp; omega)) _) | with_reducible refine Ext.alloc ?_ _ | with_reducible refine Ext.drew ?_ | with_reducible refine Ext.drewN ?_ _ | with_reducible assumption | with_reducible exact Ext.refl _ | with_reducible refine Ext.trans ?_ (by with_reducible assumption)))⟩
          simp only [apA]
          rw [HSV'.out]
          rfl

end Go.Proofs.Ytbffcpnpdpgfeaa
