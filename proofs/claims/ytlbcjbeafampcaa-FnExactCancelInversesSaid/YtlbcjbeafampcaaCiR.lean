/- Inverses that cancel: the program's certificate. -/
import Derived.Test.YtlbcjbeafampcaaCiP
import Derived.Test.YtlbcjbeafampcaaCiT
import Derived.Test.YtlbcjbeafampcaaAppP
import Derived.Test.YtlbcjbeafampcaaCgK
import Derived.Deep.LoopGhost
import Derived.Deep.RegionLaw
namespace Go.Proofs.Ytlbcjbeafampcaa
open Go.RowKit Go.Lib
set_option linter.unusedVariables false
set_option linter.unusedSimpArgs false

set_option maxRecDepth 20000 in
set_option maxHeartbeats 8000000 in
theorem repeated_any (q : Int) {v : Value} {n : Nat} {xs : List Int} (hc : cOk q xs n = true) (w : World) (h : RV w 3 v n xs) :
    Calls Try.prog 57 #[.agg #[.int .i64 q, v], .func (.func 58) #[] #[]] w fun e w' => ∃ x1 x3 x2, e = .returned (.tuple #[.agg #[.int .i64 q, x1, x3, .int .i64 q, x2], .bool true]) ∧
      CZ w' w.heap.size w'.heap.size x1 x3 x2 (cCv q xs n) ∧ Ext w w' := by
  have hlx := h.1
  have hn : n ≤ 400 := by
    unfold cOk at hc
    simp only [Bool.and_eq_true, decide_eq_true_eq] at hc
    exact hc.2.1
  have HINV := Lib.hid (fun k hk => cu_inv hlx hc k hk)
  have HCI : ∀ {v : Value} {n : Nat} {xs : List Int}, n ≤ 400 → cOk q xs n = true → ∀ w', RV w' 3 v n xs → Hid (Calls Try.prog 80 #[.int .i64 q, v] w' fun e w'' => ∃ v', e = .returned (.tuple #[.agg #[.int .i64 q, v'], .bool true]) ∧ w''.ownsRow w'.heap.size 73 3 v' n (IL xs) ∧ Ext w' w'') := fun hn hc w' h => by
    have h2 := circuitIf_any q (by omega) w' h
    simp only [hc, if_true] at h2
    exact h2
  have HC0 := fun w' (hx : Ext w w') => HCI hn hc w' (h.ext hx)
  have HCAN := fun {v : Value} {n : Nat} {xs : List Int} (hc : cOk q xs n = true) w' h => Lib.hid (cancelling_any q (v := v) (n := n) (xs := xs) hc w' h)
  have HAP := fun {t : Int} {v1 v2 v3 : Value} {n m l : Nat} {xs ys zs : List Int} (hn : n ≤ 2000000) (hm : m ≤ 2000000) (hl : l ≤ 2000000) w' (h1 : RVs w' 3 v1 n xs) (h2 : RV w' 3 v2 m ys) (h3 : RV w' 3 v3 l zs) => Lib.hid (applyReplacement_any q t hn hm hl w' h1 h2 h3)
  have HK0 : Hid (cK xs n = fst (stF xs n) n 0) := rfl
  obtain ⟨_, a0, c0, rfl, _, _, _⟩ := h
  have HCV : Hid (∀ k, cK xs n = k → cCv q xs n = ⟨q, n, xs, k, cRk xs n, q, (cu xs n k).1, (cu xs n k).2⟩) := fun k hk => by subst hk; rfl
  generalize cCv q xs n = CC at *
  generalize cK xs n = KK at *
  have HT0 : Hid (∀ W, Ext ((w.alloc (.cells #[.int .i64 q, .slice a0 n c0] 31 (0, 0))).alloc (.cells #[.int .i64 0, .slice none 0 0, .slice none 0 0, .int .i64 0, .slice none 0 0] 34 (0, 0))) W →
      W.heap[w.heap.size]? = some (.cells #[.int .i64 q, .slice a0 n c0] 31 (0, 0)) ∧ W.heap[w.heap.size + 1]? = some (.cells #[.int .i64 0, .slice none 0 0, .slice none 0 0, .int .i64 0, .slice none 0 0] 34 (0, 0))) := fun W hx =>
    ⟨row_farC (heap_alloc_lt (heap_alloc_new _ _)) hx, row_farC (heap_alloc_at _ _ _ (by simp)) hx⟩
  go_enter Try.func57, Try.ntmps57
  go_wp2_with fail
  refine (HC0 _ (by repeat (first | (with_reducible refine Ext.setCell ?_ (by first | (simp; done) | (simp; omega)) _) | with_reducible refine Ext.alloc ?_ _ | with_reducible refine Ext.drew ?_ | with_reducible refine Ext.drewN ?_ _ | with_reducible assumption | with_reducible exact Ext.refl _ | with_reducible refine Ext.trans ?_ (by with_reducible assumption)))).out.mono ?_
  rintro e w2 ⟨vB, rfl, oB, hx2⟩
  obtain ⟨hT, hR⟩ := HT0.out _ hx2
  obtain ⟨aB, cB, rfl, _, _, _⟩ := own_shape oB
  have HE2 := Lib.hid (show Ext w w2 from (by repeat (first | (with_reducible refine Ext.setCell ?_ (by first | (simp; done) | (simp; omega)) _) | with_reducible refine Ext.alloc ?_ _ | with_reducible refine Ext.drew ?_ | with_reducible refine Ext.drewN ?_ _ | with_reducible assumption | with_reducible exact Ext.refl _ | with_reducible refine Ext.trans ?_ (by with_reducible assumption))))
  have hx2s := hx2.size
  simp at hx2s
  obtain ⟨wL, hwL⟩ : ∃ wL, wL = (w2.alloc (.cells #[.int .i64 q, .slice aB n cB] 31 (0, 0))).alloc (.cells #[.int .i64 q, .slice aB n cB, .slice none 0 0, .int .i64 q, .slice aB n cB] 34 (0, 0)) := ⟨_, rfl⟩
  have HL2 : Hid (Ext w2 wL) := by rw [hwL]; exact ((Ext.refl _).alloc _).alloc _
  have H8L : Hid (wL.heap[w2.heap.size + 1]? = some (.cells #[.int .i64 q, .slice aB n cB, .slice none 0 0, .int .i64 q, .slice aB n cB] 34 (0, 0))) := by rw [hwL]; exact heap_alloc_at _ _ _ (by simp)
  have HTL := Lib.hid (row_farC hT HL2.out)
  have HRL := Lib.hid (row_farC hR HL2.out)
  have HOB : Hid (w2.ownsRow (w.heap.size + 2) 73 3 (.slice aB n cB) n (IL xs)) := own_base oB (by simp)
  have hsL : w2.heap.size + 2 ≤ wL.heap.size := by rw [hwL]; simp
  have HEL := Lib.hid (HE2.out.trans HL2.out)
  have hLB : Hid (∀ j, (Value.slice aB n cB).ownBlock = some j → w.heap.size + 2 ≤ j ∧ j < w2.heap.size) := fun j hj => HOB.out.lt j hj
  clear oB hT hR hx2 HT0 HC0
  go_wp2
  rw [← hwL]
  obtain ⟨B8, hB8⟩ : ∃ B8, w2.heap.size + 1 = B8 := ⟨_, rfl⟩
  simp only [hB8] at H8L ⊢
  clear hwL
  have hst : CiSt wL (w.heap.size + 2) wL.heap.size (fun j => j = B8) xs n 0 (.slice none 0 0) (.slice aB n cB) :=
    ⟨own_ext HOB.out HL2.out, fun j hj e => by have := hLB.out j hj; omega, _, rsp_none _ _ _, fun j hj => hj.elim⟩
  have HST := Lib.hid hst
  clear hst
  go_loopg [] n (fun g wr => ∃ (k : Nat) (vs vA : Value), k + g = n ∧ Hid (KK = fst (stF xs n) g k) ∧ Hid (∀ j, j < k → stF xs n j = false) ∧ Hid (wr.heap[B8]? = some (.cells #[.int .i64 q, .slice aB n cB, vs, .int .i64 q, vA] 34 (0, 0))) ∧ Hid (CiSt wr (w.heap.size + 2) wL.heap.size (fun j => j = B8) xs n k vs vA) ∧ GX [B8] wL wr)
  case atStart => exact ⟨0, _, _, by omega, HK0.out, (show Hid _ from fun j hj => absurd hj (by omega)), H8L.out, HST.out, GX.refl _ _⟩
  case round =>
    obtain ⟨k, vs, vA, hkg, HKK, HFF, H8, HS, hG⟩ := hrel
    have HG := Lib.hid hG
    have hsr := hG.size
    have HEr := Lib.hid ((GX.join (S := []) (GX.ofExt HEL.out) hG (fun x hx => by simp at hx; right; omega)).toExt (fun k hk => by simp at hk))
    obtain ⟨i1, i2, i3⟩ := HINV.out k HFF.out
    have HSTF : Hid (stF xs n k = !(cOkB (cu xs n k).2 (cu xs n k).1)) := rfl
    have HNXT : Hid (cu xs n (k + 1) = cuS ((cu xs n k).1, (cu xs n k).2)) := rfl
    have HRK : Hid (cRk xs n k = cR (cu xs n k).2 (cu xs n k).1) := rfl
    have HLN := Lib.hid (cR_len (xs := (cu xs n k).2) (n := (cu xs n k).1) i2)
    have HAPF := Lib.hid (fun h => cu_ap (q := q) i2 i3 h)
    obtain ⟨oA, hDA, S, hrs, hSS⟩ := HS.out
    have HOA := Lib.hid oA
    have HDA := Lib.hid hDA
    have HRS := Lib.hid hrs
    have HSS := Lib.hid hSS
    obtain ⟨aA, cA, rfl, _, _, _⟩ := own_shape oA
    obtain ⟨aS, cS, rfl⟩ := hrs.shape
    have HRVA := Lib.hid (RVs.own oA i2)
    have HI2 := Lib.hid i2
    have HI3 := Lib.hid i3
    clear oA hDA hrs hSS i2 i3 HS
    have hNn : (cu xs n k).1 ≤ 400 := by omega
    have HCVk := Lib.hid (HCV.out k)
    generalize hN : (cu xs n k).1 = N at *
    generalize hL : (cu xs n k).2 = L at *
    have HN := Lib.hid hN
    have HL := Lib.hid hL
    clear hN hL
    have hT := (hG.heap (Array.getElem?_eq_some_iff.1 HTL.out).1 (by simp; omega)).trans HTL.out
    have hR := (hG.heap (Array.getElem?_eq_some_iff.1 HRL.out).1 (by simp; omega)).trans HRL.out
    have HTr := Lib.hid hT
    have HRr := Lib.hid hR
    have z8 := fun k => cell_of_row _ _ k _ _ _ H8.out
    have l8 := (Array.getElem?_eq_some_iff.1 H8.out).1
    clear hT hR hG
    go_wp2_with fail
    refine (HCAN HI3.out _ HRVA.out.rv).out.mono ?_
    rintro e w3 ⟨u0, u1, rfl, o0, o1, dj, hx3⟩
    have HO0 := Lib.hid o0
    have HO1 := Lib.hid o1
    have HDJ := Lib.hid dj
    have HX3 := Lib.hid hx3
    obtain ⟨b0, d0, rfl, _, _, _⟩ := own_shape o0
    obtain ⟨b1, d1, rfl, _, _, _⟩ := own_shape o1
    have hs3 := hx3.size
    clear o0 o1 dj hx3 z8 l8
    cases hok : cOkB L N
    · have HSTK : Hid (stF xs n k = true) := by unfold Hid; rw [HSTF.out, hok]; rfl
      have HKE : Hid (KK = k) := HKK.out.trans (fst_yes HSTK.out)
      have HCE := Lib.hid (HCVk.out HKE.out)
      clear hok HAPF HKK HSTK
      have h8 := row_farC H8.out HX3.out
      have hT := row_farC HTr.out HX3.out
      have hR := row_farC HRr.out HX3.out
      obtain ⟨w4, hw4⟩ : ∃ w4, w4 = w3.alloc (.cells #[.int .i64 (cR L N).t, .slice b0 (cR L N).m1 d0, .slice b1 (cR L N).m2 d1] 45 (0, 0)) := ⟨_, rfl⟩
      have HX4 : Hid (Ext wr w4) := by rw [hw4]; exact HX3.out.alloc _
      have h8' : w4.heap[B8]? = some (.cells #[.int .i64 q, .slice aB n cB, .slice aS k cS, .int .i64 q, .slice aA N cA] 34 (0, 0)) := by rw [hw4]; exact heap_alloc_lt h8
      have hT' : w4.heap[w.heap.size]? = some (.cells #[.int .i64 q, .slice a0 n c0] 31 (0, 0)) := by rw [hw4]; exact heap_alloc_lt hT
      have hR' : w4.heap[w.heap.size + 1]? = some (.cells #[.int .i64 0, .slice none 0 0, .slice none 0 0, .int .i64 0, .slice none 0 0] 34 (0, 0)) := by rw [hw4]; exact heap_alloc_lt hR
      have H84 := Lib.hid h8'
      have HR4 := Lib.hid hR'
      have z8 := fun k => cell_of_row _ _ k _ _ _ h8'
      have l8 := (Array.getElem?_eq_some_iff.1 h8').1
      have zT := fun k => cell_of_row _ _ k _ _ _ hT'
      have lT := (Array.getElem?_eq_some_iff.1 hT').1
      clear h8 hT hR h8' hT' hR'
      go_upto_region 4 with fail
      rw [← hw4]
      clear hw4
      go_wp2_with fail
      refine (HCI (by omega) HI3.out _ (HRVA.out.rv.ext HX4.out)).out.mono ?_
      rintro e w5 ⟨vC, rfl, oC, hx5⟩
      have HX5 := Lib.hid (HX4.out.trans hx5)
      have HOC := Lib.hid oC
      obtain ⟨aC, cC, rfl, _, _, _⟩ := own_shape oC
      have h8 := row_farC H84.out hx5
      have hR := row_farC HR4.out hx5
      have H85 := Lib.hid h8
      have HR5 := Lib.hid hR
      clear oC hx5 z8 l8 zT lT
      have z8 := fun k => cell_of_row _ _ k _ _ _ h8
      have f8 := fun k => frozen_of_row _ _ k _ _ h8
      have l8 := (Array.getElem?_eq_some_iff.1 h8).1
      have zR := fun k => cell_of_row _ _ k _ _ _ hR
      have fR := fun k => frozen_of_row _ _ k _ _ hR
      have lR := (Array.getElem?_eq_some_iff.1 hR).1
      have s5 := HX5.out.size
      have s4 := HX4.out.size
      clear h8 hR
      have hB8n : w.heap.size + 1 ≠ B8 := by omega
      have hB8n' : w.heap.size + 1 < B8 := by omega
      go_wp2
      refine bodyPost_ret (v := .tuple #[.agg #[.int .i64 q, .slice aB n cB, .slice aS k cS, .int .i64 q, .slice aC N cC], .bool true]) (by simp [results, Try.results57, go_sem, *]) rfl ?_
      have lC := fun j hj => HOC.out.lt j hj
      have hEE : Ext w w5 := HEr.out.trans HX5.out
      refine ⟨_, _, _, rfl, ?_, (by repeat (first | (with_reducible refine Ext.setCell ?_ (by first | (simp; done) | (simp; omega)) _) | with_reducible refine Ext.alloc ?_ _ | with_reducible refine Ext.drew ?_ | with_reducible refine Ext.drewN ?_ _ | with_reducible assumption | with_reducible exact Ext.refl _ | with_reducible refine Ext.trans ?_ (by with_reducible assumption)))⟩
      · rw [HCE.out]
        refine ⟨own_base (base := w.heap.size + 2) ?_ (by omega), own_base (base := w4.heap.size) ?_ (by omega), fun j hj => ?_, fun j hj => ?_, fun j hj hj2 => ?_, S, RSP.weak (lo := wL.heap.size) (S := S) ?_ (by omega) (fun k hk => hk), fun j hj => ⟨?_, fun e => ?_, fun e => ?_⟩⟩
        · have o := own_ext (own_gxs (own_ext HOB.out HL2.out) HG.out (fun j hj => by have := hLB.out j hj; simp; omega)) HX5.out
          repeat (with_reducible refine own_setc ?_ (fun j hj => by have := hLB.out j hj; (first | omega | (simp; omega))) _)
          exact o
        · have o := HOC.out
          repeat (with_reducible refine own_setc ?_ (fun j hj => by have := lC j hj; (first | omega | (simp; omega))) _)
          exact o
        · have := hLB.out j hj; simp; omega
        · have := lC j hj; simp; omega
        · have := hLB.out j hj; have := lC j hj2; omega
        · have o := HRS.out.ext HX5.out
          (repeat with_reducible refine RSP.set ?_ (by simp; omega) _)
          exact o
        · have := (HSS.out j hj).1; simp; omega
        · have := (HSS.out j hj).1; have := hLB.out j e; omega
        · have := (HSS.out j hj).1; have := lC j e; omega
    · obtain ⟨p1, p2, p3, p4, p5, p6, p7⟩ := HAPF.out hok
      have HSTK : Hid (stF xs n k = false) := by unfold Hid; rw [HSTF.out, hok]; rfl
      have hcu : cu xs n (k + 1) = cuS (N, L) := HNXT.out
      have HCU := Lib.hid hcu
      have hN2 : 0 < gk := by omega
      obtain ⟨lx, ly, m40, l40⟩ := HLN.out
      have h8 := row_farC H8.out HX3.out
      obtain ⟨w4, hw4⟩ : ∃ w4, w4 = w3.alloc (.cells #[.int .i64 (cR L N).t, .slice b0 (cR L N).m1 d0, .slice b1 (cR L N).m2 d1] 45 (0, 0)) := ⟨_, rfl⟩
      have HX34 : Hid (Ext w3 w4) := by rw [hw4]; exact (Ext.refl _).alloc _
      have HX4 := Lib.hid (HX3.out.trans HX34.out)
      have h84 := row_farC h8 HX34.out
      have h94 : w4.heap[w3.heap.size]? = some (.cells #[.int .i64 (cR L N).t, .slice b0 (cR L N).m1 d0, .slice b1 (cR L N).m2 d1] 45 (0, 0)) := by rw [hw4]; exact heap_alloc_new _ _
      have hs34 : w3.heap.size < w4.heap.size := (Array.getElem?_eq_some_iff.1 h94).1
      have ha := HAP (t := (cR L N).t) (by omega) (by omega) (by omega) w4 (HRVA.out.ext HX4.out) (RV.own (own_ext HO0.out HX34.out) lx) (RV.own (own_ext HO1.out HX34.out) ly)
      rw [p1, p5, p6, p7] at ha
      have HA := Lib.hid ha
      have HRKN : Hid (cRk xs n k = cR L N) := HRK.out
      have HCN : Hid ((cu xs n (k + 1)).1 = (cuS (N, L)).1 ∧ (cu xs n (k + 1)).2 = (cuS (N, L)).2) := by rw [HCU.out]; exact ⟨rfl, rfl⟩
      clear ha p1 p2 p3 p4 p5 p6 p7 lx ly hok HAPF HLN HRK HNXT HSTF hcu h8 HCU HI2 HI3 HINV HCVk HCV HN HL
      generalize (cuS (N, L)).1 = N' at *
      generalize (cuS (N, L)).2 = L' at *
      generalize ht : (cR L N).t = t at *
      have HTT := Lib.hid ht
      clear ht
      generalize hm1 : (cR L N).m1 = m1 at *
      generalize hm2 : (cR L N).m2 = m2 at *
      have HM12 := Lib.hid (And.intro hm1 hm2)
      clear hm1 hm2
      have z8 := fun k => cell_of_row _ _ k _ _ _ h84
      have l8 := (Array.getElem?_eq_some_iff.1 h84).1
      have z9 := fun k => cell_of_row _ _ k _ _ _ h94
      have l9 := (Array.getElem?_eq_some_iff.1 h94).1
      obtain ⟨B9, hB9⟩ : ∃ B9, w3.heap.size = B9 := ⟨_, rfl⟩
      simp only [hB9] at h94 z9 l9
      have H84 := Lib.hid h84
      have H94 := Lib.hid h94
      have hs4 := HX4.out.size
      go_upto_region 4 with fail
      rw [← hw4]
      try simp only [hB9]
      clear hw4 h84 h94
      go_wp2_with fail
      refine HA.out.mono ?_
      rintro e w5 ⟨vN, rfl, oN, hx5⟩
      obtain ⟨aN, cN, rfl, _, _, _⟩ := own_shape oN
      have HON := Lib.hid oN
      have h8 := row_farC H84.out hx5
      have h9 := row_farC H94.out hx5
      obtain ⟨w6, hw6⟩ : ∃ w6, w6 = w5.alloc (.cells #[.int .i64 q, .slice aN N' cN] 31 (0, 0)) := ⟨_, rfl⟩
      have HX56 : Hid (Ext w5 w6) := by rw [hw6]; exact (Ext.refl _).alloc _
      have h11 : w6.heap[w5.heap.size]? = some (.cells #[.int .i64 q, .slice aN N' cN] 31 (0, 0)) := by rw [hw6]; exact heap_alloc_new _ _
      have h86 := row_farC h8 HX56.out
      have h96 := row_farC h9 HX56.out
      have hs5 := hx5.size
      have HX6 := Lib.hid (HX4.out.trans (hx5.trans HX56.out))
      have HX36 := Lib.hid (HX34.out.trans (hx5.trans HX56.out))
      have hs6 := HX56.out.size
      clear h8 h9 hx5 oN HA z8 l8 z9 l9
      have z8 := fun k => cell_of_row _ _ k _ _ _ h86
      have f8 := fun k => frozen_of_row _ _ k _ _ h86
      have l8 := (Array.getElem?_eq_some_iff.1 h86).1
      have z9 := fun k => cell_of_row _ _ k _ _ _ h96
      have l9 := (Array.getElem?_eq_some_iff.1 h96).1
      have z11 := fun k => cell_of_row _ _ k _ _ _ h11
      have l11 := (Array.getElem?_eq_some_iff.1 h11).1
      go_upto_region 8 with fail
      rw [← hw6]
      obtain ⟨BN, hBN⟩ : ∃ BN, w5.heap.size = BN := ⟨_, rfl⟩
      simp only [hBN] at h11 z11 l11
      try simp only [hBN]
      have H86 := Lib.hid h86
      clear hw6 h86 h96 h11
      -- the steps so far, in this world
      obtain ⟨zs, ho, hl, hin, hd, he⟩ := HRS.out
      have HOS := Lib.hid (own_ext ho HX6.out)
      have HZL := Lib.hid hl
      have HIN := Lib.hid hin
      have HDB := Lib.hid hd
      have HEZ := Lib.hid (fun i hi => (he i hi).ext HX6.out)
      have HOU0 := Lib.hid (own_ext HO0.out HX36.out)
      have HOU1 := Lib.hid (own_ext HO1.out HX36.out)
      have HON6 := Lib.hid (own_ext HON.out HX56.out)
      clear ho hl hin hd he
      obtain ⟨Sl, hsl1, hsl2⟩ := row_list (.slice aS k cS)
      have hsl3 : ∀ b ∈ Sl, wL.heap.size ≤ b ∧ b < wr.heap.size := fun b hb => (HSS.out b (HIN.out.1 b (hsl2 b hb))).1
      have HSL1 := Lib.hid hsl1
      have HSL2 := Lib.hid hsl2
      have HSL3 := Lib.hid hsl3
      clear hsl1 hsl2 hsl3
      have hB8L : B8 < wL.heap.size := by omega
      have h9n : B9 ∉ B8 :: Sl := fun h => by
        rcases List.mem_cons.1 h with h | h
        · omega
        · have := HSL3.out _ h; omega
      have hNn' : BN ∉ B8 :: Sl := fun h => by
        rcases List.mem_cons.1 h with h | h
        · omega
        · have := HSL3.out _ h; omega
      have hS8 : B8 ∈ B8 :: Sl := List.mem_cons_self
      have hS8b : w6.heap.size ≠ B8 := by omega
      have hB9n : B9 ≠ B8 := by omega
      have hBNn : BN ≠ B8 := by omega
      have hvs8 : Hid ((Value.slice aS k cS).ownBlock ≠ some B8) := fun e => by have := (HSS.out _ (HIN.out.1 _ e)).1; omega
      have hvsN : Hid ((Value.slice aS k cS).ownBlock ≠ some BN) := fun e => by have := (HSS.out _ (HIN.out.1 _ e)).1; omega
      clear h9n hNn'
      go_upto_region 10 with fail
      go_region_law
          (refine step_append_val (base := wL.heap.size) rfl elt_RP rfl (.slice aS k cS) k zs rfl ?_ (.slice (some ⟨w6.heap.size, 0, none⟩) 1 1) 1 [.int .i64 t, .slice b0 m1 d0, .slice b1 m2 d1] rfl ?_ ?_ ?_ ?_
           · exact (by refine own_base (base := wL.heap.size) ?_ (by first | omega | (simp; omega)); repeat (first | (with_reducible exact HOS.out) | (with_reducible refine own_set ?_ (by first | omega | (simp; done) | (simp; omega)) _) | (with_reducible refine own_ext ?_ ((Ext.refl _).alloc _)) | (with_reducible refine own_ext ?_ (Ext.refl _).drew) | (with_reducible refine own_ext ?_ ((Ext.refl _).drewN _)) | (exact HOS.out)))
           · exact RVV.ofHeap ((by repeat (first | with_reducible exact heap_alloc_new _ _ | with_reducible refine heap_drewx ?_ | with_reducible refine heap_set_ne (by first | omega | (simp; done) | (simp; omega)) ?_))) rfl rfl (by intro u hu; simp at hu; rcases hu with rfl | rfl | rfl <;> rfl)
           · omega
           · (first | omega | (simp; done) | (simp; omega))
           intro v5 w7 hown5 hgrow5 hiff5 hloc5
           have HG7 : Hid (GX (B8 :: Sl) w6 w7) := GX.trans (by repeat (first | (with_reducible refine GX.setCell ?_ (by first | (simp; done) | (simp; omega)) _) | with_reducible refine GX.alloc ?_ _ | with_reducible refine GX.drew ?_ | with_reducible refine GX.drewN ?_ _ | with_reducible assumption | with_reducible exact GX.refl _ _ | with_reducible refine GX.ext ?_ (by with_reducible assumption) | with_reducible refine GX.trans ?_ (by with_reducible assumption))) ((HSL1.out _ _ hgrow5).mono (fun x hx => .inl (List.mem_cons_of_mem _ hx)))
           obtain ⟨hcN, -⟩ := grown_cells (b := BN) hgrow5 (by first | omega | (simp; done) | (simp; omega)) hvsN.out
           obtain ⟨hc7, hf7⟩ := grown_cells (b := B8) hgrow5 (by first | omega | (simp; done) | (simp; omega)) hvs8.out
           have HRF := Lib.hid (rsp_one (lo := wL.heap.size) (R := cRk xs n) (hi := wr.heap.size) (va := .slice b0 m1 d0) (vb := .slice b1 m2 d1) (by refine own_base (base := wL.heap.size) ?_ (by first | omega | (simp; omega)); repeat (first | (with_reducible exact HOS.out) | (with_reducible refine own_set ?_ (by first | omega | (simp; done) | (simp; omega)) _) | (with_reducible refine own_ext ?_ ((Ext.refl _).alloc _)) | (with_reducible refine own_ext ?_ (Ext.refl _).drew) | (with_reducible refine own_ext ?_ ((Ext.refl _).drewN _)) | (exact HOS.out))) HZL.out HIN.out HDB.out (fun i hi => (by repeat (first | exact HEZ.out i hi | with_reducible refine ELz.set ?_ (by first | omega | (simp; done) | (simp; omega)) _ | with_reducible refine ELz.ext ?_ ((Ext.refl _).alloc _) | with_reducible refine ELz.ext ?_ (Ext.refl _).drew))) (fun b hb => (HSS.out b hb).1.2) (by omega) (by first | omega | (simp; done) | (simp; omega))
             (by rw [HRKN.out, HM12.out.1]; exact (by refine own_base (base := wr.heap.size) ?_ (by first | omega | (simp; omega)); repeat (first | (with_reducible exact HOU0.out) | (with_reducible refine own_set ?_ (by first | omega | (simp; done) | (simp; omega)) _) | (with_reducible refine own_ext ?_ ((Ext.refl _).alloc _)) | (with_reducible refine own_ext ?_ (Ext.refl _).drew) | (with_reducible refine own_ext ?_ ((Ext.refl _).drewN _)) | (exact HOU0.out)))) (by rw [HRKN.out, HM12.out.2]; exact (by refine own_base (base := wr.heap.size) ?_ (by first | omega | (simp; omega)); repeat (first | (with_reducible exact HOU1.out) | (with_reducible refine own_set ?_ (by first | omega | (simp; done) | (simp; omega)) _) | (with_reducible refine own_ext ?_ ((Ext.refl _).alloc _)) | (with_reducible refine own_ext ?_ (Ext.refl _).drew) | (with_reducible refine own_ext ?_ ((Ext.refl _).drewN _)) | (exact HOU1.out)))) HDJ.out (by rw [HRKN.out, HTT.out]; exact hown5) hgrow5 hloc5)
           have HGR := Lib.hid hgrow5
           have H87 : Hid (w7.heap[B8]? = some (.cells #[.int .i64 q, .slice aB n cB, .slice aS k cS, .int .i64 q, .slice aA N cA] 34 (0, 0))) := heap_grown hgrow5 (k := B8) (by repeat (first | with_reducible exact H86.out | with_reducible refine heap_alloc_lt ?_ | with_reducible refine heap_drewx ?_)) (fun e => hvs8.out e.symm)
           have HON7 : Hid (w7.ownsRow w4.heap.size 73 3 (.slice aN N' cN) N' (IL L')) := own_far ((by refine own_base (base := w4.heap.size) ?_ (by first | omega | (simp; omega)); repeat (first | (with_reducible exact HON6.out) | (with_reducible refine own_set ?_ (by first | omega | (simp; done) | (simp; omega)) _) | (with_reducible refine own_ext ?_ ((Ext.refl _).alloc _)) | (with_reducible refine own_ext ?_ (Ext.refl _).drew) | (with_reducible refine own_ext ?_ ((Ext.refl _).drewN _)) | (exact HON6.out)))) hgrow5 (fun j hj i hi e => by have := (HSS.out _ (HIN.out.1 _ hj)).1; have := (HON6.out.lt i hi).1; omega)
           have HLB5 : Hid (∀ j, v5.ownBlock = some j → wL.heap.size ≤ j ∧ j < w7.heap.size) := fun j hj => hown5.lt j hj
           have HLC5 : Hid (∀ j, v5.ownBlock = some j → (Value.slice aS k cS).ownBlock = some j ∨ w6.heap.size ≤ j) := fun j hj => by
             rcases hloc5 with h | h
             · exact .inl (by rw [← h]; exact hj)
             · right
               rw [h] at hj
               have h9 := Option.some.inj hj
               rw [← h9]
               first | omega | (simp; done) | (simp; omega)
           obtain ⟨a5, c5, rfl, _, _, _⟩ := own_shape hown5
           have hs7 := hgrow5.size
           (try simp at hs7)
           clear hown5 hgrow5 hiff5 hloc5)
      all_goals
        go_wp2
        go_roundg (gk - 1)
        case measure => omega
        case rel =>
          have hN7 := fun j hj => HON6.out.lt j hj
          refine ⟨k + 1, .slice a5 (k + 1) c5, .slice aN N' cN, by omega, ?_, ?_, ?_, ?_, ?_⟩
          · exact HKK.out.trans (fst_no hN2 HSTK.out)
          · intro j hj
            by_cases e : j = k
            · subst e; exact HSTK.out
            · exact HFF.out j (by omega)
          · first
            | exact heap_set_at (heap_set_at (heap_set_at H87.out 2 _) 3 _) 4 _
            | exact heap_set_at (heap_set_at (heap_set_at H87.out 3 _) 4 _) 2 _
          · refine ⟨?_, fun j hj e => by have := hN7 j hj; omega, (fun b => S b ∨ ((Value.slice b0 m1 d0).ownBlock = some b ∨ (Value.slice b1 m2 d1).ownBlock = some b) ∨ (Value.slice a5 (k + 1) c5).ownBlock = some b), ?_, fun j hj => ⟨?_, fun e => ?_⟩⟩
            · rw [HCN.out.1, HCN.out.2]
              refine own_base (base := w4.heap.size) ?_ (by omega)
              (repeat with_reducible refine own_set ?_ (by simp; omega) _)
              exact HON7.out
            · (repeat with_reducible refine RSP.set ?_ (by simp; omega) _)
              exact HRF.out
            · rcases hj with h | (h | h) | h
              · have := (HSS.out j h).1; simp; omega
              · have := HO0.out.lt j h; simp; omega
              · have := HO1.out.lt j h; simp; omega
              · have := HLB5.out j h; simp; omega
            · have h3 := hN7 j e
              rcases hj with h | (h | h) | h
              · have := (HSS.out j h).1; omega
              · have := HO0.out.lt j h; omega
              · have := HO1.out.lt j h; omega
              · rcases HLC5.out j h with h4 | h4
                · have := (HSS.out _ (HIN.out.1 _ h4)).1; omega
                · omega
          · have hGG : GX [B8] wL w7 := (HG.out.ext HX6.out).join HG7.out (fun x hx => by
              rcases List.mem_cons.1 hx with h | h
              · left; simp [h]
              · right; exact (HSL3.out _ h).1)
            (repeat with_reducible refine GX.setCell ?_ (by left; simp) _)
            exact hGG

set_option maxHeartbeats 2000000 in
theorem cancelInverses_any (q : Int) {v : Value} {n : Nat} {xs : List Int} (hn : n ≤ 2000000) (w : World) (h : RV w 3 v n xs) :
    Calls Try.prog 30 #[.agg #[.int .i64 q, v]] w fun e w' => ∃ x1 x3 x2, e = .returned (.tuple #[.agg #[.int .i64 (cC q xs n).q1, x1, x3, .int .i64 (cC q xs n).q2, x2], .bool (cOk q xs n)]) ∧
      CZ w' w.heap.size w'.heap.size x1 x3 x2 (cC q xs n) ∧ Ext w w' := by
  have HV := fun w' (hx : Ext w w') => Lib.hid (isValidCircuit_any q hn w' (h.ext hx))
  have HR := fun (hc : cOk q xs n = true) w' (hx : Ext w w') => Lib.hid (repeated_any q hc w' (h.ext hx))
  have HCT : Hid (cOk q xs n = true → cC q xs n = cCv q xs n) := fun h => by unfold cC; rw [if_pos h]; rfl
  have HCF : Hid (cOk q xs n = false → cC q xs n = ⟨0, 0, [], 0, fun _ => noP, 0, 0, []⟩) := fun h => by unfold cC; rw [if_neg (by rw [h]; decide)]
  have HQ : Hid ((cCv q xs n).q1 = q ∧ (cCv q xs n).q2 = q) := ⟨rfl, rfl⟩
  generalize cCv q xs n = CC at *
  generalize cC q xs n = CR at *
  obtain ⟨_, a, cap, rfl, _, _, _⟩ := h
  have HT0 : Hid (∀ W, Ext ((w.alloc (.cells #[.int .i64 q, .slice a n cap] 31 (0, 0))).alloc (.cells #[.int .i64 0, .slice none 0 0, .slice none 0 0, .int .i64 0, .slice none 0 0] 34 (0, 0))) W →
      W.heap[w.heap.size]? = some (.cells #[.int .i64 q, .slice a n cap] 31 (0, 0)) ∧ W.heap[w.heap.size + 1]? = some (.cells #[.int .i64 0, .slice none 0 0, .slice none 0 0, .int .i64 0, .slice none 0 0] 34 (0, 0))) := fun W hx =>
    ⟨row_farC (heap_alloc_lt (heap_alloc_new _ _)) hx, row_farC (heap_alloc_at _ _ _ (by simp)) hx⟩
  cases hc : cOk q xs n
  · simp only [hc] at HV
    have HE := Lib.hid (HCF.out hc)
    clear hc HR HCT HCF
    go_enter Try.func30, Try.ntmps30
    go_wp2_with fail
    refine (HV _ (by repeat (first | (with_reducible refine Ext.setCell ?_ (by first | (simp; done) | (simp; omega)) _) | with_reducible refine Ext.alloc ?_ _ | with_reducible refine Ext.drew ?_ | with_reducible refine Ext.drewN ?_ _ | with_reducible assumption | with_reducible exact Ext.refl _ | with_reducible refine Ext.trans ?_ (by with_reducible assumption)))).out.mono ?_
    rintro e w1 ⟨rfl, hx1⟩
    obtain ⟨hT, hR⟩ := HT0.out _ hx1
    have hE1 : Ext w w1 := (by repeat (first | (with_reducible refine Ext.setCell ?_ (by first | (simp; done) | (simp; omega)) _) | with_reducible refine Ext.alloc ?_ _ | with_reducible refine Ext.drew ?_ | with_reducible refine Ext.drewN ?_ _ | with_reducible assumption | with_reducible exact Ext.refl _ | with_reducible refine Ext.trans ?_ (by with_reducible assumption)))
    have zR := fun k => cell_of_row _ _ k _ _ _ hR
    have fR := fun k => frozen_of_row _ _ k _ _ hR
    have lR := (Array.getElem?_eq_some_iff.1 hR).1
    clear hT hR hx1 HT0
    go_wp2
    refine bodyPost_ret (v := .tuple #[.agg #[.int .i64 0, .slice none 0 0, .slice none 0 0, .int .i64 0, .slice none 0 0], .bool false]) (by simp [results, Try.results30, go_sem, *]) rfl ?_
    rw [HE.out]
    exact ⟨_, _, _, rfl, ci_none _ _ _, (by repeat (first | (with_reducible refine Ext.setCell ?_ (by first | (simp; done) | (simp; omega)) _) | with_reducible refine Ext.alloc ?_ _ | with_reducible refine Ext.drew ?_ | with_reducible refine Ext.drewN ?_ _ | with_reducible assumption | with_reducible exact Ext.refl _ | with_reducible refine Ext.trans ?_ (by with_reducible assumption)))⟩
  · simp only [hc] at HV
    have HR := HR hc
    have HE := Lib.hid (HCT.out hc)
    clear hc HCT HCF
    go_enter Try.func30, Try.ntmps30
    go_wp2_with fail
    refine (HV _ (by repeat (first | (with_reducible refine Ext.setCell ?_ (by first | (simp; done) | (simp; omega)) _) | with_reducible refine Ext.alloc ?_ _ | with_reducible refine Ext.drew ?_ | with_reducible refine Ext.drewN ?_ _ | with_reducible assumption | with_reducible exact Ext.refl _ | with_reducible refine Ext.trans ?_ (by with_reducible assumption)))).out.mono ?_
    rintro e w1 ⟨rfl, hx1⟩
    obtain ⟨hT, hR⟩ := HT0.out _ hx1
    have hE1 : Ext w w1 := (by repeat (first | (with_reducible refine Ext.setCell ?_ (by first | (simp; done) | (simp; omega)) _) | with_reducible refine Ext.alloc ?_ _ | with_reducible refine Ext.drew ?_ | with_reducible refine Ext.drewN ?_ _ | with_reducible assumption | with_reducible exact Ext.refl _ | with_reducible refine Ext.trans ?_ (by with_reducible assumption)))
    have zT := fun k => cell_of_row _ _ k _ _ _ hT
    have lT := (Array.getElem?_eq_some_iff.1 hT).1
    have HR1 := Lib.hid hR
    have hs1 := hE1.size
    have lR1 := (Array.getElem?_eq_some_iff.1 hR).1
    clear hT hR hx1 HT0 HV
    go_wp2_with fail
    refine (HR _ hE1).out.mono ?_
    rintro e w2 ⟨x1, x3, x2, rfl, hz, hx2⟩
    have HZ := Lib.hid hz
    obtain ⟨e1, e3, e2, k1, k3, k2, rfl, rfl, rfl⟩ := CZ.shape hz
    have hR2 := row_farC HR1.out hx2
    have zR := fun k => cell_of_row _ _ k _ _ _ hR2
    have fR := fun k => frozen_of_row _ _ k _ _ hR2
    have lR := (Array.getElem?_eq_some_iff.1 hR2).1
    have hE2 := hE1.trans hx2
    have hs2 := hx2.size
    clear hz hR2 zT lT
    go_wp2
    refine bodyPost_ret (v := .tuple #[.agg #[.int .i64 q, .slice e1 CC.n1 k1, .slice e3 CC.n k3, .int .i64 q, .slice e2 CC.n2 k2], .bool true]) (by simp [results, Try.results30, go_sem, *]) rfl ?_
    rw [HE.out]
    obtain ⟨q1, q2⟩ := HQ.out
    rw [q1, q2]
    exact ⟨_, _, _, rfl, CZ.set5 HZ.out (by omega) (by omega) (by omega), (by repeat (first | (with_reducible refine Ext.setCell ?_ (by first | (simp; done) | (simp; omega)) _) | with_reducible refine Ext.alloc ?_ _ | with_reducible refine Ext.drew ?_ | with_reducible refine Ext.drewN ?_ _ | with_reducible assumption | with_reducible exact Ext.refl _ | with_reducible refine Ext.trans ?_ (by with_reducible assumption)))⟩

end Go.Proofs.Ytlbcjbeafampcaa
