/- Inverses that cancel: the reference's certificate. -/
import Derived.Test.YtlbcjbeafampcaaCiS
import Derived.Test.YtlbcjbeafampcaaCiT
import Derived.Test.YtlbcjbeafampcaaAppS
import Derived.Test.YtlbcjbeafampcaaCgK
import Derived.Deep.LoopGhost
namespace Go.Proofs.Ytlbcjbeafampcaa
open Go.RowKit Go.Lib
set_option linter.unusedVariables false
set_option linter.unusedSimpArgs false

set_option maxRecDepth 20000 in
set_option maxHeartbeats 8000000 in
theorem s_cancelInverses_any (q : Int) {v : Value} {n : Nat} {xs : List Int} (hn : n ≤ 2000000) (w : World) (h : RV w 3 v n xs) :
    Calls Try.prog 29 #[.agg #[.int .i64 q, v]] w fun e w' => ∃ x1 x3 x2, e = .returned (.tuple #[.agg #[.int .i64 (cC q xs n).q1, x1, x3, .int .i64 (cC q xs n).q2, x2], .bool (cOk q xs n)]) ∧
      CZ w' w.heap.size w'.heap.size x1 x3 x2 (cC q xs n) ∧ Ext w w' := by
  have HV := fun w' (hx : Ext w w') => Lib.hid (l4Good_any q hn w' (h.ext hx))
  have HCT : Hid (cOk q xs n = true → cC q xs n = cCv q xs n) := fun h => by unfold cC; rw [if_pos h]; rfl
  have HCF : Hid (cOk q xs n = false → cC q xs n = ⟨0, 0, [], 0, fun _ => noP, 0, 0, []⟩) := fun h => by unfold cC; rw [if_neg (by rw [h]; decide)]
  have hlx := h.1
  have HRV := Lib.hid h
  obtain ⟨_, a0, c0, rfl, _, _, _⟩ := h
  have HT0 : Hid (∀ W, Ext ((w.alloc (.cells #[.int .i64 q, .slice a0 n c0] 31 (0, 0))).alloc (.cells #[.int .i64 0, .slice none 0 0, .slice none 0 0, .int .i64 0, .slice none 0 0] 34 (0, 0))) W →
      W.heap[w.heap.size]? = some (.cells #[.int .i64 q, .slice a0 n c0] 31 (0, 0)) ∧ W.heap[w.heap.size + 1]? = some (.cells #[.int .i64 0, .slice none 0 0, .slice none 0 0, .int .i64 0, .slice none 0 0] 34 (0, 0))) := fun W hx =>
    ⟨row_farC (heap_alloc_lt (heap_alloc_new _ _)) hx, row_farC (heap_alloc_at _ _ _ (by simp)) hx⟩
  cases hc : cOk q xs n
  · simp only [hc] at HV
    have HE := Lib.hid (HCF.out hc)
    clear hc HCT HCF
    generalize cC q xs n = CR at *
    go_enter Try.func29, Try.ntmps29
    go_wp2_with fail
    refine (HV _ (by repeat (first | (with_reducible refine Ext.setCell ?_ (by first | (simp; done) | (simp; omega)) _) | with_reducible refine Ext.alloc ?_ _ | with_reducible refine Ext.drew ?_ | with_reducible refine Ext.drewN ?_ _ | with_reducible assumption | with_reducible exact Ext.refl _ | with_reducible refine Ext.trans ?_ (by with_reducible assumption)))).out.mono ?_
    rintro e w1 ⟨rfl, hx1⟩
    obtain ⟨hT, hR⟩ := HT0.out _ hx1
    have hE1 : Ext w w1 := (by repeat (first | (with_reducible refine Ext.setCell ?_ (by first | (simp; done) | (simp; omega)) _) | with_reducible refine Ext.alloc ?_ _ | with_reducible refine Ext.drew ?_ | with_reducible refine Ext.drewN ?_ _ | with_reducible assumption | with_reducible exact Ext.refl _ | with_reducible refine Ext.trans ?_ (by with_reducible assumption)))
    have zR := fun k => cell_of_row _ _ k _ _ _ hR
    have fR := fun k => frozen_of_row _ _ k _ _ hR
    have lR := (Array.getElem?_eq_some_iff.1 hR).1
    clear hT hR hx1 HT0
    go_wp2
    refine bodyPost_ret (v := .tuple #[.agg #[.int .i64 0, .slice none 0 0, .slice none 0 0, .int .i64 0, .slice none 0 0], .bool false]) (by simp [results, Try.results29, go_sem, *]) rfl ?_
    rw [HE.out]
    exact ⟨_, _, _, rfl, ci_none _ _ _, (by repeat (first | (with_reducible refine Ext.setCell ?_ (by first | (simp; done) | (simp; omega)) _) | with_reducible refine Ext.alloc ?_ _ | with_reducible refine Ext.drew ?_ | with_reducible refine Ext.drewN ?_ _ | with_reducible assumption | with_reducible exact Ext.refl _ | with_reducible refine Ext.trans ?_ (by with_reducible assumption)))⟩
  simp only [hc] at HV
  have HE := Lib.hid (HCT.out hc)
  have HINV := Lib.hid (fun k hk => cu_inv hlx hc k hk)
  have HK0 : Hid (cK xs n = fst (stF xs n) n 0) := rfl
  have HCV : Hid (∀ k, cK xs n = k → cCv q xs n = ⟨q, n, xs, k, cRk xs n, q, (cu xs n k).1, (cu xs n k).2⟩) := fun k hk => by subst hk; rfl
  have HCI := fun w' (hx : Ext w w') => Lib.hid (l4Own_any q (by omega) w' (HRV.out.ext hx))
  have HCAN := fun {v : Value} {n : Nat} {xs : List Int} (hc : cOk q xs n = true) w' h => Lib.hid (l30Cancel_any q (v := v) (n := n) (xs := xs) hc w' h)
  have HAP := fun {t : Int} {v1 v2 v3 : Value} {n m l : Nat} {xs ys zs : List Int} (hn : n ≤ 2000000) (hm : m ≤ 2000000) (hl : l ≤ 2000000) (hc : cOk q xs n = true) w' (h1 : RVs w' 3 v1 n xs) (h2 : RV w' 3 v2 m ys) (h3 : RV w' 3 v3 l zs) => Lib.hid (l30Apply_any q t hn hm hl hc w' h1 h2 h3)
  have hn400 : n ≤ 400 := by
    unfold cOk at hc
    simp only [Bool.and_eq_true, decide_eq_true_eq] at hc
    exact hc.2.1
  clear hc HCT HCF HRV hlx hn
  generalize cCv q xs n = CC at *
  generalize cC q xs n = CR at *
  generalize cK xs n = KK at *
  go_enter Try.func29, Try.ntmps29
  go_wp2_with fail
  refine (HV _ (by repeat (first | (with_reducible refine Ext.setCell ?_ (by first | (simp; done) | (simp; omega)) _) | with_reducible refine Ext.alloc ?_ _ | with_reducible refine Ext.drew ?_ | with_reducible refine Ext.drewN ?_ _ | with_reducible assumption | with_reducible exact Ext.refl _ | with_reducible refine Ext.trans ?_ (by with_reducible assumption)))).out.mono ?_
  rintro e w1 ⟨rfl, hx1⟩
  obtain ⟨hT, hR⟩ := HT0.out _ hx1
  have HE1 := Lib.hid (show Ext w w1 from (by repeat (first | (with_reducible refine Ext.setCell ?_ (by first | (simp; done) | (simp; omega)) _) | with_reducible refine Ext.alloc ?_ _ | with_reducible refine Ext.drew ?_ | with_reducible refine Ext.drewN ?_ _ | with_reducible assumption | with_reducible exact Ext.refl _ | with_reducible refine Ext.trans ?_ (by with_reducible assumption))))
  have HR1 := Lib.hid hR
  have zT := fun k => cell_of_row _ _ k _ _ _ hT
  have lT := (Array.getElem?_eq_some_iff.1 hT).1
  have lR1 := (Array.getElem?_eq_some_iff.1 hR).1
  have HK : Hid (∀ W, Ext w1 W → W.cell? ⟨w.heap.size, 0, none⟩ = some (.int .i64 q) ∧ W.cell? ⟨w.heap.size, 1, none⟩ = some (.slice a0 n c0)) := fun W hx => ⟨(hx.cells.1 _ 0 lT).trans (zT 0), (hx.cells.1 _ 1 lT).trans (zT 1)⟩
  have HCI1 := fun w' (hx : Ext w1 w') => HCI w' (HE1.out.trans hx)
  clear hT hR hx1 HT0 HV zT HCI
  go_wp2
  go_upto_region 3 with fail
  go_cut [4] from 11 to 15 (fun u4 wx => ∃ (B8 : Nat) (aB aA : Option Addr) (cB cA : Nat), u4 = .pointer (some ⟨B8, 0, none⟩) ∧ w1.heap.size ≤ B8 ∧ wx.heap[B8]? = some (.cells #[.int .i64 q, .slice aB n cB, .slice none 0 0, .int .i64 q, .slice aA n cA] 34 (0, 0)) ∧
    wx.ownsRow w1.heap.size 73 3 (.slice aB n cB) n (IL xs) ∧ wx.ownsRow w1.heap.size 73 3 (.slice aA n cA) n (IL xs) ∧ (∀ j, (Value.slice aB n cB).ownBlock = some j → (Value.slice aA n cA).ownBlock = some j → False) ∧ (∀ j, (Value.slice aB n cB).ownBlock = some j → j ≠ B8) ∧ (∀ j, (Value.slice aA n cA).ownBlock = some j → j ≠ B8) ∧ Ext w1 wx)
  case first =>
    go_region_held3 (fun W => W.cell? ⟨w.heap.size, 0, none⟩ = some (.int .i64 q) ∧ W.cell? ⟨w.heap.size, 1, none⟩ = some (.slice a0 n c0)) (exact HK.out _ (by repeat (first | (with_reducible refine Ext.setCell ?_ (by first | (simp; done) | (simp; omega)) _) | with_reducible refine Ext.alloc ?_ _ | with_reducible refine Ext.drew ?_ | with_reducible refine Ext.drewN ?_ _ | with_reducible assumption | with_reducible exact Ext.refl _ | with_reducible refine Ext.trans ?_ (by with_reducible assumption))))
      (first
      | (go_at_call 33; (fail_if_success (have hq := HOB.out)); (with_reducible refine Calls.mono (HCI1 _ ?_).out ?_); (next => exact (by repeat (first | (with_reducible refine Ext.setCell ?_ (by first | (simp; done) | (simp; omega)) _) | with_reducible refine Ext.alloc ?_ _ | with_reducible refine Ext.drew ?_ | with_reducible refine Ext.drewN ?_ _ | with_reducible assumption | with_reducible exact Ext.refl _ | with_reducible refine Ext.trans ?_ (by with_reducible assumption)))); rintro e wB ⟨uB, rfl, oB, hxB⟩; have HOB := Lib.hid (own_base (base' := w1.heap.size) oB (by first | omega | (simp; done) | (simp; omega))); have LB : Hid (∀ j, uB.ownBlock = some j → _ ∧ j < wB.heap.size) := (fun j hj => oB.lt j hj); obtain ⟨aB, cB, rfl, q1B, q2B, q3B⟩ := own_shape oB; clear q1B q2B q3B oB; obtain ⟨hcB, hfB⟩ := hxB.cells; have hsB := hxB.size; (try simp at hsB); (try have l2B : w1.heap.size < wB.heap.size := (by omega)))
      | (go_at_call 33; (with_reducible refine Calls.mono (HCI1 _ ?_).out ?_); (next => exact (by repeat (first | (with_reducible refine Ext.setCell ?_ (by first | (simp; done) | (simp; omega)) _) | with_reducible refine Ext.alloc ?_ _ | with_reducible refine Ext.drew ?_ | with_reducible refine Ext.drewN ?_ _ | with_reducible assumption | with_reducible exact Ext.refl _ | with_reducible refine Ext.trans ?_ (by with_reducible assumption)))); rintro e wA ⟨uA, rfl, oA, hxA⟩; have HOA := Lib.hid (own_base (base' := w1.heap.size) oA (by first | omega | (simp; done) | (simp; omega))); have LA : Hid (∀ j, uA.ownBlock = some j → _ ∧ j < wA.heap.size) := (fun j hj => oA.lt j hj); obtain ⟨aA, cA, rfl, q1B, q2B, q3B⟩ := own_shape oA; clear q1B q2B q3B oA; obtain ⟨hcA, hfA⟩ := hxA.cells; have hsA := hxA.size; (try simp at hsA); (try have l2A : w1.heap.size < wA.heap.size := (by omega)); (try have lBA : wB.heap.size < wA.heap.size := (by omega))))
    all_goals
      go_wp2_with fail
      go_meet
      have lb := LB.out
      have la := LA.out
      (try simp only [size_setCell] at lb la)
      refine ⟨_, aB, aA, cB, cA, rfl, ?_, ?_, ?_, ?_, fun j hj hj2 => ?_, fun j hj => ?_, fun j hj => ?_, (by repeat (first | (with_reducible refine Ext.setCell ?_ (by first | (simp; done) | (simp; omega)) _) | with_reducible refine Ext.alloc ?_ _ | with_reducible refine Ext.drew ?_ | with_reducible refine Ext.drewN ?_ _ | with_reducible assumption | with_reducible exact Ext.refl _ | with_reducible refine Ext.trans ?_ (by with_reducible assumption)))⟩
      · first | omega | (simp; done) | (simp; omega)
      · first
        | (with_reducible exact heap_alloc_new _ _)
        | (with_reducible refine heap_set5 (a := .int .i64 0) (b := .slice none 0 0) (c := .slice none 0 0) (d := .int .i64 0) (e := .slice none 0 0) ?_; (repeat (first | (with_reducible exact heap_alloc_new _ _) | (with_reducible refine heap_dr ?_) | (with_reducible refine row_farC ?_ hxA) | (with_reducible refine row_farC ?_ hxB))); done)
      · repeat (first | (with_reducible exact HOB.out) | (with_reducible refine own_setc ?_ (fun j hj => by have h9 := lb j hj; (try simp at h9); (first | omega | (simp; omega))) _) | (with_reducible refine own_ext ?_ hxA) | (with_reducible refine own_ext ?_ ((Ext.refl _).alloc _)))
      · repeat (first | (with_reducible exact HOA.out) | (with_reducible refine own_setc ?_ (fun j hj => by have h9 := la j hj; (try simp at h9); (first | omega | (simp; omega))) _) | (with_reducible refine own_ext ?_ ((Ext.refl _).alloc _)))
      · have h1 := lb j hj; have h2 := la j hj2; (try simp at h1 h2); omega
      · have h1 := lb j hj; (try simp at h1); (try simp); omega
      · have h1 := la j hj; (try simp at h1); (try simp); omega
  case rest =>
    obtain ⟨B8, aB, aA0, cB, cA0, rfl, h8s, h8, oB, oA, dBA, nB, nA, hx⟩ := hcut
    obtain ⟨wL, rfl⟩ : ∃ wL, wL = wc := ⟨_, rfl⟩
    have HEL := Lib.hid (HE1.out.trans hx)
    have hs1 := HE1.out.size
    have hsL := hx.size
    have HRL := Lib.hid (row_farC HR1.out hx)
    have H8L := Lib.hid h8
    have l8L := (Array.getElem?_eq_some_iff.1 h8).1
    have HOB := Lib.hid oB
    have hLB : Hid (∀ j, (Value.slice aB n cB).ownBlock = some j → w1.heap.size ≤ j ∧ j < wL.heap.size) := fun j hj => oB.lt j hj
    have HNB := Lib.hid nB
    have hst : CiSt wL w1.heap.size wL.heap.size (fun j => j = B8 ∨ (Value.slice aB n cB).ownBlock = some j) xs n 0 (.slice none 0 0) (.slice aA0 n cA0) :=
      ⟨oA, fun j hj e => by
        rcases e with e | e
        · exact nA j hj e
        · exact dBA j e hj, _, rsp_none _ _ _, fun j hj => hj.elim⟩
    have HST := Lib.hid hst
    have hw1 : w.heap.size + 1 < w1.heap.size := lR1
    clear hst h8 oB oA dBA nB nA hx HK HCI1 HR1 lT lR1
    go_wp2
    go_loopg [] n (fun g wr => ∃ (k : Nat) (vs vA : Value), k + g = n ∧ Hid (KK = fst (stF xs n) g k) ∧ Hid (∀ j, j < k → stF xs n j = false) ∧ Hid (wr.heap[B8]? = some (.cells #[.int .i64 q, .slice aB n cB, vs, .int .i64 q, vA] 34 (0, 0))) ∧ Hid (CiSt wr w1.heap.size wL.heap.size (fun j => j = B8 ∨ (Value.slice aB n cB).ownBlock = some j) xs n k vs vA) ∧ GX [B8] wL wr)
    case atStart => exact ⟨0, _, _, by omega, HK0.out, (show Hid _ from fun j hj => absurd hj (by omega)), H8L.out, HST.out, GX.refl _ _⟩
    case round =>
      obtain ⟨k, vs, vA, hkg, HKK, HFF, H8, HS, hG⟩ := hrel
      have HG := Lib.hid hG
      have hsr := hG.size
      have HEr := Lib.hid ((GX.join (S := []) (GX.ofExt HEL.out) hG (fun x hx => by simp at hx; right; omega)).toExt (fun k hk => by simp at hk))
      obtain ⟨i1, i2, i3⟩ := HINV.out k HFF.out
      have HSTF : Hid (stF xs n k = !(cOkB (cu xs n k).2 (cu xs n k).1)) := rfl
      have HNXT : Hid (cu xs n (k + 1) = cuS ((cu xs n k).1, (cu xs n k).2)) := rfl
      have HRK : Hid (cRk xs n k = cR (cu xs n k).2 (cu xs n k).1) := rfl
      have HLN := Lib.hid (cR_len (xs := (cu xs n k).2) (n := (cu xs n k).1) i2)
      have HAPF := Lib.hid (fun h => cu_ap (q := q) i2 i3 h)
      obtain ⟨oA, hDA, S, hrs, hSS⟩ := HS.out
      have HOA := Lib.hid oA
      have HDA := Lib.hid hDA
      have HRS := Lib.hid hrs
      have HSS := Lib.hid hSS
      obtain ⟨aA, cA, rfl, _, _, _⟩ := own_shape oA
      obtain ⟨aS, cS, rfl⟩ := hrs.shape
      have HRVA := Lib.hid (RVs.own oA i2)
      have HI2 := Lib.hid i2
      have HI3 := Lib.hid i3
      clear oA hDA hrs hSS i2 i3 HS
      have hNn : (cu xs n k).1 ≤ 400 := by omega
      have HCVk := Lib.hid (HCV.out k)
      generalize hN : (cu xs n k).1 = N at *
      generalize hL : (cu xs n k).2 = L at *
      clear hN hL
      have hR := (hG.heap (Array.getElem?_eq_some_iff.1 HRL.out).1 (by simp; omega)).trans HRL.out
      have HRr := Lib.hid hR
      have z8 := fun k => cell_of_row _ _ k _ _ _ H8.out
      have l8 := (Array.getElem?_eq_some_iff.1 H8.out).1
      clear hR hG
      go_wp2_with fail
      refine (HCAN HI3.out _ HRVA.out.rv).out.mono ?_
      rintro e w3 ⟨u0, u1, rfl, o0, o1, dj, hx3⟩
      have HO0 := Lib.hid o0
      have HO1 := Lib.hid o1
      have HDJ := Lib.hid dj
      have HX3 := Lib.hid hx3
      obtain ⟨b0, d0, rfl, _, _, _⟩ := own_shape o0
      obtain ⟨b1, d1, rfl, _, _, _⟩ := own_shape o1
      have hs3 := hx3.size
      clear o0 o1 dj hx3 z8 l8
      have h8 := row_farC H8.out HX3.out
      have hR := row_farC HRr.out HX3.out
      obtain ⟨w4, hw4⟩ : ∃ w4, w4 = w3.alloc (.cells #[.int .i64 (cR L N).t, .slice b0 (cR L N).m1 d0, .slice b1 (cR L N).m2 d1] 45 (0, 0)) := ⟨_, rfl⟩
      have HX34 : Hid (Ext w3 w4) := by rw [hw4]; exact (Ext.refl _).alloc _
      have HX4 := Lib.hid (HX3.out.trans HX34.out)
      have h84 := row_farC h8 HX34.out
      have hR4 := row_farC hR HX34.out
      have h94 : w4.heap[w3.heap.size]? = some (.cells #[.int .i64 (cR L N).t, .slice b0 (cR L N).m1 d0, .slice b1 (cR L N).m2 d1] 45 (0, 0)) := by rw [hw4]; exact heap_alloc_new _ _
      have hs34 : w3.heap.size < w4.heap.size := (Array.getElem?_eq_some_iff.1 h94).1
      have hs4 := HX4.out.size
      have H84 := Lib.hid h84
      have HR4 := Lib.hid hR4
      clear h8 hR
      obtain ⟨B9, hB9⟩ : ∃ B9, w3.heap.size = B9 := ⟨_, rfl⟩
      simp only [hB9] at h94
      have z8 := fun k => cell_of_row _ _ k _ _ _ h84
      have f8 := fun k => frozen_of_row _ _ k _ _ h84
      have l8 := (Array.getElem?_eq_some_iff.1 h84).1
      have z9 := fun k => cell_of_row _ _ k _ _ _ h94
      have l9 := (Array.getElem?_eq_some_iff.1 h94).1
      have H94 := Lib.hid h94
      cases hok : cOkB L N
      · have HSTK : Hid (stF xs n k = true) := by unfold Hid; rw [HSTF.out, hok]; rfl
        have HKE : Hid (KK = k) := HKK.out.trans (fst_yes HSTK.out)
        have HCE := Lib.hid (HCVk.out HKE.out)
        clear hok HAPF HKK HSTK h94 h84 z9 l9
        go_upto_region 5 with fail
        rw [← hw4]
        try simp only [hB9]
        clear hw4
        have zR := fun k => cell_of_row _ _ k _ _ _ hR4
        have fR := fun k => frozen_of_row _ _ k _ _ hR4
        have lR := (Array.getElem?_eq_some_iff.1 hR4).1
        clear hR4
        have hB8n : w.heap.size + 1 ≠ B8 := by omega
        go_wp2
        refine bodyPost_ret (v := .tuple #[.agg #[.int .i64 q, .slice aB n cB, .slice aS k cS, .int .i64 q, .slice aA N cA], .bool true]) (by simp [results, Try.results29, go_sem, *]) rfl ?_
        have lA := fun j hj => (HOA.out.lt j hj)
        have hEE : Ext w w4 := HEr.out.trans HX4.out
        rw [HE.out, HCE.out]
        refine ⟨_, _, _, rfl, ?_, (by repeat (first | (with_reducible refine Ext.setCell ?_ (by first | (simp; done) | (simp; omega)) _) | with_reducible refine Ext.alloc ?_ _ | with_reducible refine Ext.drew ?_ | with_reducible refine Ext.drewN ?_ _ | with_reducible assumption | with_reducible exact Ext.refl _ | with_reducible refine Ext.trans ?_ (by with_reducible assumption)))⟩
        refine ⟨own_base (base := w1.heap.size) ?_ (by omega), own_base (base := w1.heap.size) ?_ (by omega), fun j hj => ?_, fun j hj => ?_, fun j hj hj2 => HDA.out j hj2 (.inr hj), S, RSP.weak (lo := wL.heap.size) (S := S) ?_ (by omega) (fun k hk => hk), fun j hj => ⟨?_, fun e => ?_, (HSS.out j hj).2⟩⟩
        · have o := own_ext (own_gxs HOB.out HG.out (fun j hj => by have := HNB.out j hj; simp; omega)) HX4.out
          (repeat with_reducible refine own_setc ?_ (fun j hj => by have := hLB.out j hj; (first | omega | (simp; omega))) _)
          exact o
        · have o := own_ext HOA.out HX4.out
          (repeat with_reducible refine own_setc ?_ (fun j hj => by have := lA j hj; (first | omega | (simp; omega))) _)
          exact o
        · have := hLB.out j hj; simp; omega
        · have := lA j hj; simp; omega
        · have o := HRS.out.ext HX4.out
          (repeat with_reducible refine RSP.set ?_ (by simp; omega) _)
          exact o
        · have := (HSS.out j hj).1; simp; omega
        · have := (HSS.out j hj).1; have := hLB.out j e; omega
      · obtain ⟨p1, p2, p3, p4, p5, p6, p7⟩ := HAPF.out hok
        have HSTK : Hid (stF xs n k = false) := by unfold Hid; rw [HSTF.out, hok]; rfl
        have hcu : cu xs n (k + 1) = cuS (N, L) := HNXT.out
        have hN2 : 0 < gk := by omega
        obtain ⟨lx, ly, m40, l40⟩ := HLN.out
        have HRKN : Hid (cRk xs n k = cR L N) := HRK.out
        have HCN : Hid ((cu xs n (k + 1)).1 = (cuS (N, L)).1 ∧ (cu xs n (k + 1)).2 = (cuS (N, L)).2) := by rw [hcu]; exact ⟨rfl, rfl⟩
        have HAPW : Hid (∀ W v1 v2 v3, RVs W 3 v1 N L → RV W 3 v2 (cR L N).m1 (cR L N).xs → RV W 3 v3 (cR L N).m2 (cR L N).ys → Calls Try.prog 55 #[.agg #[.int .i64 q, v1], .agg #[.int .i64 (cR L N).t, v2, v3]] W fun e w' => ∃ v, e = .returned (.tuple #[.agg #[.int .i64 q, v], .bool true]) ∧ w'.ownsRow W.heap.size 73 3 v (cuS (N, L)).1 (IL (cuS (N, L)).2) ∧ Ext W w') := fun W v1 v2 v3 h1 h2 h3 => by
          have ha := (HAP (t := (cR L N).t) (by omega) (by omega) (by omega) HI3.out W h1 h2 h3).out
          rw [p1, p5, p6, p7] at ha
          exact ha
        have HLX := Lib.hid (And.intro lx ly)
        clear p1 p2 p3 p4 p5 p6 p7 lx ly hok HAPF HLN HRK HNXT HSTF hcu HI3 HINV HCVk HCV
        generalize (cuS (N, L)).1 = N' at *
        generalize (cuS (N, L)).2 = L' at *
        generalize ht : (cR L N).t = t at *
        have HTT := Lib.hid ht
        clear ht
        generalize hm1 : (cR L N).m1 = m1 at *
        generalize hm2 : (cR L N).m2 = m2 at *
        have HM12 := Lib.hid (And.intro hm1 hm2)
        clear hm1 hm2
        clear h84 h94 hR4
        go_upto_region 5 with fail
        rw [← hw4]
        try simp only [hB9]
        clear hw4
        obtain ⟨zs, ho, hl, hin, hd, he⟩ := HRS.out
        have HOS := Lib.hid (own_ext ho (HX4.out.alloc (.cells #[.int .i64 t, .slice b0 m1 d0, .slice b1 m2 d1] 45 (0, 0))))
        have HZL := Lib.hid hl
        have HIN := Lib.hid hin
        have HDB := Lib.hid hd
        have HEZ := Lib.hid (fun i hi => (he i hi).ext (HX4.out.alloc (.cells #[.int .i64 t, .slice b0 m1 d0, .slice b1 m2 d1] 45 (0, 0))))
        have HOU0 := Lib.hid (own_ext HO0.out (HX34.out.alloc (.cells #[.int .i64 t, .slice b0 m1 d0, .slice b1 m2 d1] 45 (0, 0))))
        have HOU1 := Lib.hid (own_ext HO1.out (HX34.out.alloc (.cells #[.int .i64 t, .slice b0 m1 d0, .slice b1 m2 d1] 45 (0, 0))))
        have HOA4 := Lib.hid (own_ext HOA.out (HX4.out.alloc (.cells #[.int .i64 t, .slice b0 m1 d0, .slice b1 m2 d1] 45 (0, 0))))
        clear ho hl hin hd he
        obtain ⟨Sl, hsl1, hsl2⟩ := row_list (.slice aS k cS)
        have hsl3 : ∀ b ∈ Sl, wL.heap.size ≤ b ∧ b < wr.heap.size := fun b hb => (HSS.out b (HIN.out.1 b (hsl2 b hb))).1
        have HSL1 := Lib.hid hsl1
        have HSL3 := Lib.hid hsl3
        clear hsl1 hsl2 hsl3
        have hvs8 : Hid ((Value.slice aS k cS).ownBlock ≠ some B8) := fun e => by have := (HSS.out _ (HIN.out.1 _ e)).1; omega
        have hvs9 : Hid ((Value.slice aS k cS).ownBlock ≠ some B9) := fun e => by have := (HSS.out _ (HIN.out.1 _ e)).1; omega
        have hk8 : k + 1 ≤ 8000000 := by omega
        have hbL : wL.heap.size ≤ (w4.alloc (.cells #[.int .i64 t, .slice b0 m1 d0, .slice b1 m2 d1] 45 (0, 0))).heap.size := by simp; omega
        have HRVB : Hid (RVV (w4.alloc (.cells #[.int .i64 t, .slice b0 m1 d0, .slice b1 m2 d1] 45 (0, 0))) 3 (.slice (some ⟨w4.heap.size, 0, none⟩) 1 1) 1 [.int .i64 t, .slice b0 m1 d0, .slice b1 m2 d1]) := RVV.ofHeap (heap_alloc_new _ _) rfl rfl (by intro u hu; simp at hu; rcases hu with rfl | rfl | rfl <;> rfl)
        go_upto_region 8 with (at_builtin; go_loud (refine wpList_append_val (base := wL.heap.size) rfl elt_RP rfl (.slice aS k cS) k zs rfl HOS.out (.slice (some ⟨w4.heap.size, 0, none⟩) 1 1) 1 _ rfl HRVB.out hk8 hbL ?_); intro v5 w7 hown5 hgrow5 hiff5 hloc5; have HOW5 := Lib.hid hown5; have HGR := Lib.hid hgrow5; have HLC5 := Lib.hid hloc5; (obtain ⟨hc7, hf7⟩ := grown_cells (b := B8) hgrow5 (by simp; omega) hvs8.out); (obtain ⟨a5, c5, rfl, _, _, _⟩ := own_shape hown5); have hs7 := hgrow5.size; (try simp at hs7); clear hown5 hgrow5 hiff5 hloc5)
        have HRF := Lib.hid (rsp_one (lo := wL.heap.size) (R := cRk xs n) (hi := wr.heap.size) (va := .slice b0 m1 d0) (vb := .slice b1 m2 d1) HOS.out HZL.out HIN.out HDB.out HEZ.out (fun b hb => (HSS.out b hb).1.2) (by omega) (by simp; omega)
          (by rw [HRKN.out, HM12.out.1]; exact HOU0.out) (by rw [HRKN.out, HM12.out.2]; exact HOU1.out) HDJ.out (by rw [HRKN.out, HTT.out]; exact HOW5.out) HGR.out HLC5.out)
        have hfar := fun j (hj : (Value.slice aS k cS).ownBlock = some j) => (HSS.out _ (HIN.out.1 _ hj))
        have H87 := Lib.hid (heap_grown HGR.out (heap_alloc_lt H84.out) (fun e => hvs8.out e.symm))
        have H97 := Lib.hid (heap_grown HGR.out (heap_alloc_lt H94.out) (fun e => hvs9.out e.symm))
        have HOA7 := Lib.hid (own_far HOA4.out HGR.out (fun j hj i hi e => (hfar j hj).2 (by rw [e]; exact hi)))
        have HO07 := Lib.hid (own_far HOU0.out HGR.out (fun j hj i hi e => by have := (hfar j hj).1; have := (HOU0.out.lt i hi).1; omega))
        have HO17 := Lib.hid (own_far HOU1.out HGR.out (fun j hj i hi e => by have := (hfar j hj).1; have := (HOU1.out.lt i hi).1; omega))
        have HG7 := Lib.hid ((HG.out.ext (HX4.out.alloc (.cells #[.int .i64 t, .slice b0 m1 d0, .slice b1 m2 d1] 45 (0, 0)))).join (HSL1.out _ _ HGR.out) (fun x hx => .inr (HSL3.out x hx).1))
        have hB98 : B9 ≠ B8 := by omega
        have h87 := H87.out
        have l87 := (Array.getElem?_eq_some_iff.1 h87).1
        have HLB5 : Hid (∀ j, (Value.slice a5 (k + 1) c5).ownBlock = some j → wL.heap.size ≤ j ∧ j < w7.heap.size) := fun j hj => HOW5.out.lt j hj
        have hs74 : w4.heap.size + 1 ≤ w7.heap.size := by have := HGR.out.size; simp at this; omega
        have HLN5 : Hid (∀ j, (Value.slice a5 (k + 1) c5).ownBlock = some j → j < w7.heap.size) := fun j hj => (HOW5.out.lt j hj).2
        obtain ⟨w9, hw9⟩ : ∃ w9, w9 = w7.setCell ⟨B8, 2, none⟩ (.slice a5 (k + 1) c5) := ⟨_, rfl⟩
        have hs9 : w9.heap.size = w7.heap.size := by rw [hw9, size_setCell]
        have h89 : w9.heap[B8]? = some (.cells #[.int .i64 q, .slice aB n cB, .slice a5 (k + 1) c5, .int .i64 q, .slice aA N cA] 34 (0, 0)) := by rw [hw9]; exact heap_set_at H87.out 2 _
        have h99 : w9.heap[B9]? = some (.cells #[.int .i64 t, .slice b0 m1 d0, .slice b1 m2 d1] 45 (0, 0)) := by rw [hw9]; exact heap_set_ne (by simpa using hB98) H97.out
        have HOA9 : Hid (w9.ownsRow w1.heap.size 73 3 (.slice aA N cA) N (IL L)) := by rw [hw9]; exact own_setc HOA7.out (fun j hj e => HDA.out j hj (.inl e)) _
        have HO09 : Hid (w9.ownsRow wr.heap.size 73 3 (.slice b0 m1 d0) m1 (IL (cR L N).xs)) := by rw [hw9]; exact own_set HO07.out (by simp; omega) _
        have HO19 : Hid (w9.ownsRow wr.heap.size 73 3 (.slice b1 m2 d1) m2 (IL (cR L N).ys)) := by rw [hw9]; exact own_set HO17.out (by simp; omega) _
        have HRF9 : Hid (RSP w9 wL.heap.size (fun b => S b ∨ ((Value.slice b0 m1 d0).ownBlock = some b ∨ (Value.slice b1 m2 d1).ownBlock = some b) ∨ (Value.slice a5 (k + 1) c5).ownBlock = some b) (.slice a5 (k + 1) c5) (k + 1) (cRk xs n)) := by rw [hw9]; exact RSP.set HRF.out (by simp; omega) _
        have HG9 : Hid (GX [B8] wL w9) := by rw [hw9]; exact HG7.out.setCell (by left; simp) _
        rw [← hw9]
        clear hw9 z8 f8 l8 z9 l9 hc7 hf7 h87 HRF HG7 HOA7 HO07 HO17
        have z8 := fun k => cell_of_row _ _ k _ _ _ h89
        have l8 := (Array.getElem?_eq_some_iff.1 h89).1
        have z9 := fun k => cell_of_row _ _ k _ _ _ h99
        have l9 := (Array.getElem?_eq_some_iff.1 h99).1
        have H89 := Lib.hid h89
        clear h89 h99
        go_wp2_with fail
        refine (HAPW.out _ _ _ _ (RVs.own HOA9.out HI2.out) (RV.own HO09.out HLX.out.1) (RV.own HO19.out HLX.out.2)).mono ?_
        rintro e w10 ⟨vN, rfl, oN, hx10⟩
        have HX10 := Lib.hid hx10
        have HON := Lib.hid oN
        obtain ⟨aN, cN, rfl, _, _, _⟩ := own_shape oN
        have h810 := row_farC H89.out hx10
        have hs10 := hx10.size
        clear z8 l8 z9 l9 oN hx10
        have z8 := fun k => cell_of_row _ _ k _ _ _ h810
        have f8 := fun k => frozen_of_row _ _ k _ _ h810
        have l8 := (Array.getElem?_eq_some_iff.1 h810).1
        have H810 := Lib.hid h810
        clear h810
        go_wp2
        go_roundg (gk - 1)
        case measure => omega
        case rel =>
          have hNb := fun j hj => HON.out.lt j hj
          refine ⟨k + 1, .slice a5 (k + 1) c5, .slice aN N' cN, by omega, ?_, ?_, ?_, ?_, ?_⟩
          · exact HKK.out.trans (fst_no hN2 HSTK.out)
          · intro j hj
            by_cases e : j = k
            · subst e; exact HSTK.out
            · exact HFF.out j (by omega)
          · exact heap_set_at (heap_set_at H810.out 3 _) 4 _
          · refine ⟨?_, fun j hj e => ?_, (fun b => S b ∨ ((Value.slice b0 m1 d0).ownBlock = some b ∨ (Value.slice b1 m2 d1).ownBlock = some b) ∨ (Value.slice a5 (k + 1) c5).ownBlock = some b), ?_, fun j hj => ⟨?_, fun e => ?_⟩⟩
            · rw [HCN.out.1, HCN.out.2]
              refine own_base (base := w9.heap.size) ?_ (by omega)
              (repeat with_reducible refine own_set ?_ (by simp; omega) _)
              exact HON.out
            · have h3 := hNb j hj
              rcases e with e | e
              · omega
              · have := hLB.out j e; omega
            · (repeat with_reducible refine RSP.set ?_ (by simp; omega) _)
              exact HRF9.out.ext HX10.out
            · rcases hj with h | (h | h) | h
              · have := (HSS.out j h).1; simp; omega
              · have := HO0.out.lt j h; simp; omega
              · have := HO1.out.lt j h; simp; omega
              · have := HLB5.out j h; simp; omega
            · have h3 := hNb j e
              rcases hj with h | (h | h) | h
              · have := (HSS.out j h).1; omega
              · have := HO0.out.lt j h; omega
              · have := HO1.out.lt j h; omega
              · have := HLN5.out j h; omega
          · (repeat with_reducible refine GX.setCell ?_ (by left; simp) _)
            exact HG9.out.ext HX10.out

end Go.Proofs.Ytlbcjbeafampcaa
