/- The law FnCanonical. -/
import Derived.Test.YtamiploliebplaaDoorCnP
import Derived.Test.YtamiploliebplaaDoorByt
namespace Go.Proofs.YtamiploliebplaaDoor
open Go.RowKit Go.Lib
set_option linter.unusedVariables false
set_option linter.unusedSimpArgs false

theorem neq_dyad (x0 x1 x2 x3 x4 : Int) (w : World) : (binOp .neq 46 (.agg #[.int .i64 x0, .int .i64 x1, .int .i64 x2, .int .i64 x3, .int .i64 x4]) (.agg #[.int .i64 x0, .int .i64 x1, .int .i64 x2, .int .i64 x3, .int .i64 x4])).run Tryd.prog w = .ok (.bool false) w := by
  go_simp
set_option maxRecDepth 20000 in
set_option maxHeartbeats 4000000 in
theorem equalMatrices_same (r c : Int) {v1 v2 : Value} {n : Nat} {xs : List Int} (hn : n ≤ 2000000) (w : World) (h1 : RV w 5 v1 n xs) (h2 : RV w 5 v2 n xs) :
    Calls Tryd.prog 14 #[.agg #[.int .i64 r, .int .i64 c, v1], .agg #[.int .i64 r, .int .i64 c, v2]] w fun e w' => e = .returned (.bool true) ∧ Ext w w' := by
  obtain ⟨hl, a1, c1, rfl, p1, p2, hh1⟩ := h1
  obtain ⟨_, a2, c2, rfl, p3, p4, hh2⟩ := h2
  have HH := Lib.hid hh1
  have HH2 := Lib.hid hh2
  have HLEN := Lib.hid hl
  clear hh1 hh2 hl
  obtain ⟨w1, hw1⟩ : ∃ w1, w1 = (w.alloc (.cells #[.int .i64 r, .int .i64 c, .slice a1 n c1] 30)).alloc (.cells #[.int .i64 r, .int .i64 c, .slice a2 n c2] 30) := ⟨_, rfl⟩
  have hb1 : w1.heap[w.heap.size]? = some (.cells #[.int .i64 r, .int .i64 c, .slice a1 n c1] 30 (0, 0)) := by rw [hw1]; exact heap_alloc_lt (heap_alloc_new _ _)
  have hb2 : w1.heap[w.heap.size + 1]? = some (.cells #[.int .i64 r, .int .i64 c, .slice a2 n c2] 30 (0, 0)) := by rw [hw1]; exact heap_alloc_at _ _ _ (by simp)
  have HE1 : Hid (Ext w w1) := by rw [hw1]; exact ((Ext.refl w).alloc _).alloc _
  have z1 := fun k => cell_of_row _ _ k _ _ _ hb1
  have z2 := fun k => cell_of_row _ _ k _ _ _ hb2
  have l1 := (Array.getElem?_eq_some_iff.1 hb1).1
  have l2 := (Array.getElem?_eq_some_iff.1 hb2).1
  have HB1 := Lib.hid hb1
  have HB2 := Lib.hid hb2
  clear hb1 hb2
  go_enter Tryd.func14, Tryd.ntmps14
  go_upto_region 1 with fail
  rw [← hw1]
  clear hw1
  go_wp2
  go_loopw [5, 30] (fun _ i wr => ∃ j : Nat, j ≤ n ∧ i = .int .i64 j ∧ Ext w1 wr) (fun _ i _ => n - (RowKit.intOf i).toNat)
  case atStart => exact ⟨0, by omega, rfl, Ext.refl _⟩
  case round =>
    clear z1 z2 l1 l2
    obtain ⟨j, hj, rfl, hE1⟩ := hrel
    have hE := HE1.out.trans hE1
    by_cases hlt : j < n
    · have hlt' : (j : Int) < n := by omega
      have HE := Lib.hid hE
      have HE1' := Lib.hid hE1
      have hbb1 := (hE1.heap (Array.getElem?_eq_some_iff.1 HB1.out).1).trans HB1.out
      have hbb2 := (hE1.heap (Array.getElem?_eq_some_iff.1 HB2.out).1).trans HB2.out
      have HLEN2 := Lib.hid HLEN.out
      obtain ⟨b, off, rfl, hbk, hcell⟩ := HH.out (by omega)
      have hbr : b < wr.heap.size := by have := hE.size; omega
      have z0 : wr.cell? ⟨b, off + j * 5, none⟩ = some (.int .i64 (at3 xs (j * 5))) := (hE.cells.1 b (off + (j * 5)) hbk).trans (hcell _ _ (at3_get (by have := HLEN.out; omega)))
      have z1 : wr.cell? ⟨b, off + j * 5 + 1, none⟩ = some (.int .i64 (at3 xs (j * 5 + 1))) := (hE.cells.1 b (off + (j * 5 + 1)) hbk).trans (hcell _ _ (at3_get (by have := HLEN.out; omega)))
      have z2 : wr.cell? ⟨b, off + j * 5 + 2, none⟩ = some (.int .i64 (at3 xs (j * 5 + 2))) := (hE.cells.1 b (off + (j * 5 + 2)) hbk).trans (hcell _ _ (at3_get (by have := HLEN.out; omega)))
      have z3 : wr.cell? ⟨b, off + j * 5 + 3, none⟩ = some (.int .i64 (at3 xs (j * 5 + 3))) := (hE.cells.1 b (off + (j * 5 + 3)) hbk).trans (hcell _ _ (at3_get (by have := HLEN.out; omega)))
      have z4 : wr.cell? ⟨b, off + j * 5 + 4, none⟩ = some (.int .i64 (at3 xs (j * 5 + 4))) := (hE.cells.1 b (off + (j * 5 + 4)) hbk).trans (hcell _ _ (at3_get (by have := HLEN.out; omega)))
      clear hcell
      obtain ⟨bv, offv, rfl, hbkv, hcellv⟩ := HH2.out (by omega)
      have hbrv : bv < wr.heap.size := by have := hE.size; omega
      have zv0 : wr.cell? ⟨bv, offv + j * 5, none⟩ = some (.int .i64 (at3 xs (j * 5))) := (hE.cells.1 bv (offv + (j * 5)) hbkv).trans (hcellv _ _ (at3_get (by have := HLEN2.out; omega)))
      have zv1 : wr.cell? ⟨bv, offv + j * 5 + 1, none⟩ = some (.int .i64 (at3 xs (j * 5 + 1))) := (hE.cells.1 bv (offv + (j * 5 + 1)) hbkv).trans (hcellv _ _ (at3_get (by have := HLEN2.out; omega)))
      have zv2 : wr.cell? ⟨bv, offv + j * 5 + 2, none⟩ = some (.int .i64 (at3 xs (j * 5 + 2))) := (hE.cells.1 bv (offv + (j * 5 + 2)) hbkv).trans (hcellv _ _ (at3_get (by have := HLEN2.out; omega)))
      have zv3 : wr.cell? ⟨bv, offv + j * 5 + 3, none⟩ = some (.int .i64 (at3 xs (j * 5 + 3))) := (hE.cells.1 bv (offv + (j * 5 + 3)) hbkv).trans (hcellv _ _ (at3_get (by have := HLEN2.out; omega)))
      have zv4 : wr.cell? ⟨bv, offv + j * 5 + 4, none⟩ = some (.int .i64 (at3 xs (j * 5 + 4))) := (hE.cells.1 bv (offv + (j * 5 + 4)) hbkv).trans (hcellv _ _ (at3_get (by have := HLEN2.out; omega)))
      clear hcellv
      generalize at3 xs (j * 5) = x0 at *
      generalize at3 xs (j * 5 + 1) = x1 at *
      generalize at3 xs (j * 5 + 2) = x2 at *
      generalize at3 xs (j * 5 + 3) = x3 at *
      generalize at3 xs (j * 5 + 4) = x4 at *
      have hneq := fun w => neq_dyad x0 x1 x2 x3 x4 w
      have hcl : j < c1 := by omega
      have hcl' : j < c2 := by omega
      have zb1 := fun k => cell_of_row _ _ k _ _ _ hbb1
      have zb2 := fun k => cell_of_row _ _ k _ _ _ hbb2
      have lb1 := (Array.getElem?_eq_some_iff.1 hbb1).1
      have lb2 := (Array.getElem?_eq_some_iff.1 hbb2).1
      clear hbb1 hbb2 hE1 hE
      go_wp2
      refine wp_region_madeC (m := 45) (by kernel_rfl) (by kernel_rfl) rfl (fun hxc => ?_)
      repeat (refine mw_quiet ?_; apply Exists.intro; refine ⟨fun σ => ?_, ?_⟩; (first | (go_simp; rfl) | fail); simp only [Act.put, List.setIfInBounds_toArray, List.set_cons_succ, List.set_cons_zero, List.nil_append, List.cons_append])
      refine ⟨by kernel_rfl, fun σ w6 hF6 => ?_⟩
      have hx6 := hF6.ext
      clear hF6 hxc
      obtain ⟨hc6, hf6⟩ := hx6.cells
      have hz6 := hx6.size
      try simp at hz6
      clear hneq
      go_wp2
      go_roundw
      case rel => exact ⟨j + 1, by omega, by go_num, HE1'.out.trans hx6⟩
      case measure => simp [RowKit.intOf]; omega
    · obtain rfl : n = j := by omega
      clear HH HH2 HLEN
      go_wp2
      go_ret
      exact ⟨rfl, hE⟩

theorem bigN_any (v1 v2 : Value) (n1 n2 : Nat) (w : World) (h1 : ∃ a c, v1 = .slice a n1 c ∧ n1 ≤ maxLen) (h2 : ∃ a c, v2 = .slice a n2 c ∧ n2 ≤ maxLen) :
    Calls Tryd.prog 10 #[v1, v2] w fun e w' => e = .returned (.bool (decide (1048576 < (n1 : Int)) || decide (1048576 - (n1 : Int) < n2))) ∧ Ext w w' := by
  obtain ⟨a1, c1, rfl, k1⟩ := h1
  obtain ⟨a2, c2, rfl, k2⟩ := h2
  have m1 : n1 ≤ 9223372036854775807 := k1
  have m2 : n2 ≤ 9223372036854775807 := k2
  go_enter Tryd.func10, Tryd.ntmps10
  by_cases h : (1048576 : Int) < n1
  · go_wp2
    go_ret
    exact ⟨ret_bool (by simp [h]), (by repeat (first | exact Ext.refl _ | assumption | refine Ext.alloc ?_ _ | refine Ext.drew ?_ | refine Ext.drewN ?_ _ | refine Ext.setCell ?_ (by first | omega | (dsimp only; omega) | (simp; done) | (simp; omega)) _ | refine Ext.trans ?_ (by assumption)))⟩
  · go_wp2
    go_ret
    exact ⟨ret_bool (by simp [h]; omega), (by repeat (first | exact Ext.refl _ | assumption | refine Ext.alloc ?_ _ | refine Ext.drew ?_ | refine Ext.drewN ?_ _ | refine Ext.setCell ?_ (by first | omega | (dsimp only; omega) | (simp; done) | (simp; omega)) _ | refine Ext.trans ?_ (by assumption)))⟩

set_option maxRecDepth 20000 in
set_option maxHeartbeats 16000000 in
theorem law_FnCanonical (v1 v2 : Value) (n1 n2 : Nat) (w : World) (h1 : BY w.heap.size w v1 n1) (h2 : BY w.heap.size w v2 n2) (hT : Tab w) :
    Calls Tryd.prog 4 #[v1, v2] w fun e w' => e = .returned (.bool true) ∧ Ext w w' := by
  have hb := bigN_any v1 v2 n1 n2 w (by obtain ⟨a, c, h, h3, h4, _⟩ := h1; exact ⟨a, c, h, Nat.le_trans h3 h4⟩) (by obtain ⟨a, c, h, h3, h4, _⟩ := h2; exact ⟨a, c, h, Nat.le_trans h3 h4⟩)
  generalize (decide (1048576 < (n1 : Int)) || decide (1048576 - (n1 : Int) < n2)) = big at hb
  have HB := Lib.hid hb
  have HD1 := fun w' (hx : Ext w w') => Lib.hid (drawCanonicalPhase_any v1 n1 w' (h1.later hx))
  have HTb := Lib.hid hT
  obtain ⟨q1, r1, rfl⟩ := h1.noarg
  obtain ⟨q2, r2, rfl⟩ := h2.noarg
  clear h1 h2 hb hT
  obtain ⟨J, hJ⟩ : ∃ J, n2 % 8 = J := ⟨_, rfl⟩
  have t8 : Int.tmod (n2 : Int) 8 = (J : Int) := by rw [← hJ, show (8 : Int) = ((8 : Nat) : Int) from rfl, ← Int.ofNat_tmod]
  have hJ7 : J ≤ 7 := by omega
  clear hJ
  go_enter Tryd.func4, Tryd.ntmps4
  go_wp2_with fail
  refine HB.out.mono ?_
  rintro e w1 ⟨rfl, hx1⟩
  cases big
  case true =>
    go_wp2
    go_ret
    exact ⟨rfl, hx1⟩
  go_wp2_with fail
  refine (HD1 w1 hx1).out.mono ?_
  rintro e w2 ⟨r, c, a1, m, c1, rfl, hm16, ⟨L, hRV⟩, hx2⟩
  have X2 : Hid (Ext w w2) := hx1.trans hx2
  have hm2 : m ≤ 2000000 := by omega
  have HI := fun W (hx : Ext w2 W) => Lib.hid (canonicalPhase_any r c hm2 W (hRV.ext hx))
  have HS := fun W (hx : Ext w2 W) => Lib.hid (s_canonicalPhase_any r c hm2 W (hRV.ext hx))
  have HK := fun W (hx : Ext w2 W) => Lib.hid (operatorKey_any r c hm2 W (HTb.out.ext (X2.out.trans hx)) (hRV.ext hx))
  have HSc := fun (hg : mGood r c m L = true) W (hx : Ext w2 W) => Lib.hid (s_scaleMatrix_phase r c hm2 hg J hJ7 W (hRV.ext hx))
  have HMo := fun W => Lib.hid (s_mulOmega_one J hJ7 W)
  obtain ⟨hfl, hfo, hfn⟩ := op_facts r c m L
  have HEQ : Hid (cpOk r c m L = true → ifZ (cpOk r c m L) r = r ∧ ifZ (cpOk r c m L) c = c ∧ ifN (cpOk r c m L) m = m ∧ ifL (cpOk r c m L) (cpM L (cpK m L) m) = cpM L (cpK m L) m ∧ mGood r c m L = true ∧ (∀ k, cpOk r c m (cpM L k m) = true ∧ cpM (cpM L k m) (cpK m (cpM L k m)) m = cpM L (cpK m L) m ∧ opT r c m (cpM L k m) = opT r c m L)) := fun h => by
    have hg : mGood r c m L = true := by
      simp only [cpOk, Bool.and_eq_true] at h
      exact h.1
    refine ⟨by rw [h]; rfl, by rw [h]; rfl, by rw [h]; rfl, by rw [h]; rfl, hg, fun k => ?_⟩
    obtain ⟨g1, g2, g3⟩ := cp_turn h k
    exact ⟨g2, g3, op_turn h k⟩
  generalize ifZ (cpOk r c m L) r = rr at *
  generalize ifZ (cpOk r c m L) c = cc at *
  generalize ifZ (cpOk r c m L) (cpK m L : Nat) = kk at *
  generalize ifN (cpOk r c m L) m = nn at *
  generalize ifL (cpOk r c m L) (cpM L (cpK m L) m) = LL at *
  generalize hok : cpOk r c m L = ok at *
  have HLN := Lib.hid hfl
  have hnn : nn ≤ 2000000 := by omega
  clear hx1 hx2 HD1 HB hfl hfo hfn
  go_wp2_with fail
  refine (HI _ ((Ext.refl w2).alloc _)).out.mono ?_
  rintro e w3 ⟨v3, rfl, o3, hx3⟩
  have HM3 : Hid (w3.heap[w2.heap.size]? = some (.cells #[.int .i64 r, .int .i64 c, .slice a1 m c1] 30 (0, 0))) := heap_keepE hx3 (heap_alloc_new _ _)
  have X3 : Hid (Ext w2 w3) := ((Ext.refl w2).alloc _).trans hx3
  have O3 := Lib.hid o3
  obtain ⟨a3, c3, rfl, -, -, -⟩ := own_shape o3
  clear o3 hx3 HI
  have zM := fun k => cell_of_row _ _ k _ _ _ HM3.out
  have lM := (Array.getElem?_eq_some_iff.1 HM3.out).1
  go_wp2_with fail
  refine (HS _ (X3.out.alloc _)).out.mono ?_
  rintro e w4 ⟨v4, rfl, o4, hx4⟩
  have HM4 := Lib.hid (heap_keepE hx4 (heap_alloc_lt HM3.out))
  have HX4 : Hid (w4.heap[w3.heap.size]? = some (.cells #[.int .i64 rr, .int .i64 cc, .slice a3 nn c3] 30 (0, 0))) := heap_keepE hx4 (heap_alloc_new _ _)
  have X4 : Hid (Ext w2 w4) := (X3.out.alloc _).trans hx4
  have hx34 : Hid (Ext w3 w4) := ((Ext.refl w3).alloc _).trans hx4
  have O4 := Lib.hid o4
  obtain ⟨a4, c4, rfl, -, -, -⟩ := own_shape o4
  clear o4 hx4 HS zM lM HM3
  have zX := fun k => cell_of_row _ _ k _ _ _ HX4.out
  have lX := (Array.getElem?_eq_some_iff.1 HX4.out).1
  go_wp2_with fail
  refine (equalMatrices_same rr cc hnn _ (RV.own (own_ext O3.out (hx34.out.alloc _)) HLN.out) (RV.own (own_ext O4.out ((Ext.refl w4).alloc _)) HLN.out)).mono ?_
  rintro e w5 ⟨rfl, hx5⟩
  have HM5 := Lib.hid (heap_keepE hx5 (heap_alloc_lt HM4.out))
  have HW5 : Hid (w5.heap[w4.heap.size]? = some (.cells #[.int .i64 rr, .int .i64 cc, .slice a4 nn c4] 30 (0, 0))) := heap_keepE hx5 (heap_alloc_new _ _)
  have X5 : Hid (Ext w2 w5) := (X4.out.alloc _).trans hx5
  have O5 := Lib.hid (own_ext O4.out (((Ext.refl w4).alloc _).trans hx5))
  clear hx5 zX lX HX4 HM4 X3 X4 hx34 O3 O4
  cases ok
  case false =>
    clear HEQ HK HSc HMo
    go_wp2
    go_ret
    exact ⟨by first | rfl | simp, X2.out.trans X5.out⟩
  obtain ⟨e1, e2, e3, e4, hg, hturn⟩ := HEQ.out rfl
  subst e1 e2 e3 e4
  have HSc := HSc hg
  obtain ⟨hc1, hc2, hc3⟩ := hturn J
  have hYl := moL_len (fun p => turns J (dyAt L p)) (exAt L) nn
  have HYL : Hid ((cpM L J nn).length = nn * 5) := hYl
  have HI2 := fun (v : Value) W (hRV : RV W 5 v nn (cpM L J nn)) => Lib.hid (canonicalPhase_any rr cc hm2 W hRV)
  have HK2 := fun (v : Value) W (hT : Tab W) (hRV : RV W 5 v nn (cpM L J nn)) => Lib.hid (operatorKey_any rr cc hm2 W hT hRV)
  rw [hc1, hc2] at HI2
  rw [hc1, hc3] at HK2
  simp only [ifZ_true, show ∀ n, ifN true n = n from fun _ => rfl, show ∀ l, ifL true l = l from fun _ => rfl] at HI2
  generalize cpM L (cpK nn L) nn = MM at *
  generalize cpM L J nn = YY at *
  generalize (turns J R4.one) = T at *
  generalize BA (opT rr cc nn L) = SS at *
  generalize (cpK nn YY : Nat) = kz at *
  obtain ⟨t1, t2, t3, t4⟩ := T
  dsimp only at HSc HMo
  clear hc1 hc2 hc3 hYl HEQ hturn hok hg
  go_wp2_with fail
  refine (HMo _).out.mono ?_
  rintro e w6 ⟨rfl, hx6⟩
  have HM6 := Lib.hid (heap_keepE hx6 HM5.out)
  have HW6 := Lib.hid (heap_keepE hx6 HW5.out)
  have X6 : Hid (Ext w2 w6) := X5.out.trans hx6
  have O6 := Lib.hid (own_ext O5.out hx6)
  clear hx6 HM5 HW5 X5 O5 HMo
  have zM := fun k => cell_of_row _ _ k _ _ _ HM6.out
  have lM := (Array.getElem?_eq_some_iff.1 HM6.out).1
  go_wp2_with fail
  refine (HSc _ (X6.out.alloc _)).out.mono ?_
  rintro e w7 ⟨v7, rfl, o7, hx7⟩
  have HM7 := Lib.hid (heap_keepE hx7 (heap_alloc_lt HM6.out))
  have HW7 := Lib.hid (heap_keepE hx7 (heap_alloc_lt HW6.out))
  have X7 : Hid (Ext w2 w7) := (X6.out.alloc _).trans hx7
  have OW7 := Lib.hid (own_ext O6.out (((Ext.refl w6).alloc _).trans hx7))
  have O7 := Lib.hid o7
  obtain ⟨a7, c7, rfl, -, -, -⟩ := own_shape o7
  clear o7 hx7 HM6 HW6 X6 O6 HSc zM lM
  go_wp2_with fail
  refine (HI2 _ _ (RV.own (own_ext O7.out ((Ext.refl w7).alloc _)) HYL.out)).out.mono ?_
  rintro e w8 ⟨v8, rfl, o8, hx8⟩
  have HM8 := Lib.hid (heap_keepE hx8 (heap_alloc_lt HM7.out))
  have HW8 := Lib.hid (heap_keepE hx8 (heap_alloc_lt HW7.out))
  have HY8 : Hid (w8.heap[w7.heap.size]? = some (.cells #[.int .i64 rr, .int .i64 cc, .slice a7 nn c7] 30 (0, 0))) := heap_keepE hx8 (heap_alloc_new _ _)
  have hx78 : Hid (Ext w7 w8) := ((Ext.refl w7).alloc _).trans hx8
  have X8 : Hid (Ext w2 w8) := X7.out.trans hx78.out
  have OW8 := Lib.hid (own_ext OW7.out hx78.out)
  have OY8 := Lib.hid (own_ext O7.out hx78.out)
  have O8 := Lib.hid o8
  obtain ⟨a8, c8, rfl, -, -, -⟩ := own_shape o8
  clear o8 hx8 hx78 HM7 HW7 X7 OW7 O7 HI2
  have zW := fun k => cell_of_row _ _ k _ _ _ HW8.out
  have lW := (Array.getElem?_eq_some_iff.1 HW8.out).1
  go_wp2_with fail
  refine (equalMatrices_same rr cc hnn _ (RV.own (own_ext O8.out ((Ext.refl w8).alloc _)) HLN.out) (RV.own (own_ext OW8.out ((Ext.refl w8).alloc _)) HLN.out)).mono ?_
  rintro e w9 ⟨rfl, hx9⟩
  have hx89 : Hid (Ext w8 w9) := ((Ext.refl w8).alloc _).trans hx9
  have HM9 := Lib.hid (heap_keepE hx89.out HM8.out)
  have HY9 := Lib.hid (heap_keepE hx89.out HY8.out)
  have X9 : Hid (Ext w2 w9) := X8.out.trans hx89.out
  have OY9 := Lib.hid (own_ext OY8.out hx89.out)
  clear hx9 hx89 HM8 HW8 HY8 X8 OW8 OY8 O8 zW lW
  have zM := fun k => cell_of_row _ _ k _ _ _ HM9.out
  have lM := (Array.getElem?_eq_some_iff.1 HM9.out).1
  go_wp2_with fail
  refine (HK _ X9.out).out.mono ?_
  rintro e w10 ⟨rfl, hx10⟩
  have HY10 := Lib.hid (heap_keepE hx10 HY9.out)
  have X10 : Hid (Ext w2 w10) := X9.out.trans hx10
  have OY10 := Lib.hid (own_ext OY9.out hx10)
  clear hx10 HM9 HY9 X9 OY9 zM lM HK
  have zY := fun k => cell_of_row _ _ k _ _ _ HY10.out
  have lY := (Array.getElem?_eq_some_iff.1 HY10.out).1
  go_wp2_with fail
  refine (HK2 _ _ (HTb.out.ext (X2.out.trans X10.out)) (RV.own OY10.out HYL.out)).out.mono ?_
  rintro e w11 ⟨rfl, hx11⟩
  have X11 : Hid (Ext w w11) := (X2.out.trans X10.out).trans hx11
  clear hx11 HY10 X10 OY10 zY lY HK2
  go_wp2
  go_ret
  exact ⟨by first | rfl | simp, X11.out⟩

theorem law_FnCanonical_c (v1 v2 : Value) {k1 k2 : Nat} {w0 : World} (s1 : Shape Tryd.prog w0 k1 34 v1.cells.toList) (s2 : Shape Tryd.prog w0 k2 34 v2.cells.toList) (w : World) (hT : Tab w) (hw : w0 = w := by rfl) (c1 : v1.cells = #[v1] := by rfl) (c2 : v2.cells = #[v2] := by rfl) :
    Calls Tryd.prog 4 #[v1, v2] w fun e w' => e = .returned (.bool true) ∧ Ext w w' := by
  subst hw
  rw [c1] at s1
  rw [c2] at s2
  obtain ⟨n1, h1⟩ := by_of_shape Tryd.underlying34 Tryd.underlying5 (by kernel_rfl) s1
  obtain ⟨n2, h2⟩ := by_of_shape Tryd.underlying34 Tryd.underlying5 (by kernel_rfl) s2
  exact law_FnCanonical v1 v2 n1 n2 w0 h1 h2 hT

end Go.Proofs.YtamiploliebplaaDoor
