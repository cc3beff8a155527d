/- The grid: NearestPoint on both sides. -/
import Derived.Test.YtojoljffaedpfaaGrdN
import Derived.Test.YtojoljffaedpfaaMade
namespace Go.Proofs.Ytojoljffaedpfaa
open Go.RowKit Go.Lib
set_option linter.unusedVariables false
set_option linter.unusedSimpArgs false

set_option maxRecDepth 20000 in
set_option maxHeartbeats 4000000 in
theorem nearest_any (lo hi den lo' hi' den' p q : Int) (w : World) :
    Calls Try.prog 16 #[.agg #[.int .i64 lo, .int .i64 hi, .int .i64 den], .agg #[.int .i64 lo', .int .i64 hi', .int .i64 den'], .agg #[.int .i64 p, .int .i64 q]] w fun e w' =>
      e = .returned (.tuple #[.agg #[.int .i64 (npV lo hi den lo' hi' den' p q).1, .int .i64 (npV lo hi den lo' hi' den' p q).2], .bool (npOk lo hi den lo' hi' den' p q)]) ∧ Ext w w' := by
  have HG := fun w => Lib.hid (gridPoints_any lo hi den lo' hi' den' w)
  have HR := fun w => Lib.hid (isRoot2_any p q w)
  have HO : Hid (npOk lo hi den lo' hi' den' p q = (gpOk lo hi den lo' hi' den' && (decide (0 < (gpV lo hi den lo' hi' den').length) && R2 p q))) := rfl
  have HNO : Hid (npOk lo hi den lo' hi' den' p q = false → npV lo hi den lo' hi' den' p q = (0, 0)) := npV_no
  have HYES : Hid (npOk lo hi den lo' hi' den' p q = true → npV lo hi den lo' hi' den' p q = npJ (ky p q) (fl2 (gpV lo hi den lo' hi' den')) (gpV lo hi den lo' hi' den').length) := npV_yes
  have HPL : Hid (gpOk lo hi den lo' hi' den' = true → PL (fl2 (gpV lo hi den lo' hi' den')) (gpV lo hi den lo' hi' den').length) := gp_PL
  have hlen := fl2_len (gpV lo hi den lo' hi' den')
  have hle := gp_len lo hi den lo' hi' den'
  generalize fl2 (gpV lo hi den lo' hi' den') = xs at *
  generalize (gpV lo hi den lo' hi' den').length = n at *
  generalize gpOk lo hi den lo' hi' den' = g at *
  generalize npV lo hi den lo' hi' den' p q = V at *
  generalize npOk lo hi den lo' hi' den' p q = o at *
  have HLEN := Lib.hid hlen
  clear hlen
  cases g
  · have HN : Hid (o = false) := HO.out.trans (by simp)
    have HN2 := Lib.hid (HNO.out HN.out)
    clear HO HNO HYES HPL
    go_enter Try.func16, Try.ntmps16
    go_wp2_with fail
    refine (HG _).out.mono ?_
    rintro e w1 ⟨v, rfl, o1, hx1⟩
    have HRV := RV.own o1 HLEN.out
    obtain ⟨_, a, c, rfl, hc1', hc2', HHo⟩ := HRV
    have HH := Lib.hid HHo
    clear o1 HHo
    obtain ⟨hc1, hf1⟩ := hx1.cells
    have hz1 := hx1.size
    try simp at hz1
    have hs1_0 := sz4 (a := w.heap.size) (b := w1.heap.size) (by omega)
    go_wp2
    refine bodyPost_ret (v := .tuple #[.agg #[.int .i64 0, .int .i64 0], .bool false]) (by simp [results, Try.results16, go_sem, *]) rfl ?_
    rw [HN.out, HN2.out]
    exact ⟨rfl, (by repeat (first | (with_reducible refine Ext.setCell ?_ (by first | (simp; done) | (simp; omega)) _) | with_reducible refine Ext.alloc ?_ _ | with_reducible refine Ext.drew ?_ | with_reducible refine Ext.drewN ?_ _ | with_reducible assumption | with_reducible exact Ext.refl _ | with_reducible refine Ext.trans ?_ (by with_reducible assumption)))⟩
  have HPX := Lib.hid (HPL.out rfl)
  clear HPL
  by_cases h0 : 0 < n
  case neg =>
    have h0' : n = 0 := by omega
    subst h0'
    have HN : Hid (o = false) := HO.out.trans (by simp)
    have HN2 := Lib.hid (HNO.out HN.out)
    clear HO HNO HYES HPX
    go_enter Try.func16, Try.ntmps16
    go_wp2_with fail
    refine (HG _).out.mono ?_
    rintro e w1 ⟨v, rfl, o1, hx1⟩
    have HRV := RV.own o1 HLEN.out
    obtain ⟨_, a, c, rfl, hc1', hc2', HHo⟩ := HRV
    have HH := Lib.hid HHo
    clear o1 HHo
    obtain ⟨hc1, hf1⟩ := hx1.cells
    have hz1 := hx1.size
    try simp at hz1
    have hs1_0 := sz4 (a := w.heap.size) (b := w1.heap.size) (by omega)
    go_wp2
    refine bodyPost_ret (v := .tuple #[.agg #[.int .i64 0, .int .i64 0], .bool false]) (by simp [results, Try.results16, go_sem, *]) rfl ?_
    rw [HN.out, HN2.out]
    exact ⟨rfl, (by repeat (first | (with_reducible refine Ext.setCell ?_ (by first | (simp; done) | (simp; omega)) _) | with_reducible refine Ext.alloc ?_ _ | with_reducible refine Ext.drew ?_ | with_reducible refine Ext.drewN ?_ _ | with_reducible assumption | with_reducible exact Ext.refl _ | with_reducible refine Ext.trans ?_ (by with_reducible assumption)))⟩
  have h0i : ¬ ((n : Int) = 0) := by omega
  have h0n : ¬ (n = 0) := by omega
  have h0b : ((n : Int) == 0) = false := by rw [beq_eq_false_iff_ne]; omega
  cases hr : R2 p q
  · rw [hr] at HR
    have HN : Hid (o = false) := HO.out.trans (by rw [hr]; simp)
    have HN2 := Lib.hid (HNO.out HN.out)
    clear HO HNO HYES HPX hr
    go_enter Try.func16, Try.ntmps16
    go_wp2_with fail
    refine (HG _).out.mono ?_
    rintro e w1 ⟨v, rfl, o1, hx1⟩
    have HRV := RV.own o1 HLEN.out
    obtain ⟨_, a, c, rfl, hc1', hc2', HHo⟩ := HRV
    have HH := Lib.hid HHo
    clear o1 HHo
    obtain ⟨hc1, hf1⟩ := hx1.cells
    have hz1 := hx1.size
    try simp at hz1
    have hs1_0 := sz4 (a := w.heap.size) (b := w1.heap.size) (by omega)
    go_wp2_with fail
    refine ((HR _).out).mono ?_
    rintro e w2 ⟨rfl, hx2⟩
    obtain ⟨hc2, hf2⟩ := hx2.cells
    have hz2 := hx2.size
    try simp at hz2
    have hs2_0 := sz4 (a := w.heap.size) (b := w2.heap.size) (by omega)
    go_wp2
    refine bodyPost_ret (v := .tuple #[.agg #[.int .i64 0, .int .i64 0], .bool false]) (by simp [results, Try.results16, go_sem, *]) rfl ?_
    rw [HN.out, HN2.out]
    exact ⟨rfl, (by repeat (first | (with_reducible refine Ext.setCell ?_ (by first | (simp; done) | (simp; omega)) _) | with_reducible refine Ext.alloc ?_ _ | with_reducible refine Ext.drew ?_ | with_reducible refine Ext.drewN ?_ _ | with_reducible assumption | with_reducible exact Ext.refl _ | with_reducible refine Ext.trans ?_ (by with_reducible assumption)))⟩
  have hR := R2_bd hr
  have HRB := Lib.hid hR
  rw [hr] at HR
  have HY : Hid (o = true) := HO.out.trans (by rw [hr]; simp; omega)
  have HY2 := Lib.hid (HYES.out HY.out)
  clear HO HNO HYES hr hR
  go_enter Try.func16, Try.ntmps16
  go_wp2_with fail
  refine (HG _).out.mono ?_
  rintro e w1 ⟨v, rfl, o1, hx1⟩
  have HRV := RV.own o1 HLEN.out
  obtain ⟨_, a, c, rfl, hc1', hc2', HHo⟩ := HRV
  have HH := Lib.hid HHo
  clear o1 HHo
  have hT1 : Hid (w1.heap[w.heap.size + 1 + 1]? = some (.cells #[.int .i64 p, .int .i64 q] 34 (0, 0))) := (hx1.heap (by simp)).trans (heap_alloc_lt (heap_alloc_at _ _ _ (by simp)))
  have hR1 : Hid (w1.heap[w.heap.size + 1 + 1 + 1]? = some (.cells #[.int .i64 0, .int .i64 0] 34 (0, 0))) := (hx1.heap (by simp)).trans (heap_alloc_at _ _ _ (by simp))
  have hE1 : Ext w w1 := (by repeat (first | (with_reducible refine Ext.setCell ?_ (by first | (simp; done) | (simp; omega)) _) | with_reducible refine Ext.alloc ?_ _ | with_reducible refine Ext.drew ?_ | with_reducible refine Ext.drewN ?_ _ | with_reducible assumption | with_reducible exact Ext.refl _ | with_reducible refine Ext.trans ?_ (by with_reducible assumption)))
  obtain ⟨hc1, hf1⟩ := hx1.cells
  have hz1 := hx1.size
  try simp at hz1
  have hs1_0 := sz4 (a := w.heap.size) (b := w1.heap.size) (by omega)
  go_wp2_with fail
  refine ((HR _).out).mono ?_
  rintro e w2 ⟨rfl, hx2⟩
  obtain ⟨hc2, hf2⟩ := hx2.cells
  have hz2 := hx2.size
  try simp at hz2
  have hs2_0 := sz4 (a := w.heap.size) (b := w2.heap.size) (by omega)
  have HE2 := Lib.hid (hE1.trans hx2)
  have hT2 := Lib.hid ((hx2.heap (Array.getElem?_eq_some_iff.1 hT1.out).1).trans hT1.out)
  have hR2 := Lib.hid ((hx2.heap (Array.getElem?_eq_some_iff.1 hR1.out).1).trans hR1.out)
  have hx12 := Lib.hid hx2
  clear hx1 hT1 hR1 hE1
  obtain ⟨b0, off0, rfl, hbk0, hcell0⟩ := HH.out h0
  have lb2 : b0 < w2.heap.size := by have := hx12.out.size; omega
  have y0 := (hc2 b0 (off0 + 0) hbk0).trans (hcell0 0 _ (at3_get (by have := HLEN.out; omega)))
  have y1 := (hc2 b0 (off0 + 1) hbk0).trans (hcell0 1 _ (at3_get (by have := HLEN.out; omega)))
  rw [Nat.add_zero] at y0
  have HC0 : Hid (∀ W, Ext w2 W → ∀ j, j < n → W.cell? ⟨b0, off0 + j * 2, none⟩ = some (.int .i64 (at3 xs (j * 2))) ∧ W.cell? ⟨b0, off0 + j * 2 + 1, none⟩ = some (.int .i64 (at3 xs (j * 2 + 1)))) := fun W hW j hj => by
    have hl := HLEN.out
    refine ⟨(hW.cells.1 _ _ lb2).trans ((hc2 _ _ hbk0).trans (hcell0 _ _ (at3_get (by omega)))), ?_⟩
    rw [Nat.add_assoc]
    exact (hW.cells.1 _ _ lb2).trans ((hc2 _ _ hbk0).trans (hcell0 _ _ (at3_get (by omega))))
  clear hcell0 hc1 hf1 hc2 hf2 hx2 HH
  have hsz2 : w.heap.size + 4 ≤ w2.heap.size := by omega
  clear hs1_0 hs2_0 hz1 hz2
  go_wp2
  clear y0 y1
  go_loopw [12, 37] (fun _ i wr => ∃ j : Nat, j ≤ n ∧ i = .int .i64 j ∧ Hid (wr.heap[w2.heap.size]? = some (.cells #[.int .i64 (npJ (ky p q) xs j).1, .int .i64 (npJ (ky p q) xs j).2] 34 (0, 0))) ∧ Ext w2 wr) (fun _ i _ => n - (intOf i).toNat)
  case atStart => exact ⟨0, by omega, rfl, heap_alloc_new _ _, (Ext.refl _).alloc _⟩
  case round =>
    obtain ⟨j, hj, rfl, HB, hE⟩ := hrel
    have HEr := Lib.hid hE
    have hT3 := (hE.heap (Array.getElem?_eq_some_iff.1 hT2.out).1).trans hT2.out
    have hR3 := (hE.heap (Array.getElem?_eq_some_iff.1 hR2.out).1).trans hR2.out
    have HR3 := Lib.hid hR3
    have lB := (Array.getElem?_eq_some_iff.1 HB.out).1
    have lT := (Array.getElem?_eq_some_iff.1 hT3).1
    have lR := (Array.getElem?_eq_some_iff.1 hR3).1
    have lT2 : w.heap.size + 1 < wr.heap.size := by omega
    have lR2 : w.heap.size + 1 + 1 < wr.heap.size := by omega
    have zB := fun k => cell_of_row _ _ k _ _ _ HB.out
    by_cases hlt : j < n
    · have hlt' : (j : Int) < n := by omega
      obtain ⟨y0, y1⟩ := HC0.out wr hE j hlt
      have lbr : b0 < wr.heap.size := by have := hE.size; omega
      have zT := fun k => cell_of_row _ _ k _ _ _ hT3
      have fB := fun k => frozen_of_row _ _ k _ _ HB.out
      have hbb := npJ_bd (K := ky p q) HPX.out h0 j hj
      have hxb := HPX.out.b j hlt
      have hjl := npJ_le (K := ky p q) HPX.out j hlt
      have HSJ : Hid (npJ (ky p q) xs (j + 1) = npS (ky p q) (npJ (ky p q) xs j) (at3 xs (j * 2), at3 xs (j * 2 + 1))) := rfl
      obtain ⟨b1, hb1⟩ : ∃ b1, (npJ (ky p q) xs j).1 = b1 := ⟨_, rfl⟩
      obtain ⟨b2, hb2⟩ : ∃ b2, (npJ (ky p q) xs j).2 = b2 := ⟨_, rfl⟩
      have hpr : npJ (ky p q) xs j = (b1, b2) := Prod.ext hb1 hb2
      rw [hpr] at HB hbb hjl HSJ zB
      simp only at HB hbb hjl zB
      clear hb1 hb2 hpr
      generalize at3 xs (j * 2) = x1 at *
      generalize at3 xs (j * 2 + 1) = x2 at *
      have HST := Lib.hid (np_step (p := p) (q := q) HRB.out hbb hxb hjl)
      have d1 := ds_bd hxb HRB.out
      have d2 := ds_bd hbb HRB.out
      have HD1 := fun w => Lib.hid (distance_any x1 x2 p q hxb HRB.out w)
      have HD2 := fun w => Lib.hid (distance_any b1 b2 p q hbb HRB.out w)
      have HCM := fun w => Lib.hid (compareRoot2_any (dsP x1 x2 p q) (dsQ x1 x2 p q) (dsP b1 b2 p q) (dsQ b1 b2 p q) (Cf_mk (by omega)) (Cf_mk (by omega)) w)
      generalize S2 (dsP x1 x2 p q - dsP b1 b2 p q) (dsQ x1 x2 p q - dsQ b1 b2 p q) = s at *
      have hc : s < 0 ∨ ¬ s < 0 := Decidable.em _
      go_wp2
      refine wp_region_madeC (m := 52) (by kernel_rfl) (by kernel_rfl) rfl (fun hxc => ?_)
      repeat (refine mw_quiet ?_; apply Exists.intro; refine ⟨fun σ => ?_, ?_⟩; (first | (go_simp; rfl) | (go_simp; intro x; first | (go_at_call 44; with_reducible exact (HD1 _).out) | (go_at_call 44; with_reducible exact (HD2 _).out) | (go_at_call 42; with_reducible exact (HCM _).out) | (go_at_call 44; exact (HD1 _).out) | (go_at_call 44; exact (HD2 _).out) | (go_at_call 42; exact (HCM _).out))); simp only [Act.put, List.setIfInBounds_toArray, List.set_cons_succ, List.set_cons_zero, List.nil_append, List.cons_append])
      refine ⟨by kernel_rfl, fun σ w3 hF3 => ?_⟩
      have hx3 := hF3.ext
      clear hF3 hxc
      obtain ⟨hc3, hf3⟩ := hx3.cells
      have hz3 := hx3.size
      try simp at hz3
      have hs3_0 := sz1 (a := wr.heap.size) (b := w3.heap.size) (by omega)
      have HX3 := Lib.hid ((HEr.out.alloc (.cells #[.int .i64 x1, .int .i64 x2] 34 (0, 0))).trans hx3)
      have hB3 := (hx3.heap (k := w2.heap.size) (by simp; omega)).trans (heap_alloc_lt HB.out)
      have HB3 := Lib.hid hB3
      have hX3 := (hx3.heap (k := wr.heap.size) (by simp)).trans (heap_alloc_new _ _)
      have zB3 := fun k => cell_of_row _ _ k _ _ _ hB3
      have fB3 := fun k => frozen_of_row _ _ k _ _ hB3
      have lB3 := (Array.getElem?_eq_some_iff.1 hB3).1
      have zX3 := fun k => cell_of_row _ _ k _ _ _ hX3
      have lX3 := (Array.getElem?_eq_some_iff.1 hX3).1
      clear hx3 hc3 hf3 hB3 hX3 zB fB zT y0 y1
      rcases hc with hc | hc
      · have hS := HST.out.1 hc
        have HSS : Hid (npJ (ky p q) xs (j + 1) = (x1, x2)) := HSJ.out.trans hS
        clear hS
        go_wp2
        go_roundw
        case rel =>
          refine ⟨j + 1, by omega, by go_num, ?_, ?_⟩
          · unfold Hid
            rw [HSS.out]
            exact heap_set2N HB3.out
          · have hX := HX3.out
            exact (by repeat (first | (with_reducible refine Ext.setCell ?_ (by first | (simp; done) | (simp; omega)) _) | with_reducible refine Ext.alloc ?_ _ | with_reducible refine Ext.drew ?_ | with_reducible refine Ext.drewN ?_ _ | with_reducible assumption | with_reducible exact Ext.refl _ | with_reducible refine Ext.trans ?_ (by with_reducible assumption)))
        case measure => simp [intOf]; omega
      · have hS := HST.out.2 hc
        have HSS : Hid (npJ (ky p q) xs (j + 1) = (b1, b2)) := HSJ.out.trans hS
        clear hS
        go_wp2
        go_roundw
        case rel =>
          refine ⟨j + 1, by omega, by go_num, ?_, HX3.out⟩
          unfold Hid
          rw [HSS.out]
          exact HB3.out
        case measure => simp [intOf]; omega
    · obtain rfl : j = n := by omega
      have zR := fun k => cell_of_row _ _ k _ _ _ hR3
      have fR := fun k => frozen_of_row _ _ k _ _ hR3
      clear hT3 hR3
      have hEE := HE2.out.trans hE
      generalize hb1 : (npJ (ky p q) xs j).1 = b1 at *
      generalize hb2 : (npJ (ky p q) xs j).2 = b2 at *
      have HB1 := Lib.hid hb1
      have HB2 := Lib.hid hb2
      clear hb1 hb2
      go_wp2
      refine bodyPost_ret (v := .tuple #[.agg #[.int .i64 b1, .int .i64 b2], .bool true]) (by simp [results, Try.results16, go_sem, *]) rfl ?_
      rw [HY.out, HY2.out, HB1.out, HB2.out]
      exact ⟨rfl, (by repeat (first | (with_reducible refine Ext.setCell ?_ (by first | (simp; done) | (simp; omega)) _) | with_reducible refine Ext.alloc ?_ _ | with_reducible refine Ext.drew ?_ | with_reducible refine Ext.drewN ?_ _ | with_reducible assumption | with_reducible exact Ext.refl _ | with_reducible refine Ext.trans ?_ (by with_reducible assumption)))⟩

set_option maxRecDepth 20000 in
set_option maxHeartbeats 4000000 in
theorem s_nearest_any (lo hi den lo' hi' den' p q : Int) (w : World) :
    Calls Try.prog 14 #[.agg #[.int .i64 lo, .int .i64 hi, .int .i64 den], .agg #[.int .i64 lo', .int .i64 hi', .int .i64 den'], .agg #[.int .i64 p, .int .i64 q]] w fun e w' =>
      e = .returned (.tuple #[.agg #[.int .i64 (npV lo hi den lo' hi' den' p q).1, .int .i64 (npV lo hi den lo' hi' den' p q).2], .bool (npOk lo hi den lo' hi' den' p q)]) ∧ Ext w w' := by
  have HG := fun w => Lib.hid (s_gridPoints_any lo hi den lo' hi' den' w)
  have HR := fun w => Lib.hid (l25Good_any p q w)
  have HO : Hid (npOk lo hi den lo' hi' den' p q = (gpOk lo hi den lo' hi' den' && (decide (0 < (gpV lo hi den lo' hi' den').length) && R2 p q))) := rfl
  have HNO : Hid (npOk lo hi den lo' hi' den' p q = false → npV lo hi den lo' hi' den' p q = (0, 0)) := npV_no
  have HYES : Hid (npOk lo hi den lo' hi' den' p q = true → npV lo hi den lo' hi' den' p q = npJ (ky p q) (fl2 (gpV lo hi den lo' hi' den')) (gpV lo hi den lo' hi' den').length) := npV_yes
  have HPL : Hid (gpOk lo hi den lo' hi' den' = true → PL (fl2 (gpV lo hi den lo' hi' den')) (gpV lo hi den lo' hi' den').length) := gp_PL
  have hlen := fl2_len (gpV lo hi den lo' hi' den')
  have hle := gp_len lo hi den lo' hi' den'
  generalize fl2 (gpV lo hi den lo' hi' den') = xs at *
  generalize (gpV lo hi den lo' hi' den').length = n at *
  generalize gpOk lo hi den lo' hi' den' = g at *
  generalize npV lo hi den lo' hi' den' p q = V at *
  generalize npOk lo hi den lo' hi' den' p q = o at *
  have HLEN := Lib.hid hlen
  clear hlen
  cases g
  · have HN : Hid (o = false) := HO.out.trans (by simp)
    have HN2 := Lib.hid (HNO.out HN.out)
    clear HO HNO HYES HPL
    go_enter Try.func14, Try.ntmps14
    go_wp2_with fail
    refine (HG _).out.mono ?_
    rintro e w1 ⟨v, rfl, o1, hx1⟩
    have HRV := RV.own o1 HLEN.out
    obtain ⟨_, a, c, rfl, hc1', hc2', HHo⟩ := HRV
    have HH := Lib.hid HHo
    clear o1 HHo
    obtain ⟨hc1, hf1⟩ := hx1.cells
    have hz1 := hx1.size
    try simp at hz1
    have hs1_0 := sz4 (a := w.heap.size) (b := w1.heap.size) (by omega)
    go_wp2
    refine bodyPost_ret (v := .tuple #[.agg #[.int .i64 0, .int .i64 0], .bool false]) (by simp [results, Try.results14, go_sem, *]) rfl ?_
    rw [HN.out, HN2.out]
    exact ⟨rfl, (by repeat (first | (with_reducible refine Ext.setCell ?_ (by first | (simp; done) | (simp; omega)) _) | with_reducible refine Ext.alloc ?_ _ | with_reducible refine Ext.drew ?_ | with_reducible refine Ext.drewN ?_ _ | with_reducible assumption | with_reducible exact Ext.refl _ | with_reducible refine Ext.trans ?_ (by with_reducible assumption)))⟩
  have HPX := Lib.hid (HPL.out rfl)
  clear HPL
  cases hr : R2 p q
  · rw [hr] at HR
    have HN : Hid (o = false) := HO.out.trans (by rw [hr]; simp)
    have HN2 := Lib.hid (HNO.out HN.out)
    clear HO HNO HYES HPX hr
    go_enter Try.func14, Try.ntmps14
    go_wp2_with fail
    refine (HG _).out.mono ?_
    rintro e w1 ⟨v, rfl, o1, hx1⟩
    have HRV := RV.own o1 HLEN.out
    obtain ⟨_, a, c, rfl, hc1', hc2', HHo⟩ := HRV
    have HH := Lib.hid HHo
    clear o1 HHo
    obtain ⟨hc1, hf1⟩ := hx1.cells
    have hz1 := hx1.size
    try simp at hz1
    have hs1_0 := sz4 (a := w.heap.size) (b := w1.heap.size) (by omega)
    go_wp2_with fail
    refine ((HR _).out).mono ?_
    rintro e w2 ⟨rfl, hx2⟩
    obtain ⟨hc2, hf2⟩ := hx2.cells
    have hz2 := hx2.size
    try simp at hz2
    have hs2_0 := sz4 (a := w.heap.size) (b := w2.heap.size) (by omega)
    go_wp2
    refine bodyPost_ret (v := .tuple #[.agg #[.int .i64 0, .int .i64 0], .bool false]) (by simp [results, Try.results14, go_sem, *]) rfl ?_
    rw [HN.out, HN2.out]
    exact ⟨rfl, (by repeat (first | (with_reducible refine Ext.setCell ?_ (by first | (simp; done) | (simp; omega)) _) | with_reducible refine Ext.alloc ?_ _ | with_reducible refine Ext.drew ?_ | with_reducible refine Ext.drewN ?_ _ | with_reducible assumption | with_reducible exact Ext.refl _ | with_reducible refine Ext.trans ?_ (by with_reducible assumption)))⟩
  by_cases h0 : 0 < n
  case neg =>
    rw [hr] at HR
    have h0' : n = 0 := by omega
    subst h0'
    have HN : Hid (o = false) := HO.out.trans (by simp)
    have HN2 := Lib.hid (HNO.out HN.out)
    clear HO HNO HYES HPX
    go_enter Try.func14, Try.ntmps14
    go_wp2_with fail
    refine (HG _).out.mono ?_
    rintro e w1 ⟨v, rfl, o1, hx1⟩
    have HRV := RV.own o1 HLEN.out
    obtain ⟨_, a, c, rfl, hc1', hc2', HHo⟩ := HRV
    have HH := Lib.hid HHo
    clear o1 HHo
    obtain ⟨hc1, hf1⟩ := hx1.cells
    have hz1 := hx1.size
    try simp at hz1
    have hs1_0 := sz4 (a := w.heap.size) (b := w1.heap.size) (by omega)
    go_wp2_with fail
    refine ((HR _).out).mono ?_
    rintro e w2 ⟨rfl, hx2⟩
    obtain ⟨hc2, hf2⟩ := hx2.cells
    have hz2 := hx2.size
    try simp at hz2
    have hs2_0 := sz4 (a := w.heap.size) (b := w2.heap.size) (by omega)
    go_wp2
    refine bodyPost_ret (v := .tuple #[.agg #[.int .i64 0, .int .i64 0], .bool false]) (by simp [results, Try.results14, go_sem, *]) rfl ?_
    rw [HN.out, HN2.out]
    exact ⟨rfl, (by repeat (first | (with_reducible refine Ext.setCell ?_ (by first | (simp; done) | (simp; omega)) _) | with_reducible refine Ext.alloc ?_ _ | with_reducible refine Ext.drew ?_ | with_reducible refine Ext.drewN ?_ _ | with_reducible assumption | with_reducible exact Ext.refl _ | with_reducible refine Ext.trans ?_ (by with_reducible assumption)))⟩
  have h0i : ¬ ((n : Int) = 0) := by omega
  have h0n : ¬ (n = 0) := by omega
  have h0b : ((n : Int) == 0) = false := by rw [beq_eq_false_iff_ne]; omega
  have hR := R2_bd hr
  have HRB := Lib.hid hR
  rw [hr] at HR
  have HY : Hid (o = true) := HO.out.trans (by rw [hr]; simp; omega)
  have HY2 := Lib.hid (HYES.out HY.out)
  clear HO HNO HYES hr hR
  go_enter Try.func14, Try.ntmps14
  go_wp2_with fail
  refine (HG _).out.mono ?_
  rintro e w1 ⟨v, rfl, o1, hx1⟩
  have HRV := RV.own o1 HLEN.out
  obtain ⟨_, a, c, rfl, hc1', hc2', HHo⟩ := HRV
  have HH := Lib.hid HHo
  clear o1 HHo
  have hT1 : Hid (w1.heap[w.heap.size + 1 + 1]? = some (.cells #[.int .i64 p, .int .i64 q] 34 (0, 0))) := (hx1.heap (by simp)).trans (heap_alloc_lt (heap_alloc_at _ _ _ (by simp)))
  have hR1 : Hid (w1.heap[w.heap.size + 1 + 1 + 1]? = some (.cells #[.int .i64 0, .int .i64 0] 34 (0, 0))) := (hx1.heap (by simp)).trans (heap_alloc_at _ _ _ (by simp))
  have hE1 : Ext w w1 := (by repeat (first | (with_reducible refine Ext.setCell ?_ (by first | (simp; done) | (simp; omega)) _) | with_reducible refine Ext.alloc ?_ _ | with_reducible refine Ext.drew ?_ | with_reducible refine Ext.drewN ?_ _ | with_reducible assumption | with_reducible exact Ext.refl _ | with_reducible refine Ext.trans ?_ (by with_reducible assumption)))
  obtain ⟨hc1, hf1⟩ := hx1.cells
  have hz1 := hx1.size
  try simp at hz1
  have hs1_0 := sz4 (a := w.heap.size) (b := w1.heap.size) (by omega)
  go_wp2_with fail
  refine ((HR _).out).mono ?_
  rintro e w2 ⟨rfl, hx2⟩
  obtain ⟨hc2, hf2⟩ := hx2.cells
  have hz2 := hx2.size
  try simp at hz2
  have hs2_0 := sz4 (a := w.heap.size) (b := w2.heap.size) (by omega)
  have HE2 := Lib.hid (hE1.trans hx2)
  have hT2 := Lib.hid ((hx2.heap (Array.getElem?_eq_some_iff.1 hT1.out).1).trans hT1.out)
  have hR2 := Lib.hid ((hx2.heap (Array.getElem?_eq_some_iff.1 hR1.out).1).trans hR1.out)
  have hx12 := Lib.hid hx2
  clear hx1 hT1 hR1 hE1
  obtain ⟨b0, off0, rfl, hbk0, hcell0⟩ := HH.out h0
  have lb2 : b0 < w2.heap.size := by have := hx12.out.size; omega
  have y0 := (hc2 b0 (off0 + 0) hbk0).trans (hcell0 0 _ (at3_get (by have := HLEN.out; omega)))
  have y1 := (hc2 b0 (off0 + 1) hbk0).trans (hcell0 1 _ (at3_get (by have := HLEN.out; omega)))
  rw [Nat.add_zero] at y0
  have HC0 : Hid (∀ W, Ext w2 W → ∀ j, j < n → W.cell? ⟨b0, off0 + j * 2, none⟩ = some (.int .i64 (at3 xs (j * 2))) ∧ W.cell? ⟨b0, off0 + j * 2 + 1, none⟩ = some (.int .i64 (at3 xs (j * 2 + 1)))) := fun W hW j hj => by
    have hl := HLEN.out
    refine ⟨(hW.cells.1 _ _ lb2).trans ((hc2 _ _ hbk0).trans (hcell0 _ _ (at3_get (by omega)))), ?_⟩
    rw [Nat.add_assoc]
    exact (hW.cells.1 _ _ lb2).trans ((hc2 _ _ hbk0).trans (hcell0 _ _ (at3_get (by omega))))
  clear hcell0 hc1 hf1 hc2 hf2 hx2 HH
  have hsz2 : w.heap.size + 4 ≤ w2.heap.size := by omega
  clear hs1_0 hs2_0 hz1 hz2
  go_wp2
  clear y0 y1
  go_loopw [12, 37] (fun _ i wr => ∃ j : Nat, j ≤ n ∧ i = .int .i64 j ∧ Hid (wr.heap[w2.heap.size]? = some (.cells #[.int .i64 (npJ (ky p q) xs j).1, .int .i64 (npJ (ky p q) xs j).2] 34 (0, 0))) ∧ Ext w2 wr) (fun _ i _ => n - (intOf i).toNat)
  case atStart => exact ⟨0, by omega, rfl, heap_alloc_new _ _, (Ext.refl _).alloc _⟩
  case round =>
    obtain ⟨j, hj, rfl, HB, hE⟩ := hrel
    have HEr := Lib.hid hE
    have hT3 := (hE.heap (Array.getElem?_eq_some_iff.1 hT2.out).1).trans hT2.out
    have hR3 := (hE.heap (Array.getElem?_eq_some_iff.1 hR2.out).1).trans hR2.out
    have HR3 := Lib.hid hR3
    have lB := (Array.getElem?_eq_some_iff.1 HB.out).1
    have lT := (Array.getElem?_eq_some_iff.1 hT3).1
    have lR := (Array.getElem?_eq_some_iff.1 hR3).1
    have lT2 : w.heap.size + 1 < wr.heap.size := by omega
    have lR2 : w.heap.size + 1 + 1 < wr.heap.size := by omega
    have zB := fun k => cell_of_row _ _ k _ _ _ HB.out
    by_cases hlt : j < n
    · have hlt' : (j : Int) < n := by omega
      obtain ⟨y0, y1⟩ := HC0.out wr hE j hlt
      have lbr : b0 < wr.heap.size := by have := hE.size; omega
      have zT := fun k => cell_of_row _ _ k _ _ _ hT3
      have fB := fun k => frozen_of_row _ _ k _ _ HB.out
      have hbb := npJ_bd (K := ky p q) HPX.out h0 j hj
      have hxb := HPX.out.b j hlt
      have hjl := npJ_le (K := ky p q) HPX.out j hlt
      have HSJ : Hid (npJ (ky p q) xs (j + 1) = npS (ky p q) (npJ (ky p q) xs j) (at3 xs (j * 2), at3 xs (j * 2 + 1))) := rfl
      obtain ⟨b1, hb1⟩ : ∃ b1, (npJ (ky p q) xs j).1 = b1 := ⟨_, rfl⟩
      obtain ⟨b2, hb2⟩ : ∃ b2, (npJ (ky p q) xs j).2 = b2 := ⟨_, rfl⟩
      have hpr : npJ (ky p q) xs j = (b1, b2) := Prod.ext hb1 hb2
      rw [hpr] at HB hbb hjl HSJ zB
      simp only at HB hbb hjl zB
      clear hb1 hb2 hpr
      generalize at3 xs (j * 2) = x1 at *
      generalize at3 xs (j * 2 + 1) = x2 at *
      have HRBo := HRB.out
      have HST := Lib.hid (np_stepS (p := p) (q := q) HRB.out hbb hxb)
      have HSG := fun w => Lib.hid (l2Sign_any (2 * p - b1 - x1) (2 * q - b2 - x2) (Cf_mk (by omega)) (Cf_mk (by omega)) w)
      generalize S2 (2 * p - b1 - x1) (2 * q - b2 - x2) = s at *
      have hc : 0 < s ∨ ¬ 0 < s := Decidable.em _
      go_wp2_with fail
      refine (HSG _).out.mono ?_
      rintro e w' ⟨rfl, rfl⟩
      have hx3 := Ext.refl (wr.alloc (.cells #[.int .i64 x1, .int .i64 x2] 34 (0, 0)))
      have HX3 := Lib.hid ((HEr.out.alloc (.cells #[.int .i64 x1, .int .i64 x2] 34 (0, 0))).trans hx3)
      have hB3 := (hx3.heap (k := w2.heap.size) (by simp; omega)).trans (heap_alloc_lt HB.out)
      have HB3 := Lib.hid hB3
      have hX3 := (hx3.heap (k := wr.heap.size) (by simp)).trans (heap_alloc_new _ _)
      have zB3 := fun k => cell_of_row _ _ k _ _ _ hB3
      have fB3 := fun k => frozen_of_row _ _ k _ _ hB3
      have lB3 := (Array.getElem?_eq_some_iff.1 hB3).1
      have zX3 := fun k => cell_of_row _ _ k _ _ _ hX3
      have lX3 := (Array.getElem?_eq_some_iff.1 hX3).1
      clear hx3 hB3 hX3 zB fB zT y0 y1
      generalize (wr.alloc (.cells #[.int .i64 x1, .int .i64 x2] 34 (0, 0))) = w3 at *
      rcases hc with hc | hc
      · have hS := HST.out.1 hc
        have HSS : Hid (npJ (ky p q) xs (j + 1) = (x1, x2)) := HSJ.out.trans hS
        clear hS
        go_wp2
        go_roundw
        case rel =>
          refine ⟨j + 1, by omega, by go_num, ?_, ?_⟩
          · unfold Hid
            rw [HSS.out]
            exact heap_set2N HB3.out
          · have hX := HX3.out
            exact (by repeat (first | (with_reducible refine Ext.setCell ?_ (by first | (simp; done) | (simp; omega)) _) | with_reducible refine Ext.alloc ?_ _ | with_reducible refine Ext.drew ?_ | with_reducible refine Ext.drewN ?_ _ | with_reducible assumption | with_reducible exact Ext.refl _ | with_reducible refine Ext.trans ?_ (by with_reducible assumption)))
        case measure => simp [intOf]; omega
      · have hS := HST.out.2 hc
        have HSS : Hid (npJ (ky p q) xs (j + 1) = (b1, b2)) := HSJ.out.trans hS
        clear hS
        go_wp2
        go_roundw
        case rel =>
          refine ⟨j + 1, by omega, by go_num, ?_, HX3.out⟩
          unfold Hid
          rw [HSS.out]
          exact HB3.out
        case measure => simp [intOf]; omega
    · obtain rfl : j = n := by omega
      have zR := fun k => cell_of_row _ _ k _ _ _ hR3
      have fR := fun k => frozen_of_row _ _ k _ _ hR3
      clear hT3 hR3
      have hEE := HE2.out.trans hE
      generalize hb1 : (npJ (ky p q) xs j).1 = b1 at *
      generalize hb2 : (npJ (ky p q) xs j).2 = b2 at *
      have HB1 := Lib.hid hb1
      have HB2 := Lib.hid hb2
      clear hb1 hb2
      go_wp2
      refine bodyPost_ret (v := .tuple #[.agg #[.int .i64 b1, .int .i64 b2], .bool true]) (by simp [results, Try.results14, go_sem, *]) rfl ?_
      rw [HY.out, HY2.out, HB1.out, HB2.out]
      exact ⟨rfl, (by repeat (first | (with_reducible refine Ext.setCell ?_ (by first | (simp; done) | (simp; omega)) _) | with_reducible refine Ext.alloc ?_ _ | with_reducible refine Ext.drew ?_ | with_reducible refine Ext.drewN ?_ _ | with_reducible assumption | with_reducible exact Ext.refl _ | with_reducible refine Ext.trans ?_ (by with_reducible assumption)))⟩

end Go.Proofs.Ytojoljffaedpfaa
