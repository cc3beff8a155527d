/- The grid: the reference's GridPoints. -/
import Derived.Test.YtojoljffaedpfaaGrdV
namespace Go.Proofs.Ytojoljffaedpfaa
open Go.RowKit Go.Lib
set_option linter.unusedVariables false
set_option linter.unusedSimpArgs false

set_option maxRecDepth 20000 in
set_option maxHeartbeats 4000000 in
theorem s_gridPoints_any (lo hi den lo' hi' den' : Int) (w : World) :
    Calls Try.prog 8 #[.agg #[.int .i64 lo, .int .i64 hi, .int .i64 den], .agg #[.int .i64 lo', .int .i64 hi', .int .i64 den']] w fun e w' => ∃ v, e = .returned (.tuple #[v, .bool (gpOk lo hi den lo' hi' den')]) ∧
      w'.ownsRow w.heap.size 34 2 v (gpV lo hi den lo' hi' den').length (IL (fl2 (gpV lo hi den lo' hi' den'))) ∧ Ext w w' := by
  have HNO : Hid (gpOk lo hi den lo' hi' den' = false → gpV lo hi den lo' hi' den' = []) := gpV_no
  cases g1 : Rng lo hi den
  · have HN : Hid (gpOk lo hi den lo' hi' den' = false) := by unfold Hid gpOk; rw [g1]; rfl
    have HN2 := Lib.hid (HNO.out HN.out)
    have HV := fun w => Lib.hid (l25Valid_any lo hi den w)
    rw [g1] at HV
    clear g1 HNO
    go_enter Try.func8, Try.ntmps8
    go_wp2_with fail
    refine ((HV _).out).mono ?_
    rintro e w1 ⟨rfl, hx1⟩
    obtain ⟨hc1, hf1⟩ := hx1.cells
    have hz1 := hx1.size
    try simp at hz1
    have hs1_0 := sz2 (a := w.heap.size) (b := w1.heap.size) (by omega)
    go_wp2
    go_ret2
    rw [HN.out, HN2.out]
    exact ⟨_, rfl, own_nil _ _ _ _, (by repeat (first | (with_reducible refine Ext.setCell ?_ (by first | (simp; done) | (simp; omega)) _) | with_reducible refine Ext.alloc ?_ _ | with_reducible refine Ext.drew ?_ | with_reducible refine Ext.drewN ?_ _ | with_reducible assumption | with_reducible exact Ext.refl _ | with_reducible refine Ext.trans ?_ (by with_reducible assumption)))⟩
  cases g2 : Rng lo' hi' den'
  · have HN : Hid (gpOk lo hi den lo' hi' den' = false) := by unfold Hid gpOk; rw [g1, g2]; rfl
    have HN2 := Lib.hid (HNO.out HN.out)
    have HV := fun w => Lib.hid (l25Valid_any lo hi den w)
    have HV' := fun w => Lib.hid (l25Valid_any lo' hi' den' w)
    rw [g1] at HV
    rw [g2] at HV'
    clear g1 g2 HNO
    go_enter Try.func8, Try.ntmps8
    go_wp2_with fail
    refine ((HV _).out).mono ?_
    rintro e w1 ⟨rfl, hx1⟩
    obtain ⟨hc1, hf1⟩ := hx1.cells
    have hz1 := hx1.size
    try simp at hz1
    have hs1_0 := sz2 (a := w.heap.size) (b := w1.heap.size) (by omega)
    go_wp2_with fail
    refine ((HV' _).out).mono ?_
    rintro e w2 ⟨rfl, hx2⟩
    obtain ⟨hc2, hf2⟩ := hx2.cells
    have hz2 := hx2.size
    try simp at hz2
    have hs2_0 := sz2 (a := w.heap.size) (b := w2.heap.size) (by omega)
    go_wp2
    go_ret2
    rw [HN.out, HN2.out]
    exact ⟨_, rfl, own_nil _ _ _ _, (by repeat (first | (with_reducible refine Ext.setCell ?_ (by first | (simp; done) | (simp; omega)) _) | with_reducible refine Ext.alloc ?_ _ | with_reducible refine Ext.drew ?_ | with_reducible refine Ext.drewN ?_ _ | with_reducible assumption | with_reducible exact Ext.refl _ | with_reducible refine Ext.trans ?_ (by with_reducible assumption)))⟩
  have HV := fun w => Lib.hid (l25Valid_any lo hi den w)
  have HV' := fun w => Lib.hid (l25Valid_any lo' hi' den' w)
  have HP := fun w => Lib.hid (l25Points_any g1 g2 w)
  have HGL : Hid (gpOk lo hi den lo' hi' den' = (decide ((gpL lo hi den lo' hi' den').length ≤ 1000) && (gpL lo hi den lo' hi' den').all (fun x => R2 x.1 x.2))) := by unfold Hid gpOk; rw [g1, g2]; rfl
  have HYV : Hid (gpOk lo hi den lo' hi' den' = true → gpV lo hi den lo' hi' den' = gpL lo hi den lo' hi' den') := gpV_yes
  have HALL := Lib.hid (okTo_all (gpL lo hi den lo' hi' den'))
  have HLEN := Lib.hid (fl2_len (gpL lo hi den lo' hi' den'))
  rw [g1] at HV
  rw [g2] at HV'
  clear g1 g2
  generalize gpL lo hi den lo' hi' den' = L at *
  have HG := fun p q w => Lib.hid (l25Good_any p q w)
  go_enter Try.func8, Try.ntmps8
  go_wp2_with fail
  refine ((HV _).out).mono ?_
  rintro e w1 ⟨rfl, hx1⟩
  obtain ⟨hc1, hf1⟩ := hx1.cells
  have hz1 := hx1.size
  try simp at hz1
  have hs1_0 := sz2 (a := w.heap.size) (b := w1.heap.size) (by omega)
  go_wp2_with fail
  refine ((HV' _).out).mono ?_
  rintro e w2 ⟨rfl, hx2⟩
  obtain ⟨hc2, hf2⟩ := hx2.cells
  have hz2 := hx2.size
  try simp at hz2
  have hs2_0 := sz2 (a := w.heap.size) (b := w2.heap.size) (by omega)
  go_wp2_with fail
  refine (HP _).out.mono ?_
  rintro e w3 ⟨v, rfl, ho, hn, hx3⟩
  have hE3 : Ext w w3 := (by repeat (first | (with_reducible refine Ext.setCell ?_ (by first | (simp; done) | (simp; omega)) _) | with_reducible refine Ext.alloc ?_ _ | with_reducible refine Ext.drew ?_ | with_reducible refine Ext.drewN ?_ _ | with_reducible assumption | with_reducible exact Ext.refl _ | with_reducible refine Ext.trans ?_ (by with_reducible assumption)))
  have HE3 := Lib.hid hE3
  have HRV := RV.own ho (fl2_len L)
  have HOW := Lib.hid ho
  obtain ⟨_, a, c, rfl, hc1', hc2', HHo⟩ := HRV
  have HH := Lib.hid HHo
  have hs2 : w.heap.size ≤ w2.heap.size := by omega
  clear hx1 hc1 hf1 hx2 hc2 hf2 hx3 hE3 ho HV HV' HP HHo
  have HL := HLEN
  generalize hN : L.length = n at *
  have HNN := Lib.hid hN
  clear hN
  generalize hxs : fl2 L = xs at *
  have HXS := Lib.hid hxs
  clear hxs
  go_wp2
  go_loopw [8, 22] (fun _ i wr => ∃ j : Nat, j ≤ n ∧ i = .int .i64 j ∧ Hid (okTo xs j = true) ∧ Ext w3 wr) (fun _ i _ => n - (intOf i).toNat)
  case atStart => exact ⟨0, by omega, rfl, rfl, Ext.refl _⟩
  case round =>
    obtain ⟨j, hj, rfl, HO, hE⟩ := hrel
    by_cases hlt : j < n
    · have hlt' : (j : Int) < n := by omega
      have HS : Hid (okTo xs (j + 1) = (okTo xs j && R2 (at3 xs (j * 2)) (at3 xs (j * 2 + 1)))) := rfl
      have HF : Hid (R2 (at3 xs (j * 2)) (at3 xs (j * 2 + 1)) = false → okTo xs n = false) := fun h => allTo_false (f := fun j => R2 (at3 xs (j * 2)) (at3 xs (j * 2 + 1))) h hlt
      obtain ⟨b, off, rfl, hbk, hcell⟩ := HH.out (by omega)
      have hbr : b < wr.heap.size := by have := hE.size; omega
      have z0 : wr.cell? ⟨b, off + j * 2, none⟩ = some (.int .i64 (at3 xs (j * 2))) := (hE.cells.1 b (off + (j * 2)) hbk).trans (hcell _ _ (at3_get (by have := HL.out; omega)))
      have z1 : wr.cell? ⟨b, off + j * 2 + 1, none⟩ = some (.int .i64 (at3 xs (j * 2 + 1))) := (hE.cells.1 b (off + (j * 2 + 1)) hbk).trans (hcell _ _ (at3_get (by have := HL.out; omega)))
      clear hcell
      have HC := HG (at3 xs (j * 2)) (at3 xs (j * 2 + 1))
      generalize at3 xs (j * 2) = k0 at *
      generalize at3 xs (j * 2 + 1) = k1 at *
      generalize hg : R2 k0 k1 = g at *
      clear hg
      cases g
      · have HN : Hid (gpOk lo hi den lo' hi' den' = false) := HGL.out.trans (by rw [← HALL.out, HF.out (by first | rfl | trivial)]; simp)
        have HN2 := Lib.hid (HNO.out HN.out)
        go_wp2_with fail
        refine (HC _).out.mono ?_
        rintro e w4 ⟨rfl, hx4⟩
        obtain ⟨hc4, hf4⟩ := hx4.cells
        have hz4 := hx4.size
        try simp at hz4
        go_wp2
        go_ret2
        rw [HN.out, HN2.out]
        exact ⟨_, rfl, own_nil _ _ _ _, HE3.out.trans ((hE.alloc _).trans hx4)⟩
      · go_wp2_with fail
        refine (HC _).out.mono ?_
        rintro e w4 ⟨rfl, hx4⟩
        obtain ⟨hc4, hf4⟩ := hx4.cells
        have hz4 := hx4.size
        try simp at hz4
        go_wp2
        go_roundw
        case rel => exact ⟨j + 1, by omega, by go_num, by unfold Hid; rw [HS.out, HO.out]; rfl, (hE.alloc _).trans hx4⟩
        case measure => simp [intOf]; omega
    · obtain rfl : j = n := by omega
      have HA : Hid (L.all (fun x => R2 x.1 x.2) = true) := HALL.out.symm.trans HO.out
      by_cases h1 : j ≤ 1000
      · have h1' : ¬ ((1000 : Int) < j) := by omega
        have HY : Hid (gpOk lo hi den lo' hi' den' = true) := HGL.out.trans (by rw [HA.out]; simp; omega)
        have HY2 := Lib.hid (HYV.out HY.out)
        go_wp2
        go_ret2
        rw [HY.out, HY2.out, HNN.out, HXS.out]
        exact ⟨_, rfl, own_base (own_ext HOW.out hE) hs2, HE3.out.trans hE⟩
      · have h1' : (1000 : Int) < j := by omega
        have HN : Hid (gpOk lo hi den lo' hi' den' = false) := HGL.out.trans (by rw [decide_eq_false h1]; rfl)
        have HN2 := Lib.hid (HNO.out HN.out)
        go_wp2
        go_ret2
        rw [HN.out, HN2.out]
        exact ⟨_, rfl, own_nil _ _ _ _, HE3.out.trans hE⟩

end Go.Proofs.Ytojoljffaedpfaa
