/- The grid: the program's GridPoints. -/
import Derived.Test.YtojoljffaedpfaaGrdC
import Derived.Test.YtojoljffaedpfaaGrdP
import Derived.Test.YtojoljffaedpfaaGrdZ
namespace Go.Proofs.Ytojoljffaedpfaa
open Go.RowKit Go.Lib
set_option linter.unusedVariables false
set_option linter.unusedSimpArgs false

theorem badC_any (p q : Int) (w : World) :
    Calls Try.prog 39 #[.agg #[.int .i64 p, .int .i64 q]] w fun e w' => e = .returned (.bool (!(R2 p q))) ∧ Ext w w' := by
  go_enter Try.func39, Try.ntmps39
  go_wp2_with fail
  refine (isRoot2_any p q _).mono ?_
  rintro e w1 ⟨rfl, hx1⟩
  obtain ⟨hc1, hf1⟩ := hx1.cells
  have hz1 := hx1.size
  try simp at hz1
  have hs1_0 := sz1 (a := w.heap.size) (b := w1.heap.size) (by omega)
  go_wp2
  go_ret
  exact ⟨rfl, (by repeat (first | exact Ext.refl _ | assumption | refine Ext.alloc ?_ _ | refine Ext.drew ?_ | refine Ext.drewN ?_ _ | refine Ext.setCell ?_ (by first | omega | (dsimp only; omega) | (simp; done) | (simp; omega)) _ | refine Ext.trans ?_ (by assumption)))⟩

set_option maxHeartbeats 2000000 in
theorem badI_any {v : Value} {n : Nat} {xs : List Int} (hn : n ≤ 2000000) (w : World) (h : RV w 2 v n xs) :
    Calls Try.prog 69 #[v, .func (.func 39) #[] #[]] w fun e w' => (∃ r : Int, e = .returned (.int .i64 r) ∧ decide (0 ≤ r) = !(okTo xs n)) ∧ Ext w w' := by
  have HCl := fun p q w' => Lib.hid (badC_any p q w')
  obtain ⟨hl, a, cap, rfl, c1, c2, H⟩ := h
  have HH := Lib.hid H
  have HL := Lib.hid hl
  clear H hl
  go_enter Try.func69, Try.ntmps69
  go_wp2
  go_loopw [5, 8] (fun _ i wr => ∃ j : Nat, j ≤ n ∧ i = .int .i64 j ∧ Hid (okTo xs j = true) ∧ Ext w wr) (fun _ i _ => n - (intOf i).toNat)
  case atStart => exact ⟨0, by omega, rfl, rfl, (by repeat (first | exact Ext.refl _ | assumption | refine Ext.alloc ?_ _ | refine Ext.drew ?_ | refine Ext.drewN ?_ _ | refine Ext.setCell ?_ (by first | omega | (dsimp only; omega) | (simp; done) | (simp; omega)) _ | refine Ext.trans ?_ (by assumption)))⟩
  case round =>
    obtain ⟨j, hj, rfl, HO, hE⟩ := hrel
    by_cases hlt : j < n
    · have hlt' : (j : Int) < n := by omega
      have HS : Hid (okTo xs (j + 1) = (okTo xs j && R2 (at3 xs (j * 2)) (at3 xs (j * 2 + 1)))) := rfl
      have HF : Hid (R2 (at3 xs (j * 2)) (at3 xs (j * 2 + 1)) = false → okTo xs n = false) := fun h => allTo_false (f := fun j => R2 (at3 xs (j * 2)) (at3 xs (j * 2 + 1))) h hlt
      obtain ⟨b, off, rfl, hbk, hcell⟩ := HH.out (by omega)
      have hbr : b < wr.heap.size := by have := hE.size; omega
      have z0 : wr.cell? ⟨b, off + j * 2, none⟩ = some (.int .i64 (at3 xs (j * 2))) := (hE.cells.1 b (off + (j * 2)) hbk).trans (hcell _ _ (at3_get (by have := HL.out; omega)))
      have z1 : wr.cell? ⟨b, off + j * 2 + 1, none⟩ = some (.int .i64 (at3 xs (j * 2 + 1))) := (hE.cells.1 b (off + (j * 2 + 1)) hbk).trans (hcell _ _ (at3_get (by have := HL.out; omega)))
      clear hcell
      have HC := HCl (at3 xs (j * 2)) (at3 xs (j * 2 + 1))
      generalize at3 xs (j * 2) = k0 at *
      generalize at3 xs (j * 2 + 1) = k1 at *
      generalize hg : R2 k0 k1 = g at *
      clear hg
      cases g
      · go_wp2_with fail
        refine (HC _).out.mono ?_
        rintro e w2 ⟨rfl, hx2⟩
        obtain ⟨hc2, hf2⟩ := hx2.cells
        have hz2 := hx2.size
        try simp at hz2
        go_wp2
        go_ret
        exact ⟨⟨_, rfl, by rw [HF.out (by first | rfl | trivial)]; simp⟩, (by repeat (first | exact Ext.refl _ | assumption | refine Ext.alloc ?_ _ | refine Ext.drew ?_ | refine Ext.drewN ?_ _ | refine Ext.setCell ?_ (by first | omega | (dsimp only; omega) | (simp; done) | (simp; omega)) _ | refine Ext.trans ?_ (by assumption)))⟩
      · go_wp2_with fail
        refine (HC _).out.mono ?_
        rintro e w2 ⟨rfl, hx2⟩
        obtain ⟨hc2, hf2⟩ := hx2.cells
        have hz2 := hx2.size
        try simp at hz2
        go_wp2
        go_roundw
        case rel => exact ⟨j + 1, by omega, by go_num, by unfold Hid; rw [HS.out, HO.out]; rfl, (by repeat (first | exact Ext.refl _ | assumption | refine Ext.alloc ?_ _ | refine Ext.drew ?_ | refine Ext.drewN ?_ _ | refine Ext.setCell ?_ (by first | omega | (dsimp only; omega) | (simp; done) | (simp; omega)) _ | refine Ext.trans ?_ (by assumption)))⟩
        case measure => simp [intOf]; omega
    · obtain rfl : j = n := by omega
      go_wp2
      go_ret
      exact ⟨⟨_, rfl, by rw [HO.out]; rfl⟩, (by repeat (first | exact Ext.refl _ | assumption | refine Ext.alloc ?_ _ | refine Ext.drew ?_ | refine Ext.drewN ?_ _ | refine Ext.setCell ?_ (by first | omega | (dsimp only; omega) | (simp; done) | (simp; omega)) _ | refine Ext.trans ?_ (by assumption)))⟩

theorem badF_any {v : Value} {n : Nat} {xs : List Int} (hn : n ≤ 2000000) (w : World) (h : RV w 2 v n xs) :
    Calls Try.prog 38 #[v, .func (.func 39) #[] #[]] w fun e w' => e = .returned (.bool (!(okTo xs n))) ∧ Ext w w' := by
  have HI := Lib.hid (badI_any hn w h)
  obtain ⟨_, a, cap, rfl, _⟩ := h
  go_enter Try.func38, Try.ntmps38
  go_wp2_with fail
  refine HI.out.mono ?_
  rintro e w1 ⟨⟨r, rfl, hr⟩, hx1⟩
  have HR := Lib.hid hr
  clear hr
  go_wp2
  go_ret
  exact ⟨ret_bool HR.out, hx1⟩

/-- bounded numbers as what the sort takes -/
theorem bd2_of : ∀ {L : List (Int × Int)}, (∀ x ∈ L, Bnd x) → ∃ d : Array Bd2, vals d = L ∧ d.size = L.length
  | [], _ => ⟨#[], rfl, rfl⟩
  | x :: L, h => by
    obtain ⟨d, h1, h2⟩ := bd2_of (L := L) (fun y hy => h y (List.mem_cons_of_mem _ hy))
    have hx := h x (List.mem_cons_self ..)
    unfold Bnd at hx
    obtain ⟨y, hy⟩ : ∃ y : Bd2, y.1 = x := ⟨⟨x, by omega, by omega, by omega, by omega⟩, rfl⟩
    have h3 : List.map (fun x : Bd2 => x.1) d.toList = L := h1
    refine ⟨(y :: d.toList).toArray, ?_, ?_⟩
    · show List.map (fun x : Bd2 => x.1) (y :: d.toList) = _
      rw [List.map_cons, h3, hy]
    · show (y :: d.toList).length = _
      rw [List.length_cons, List.length_cons, Array.length_toList, h2]

set_option maxRecDepth 20000 in
set_option maxHeartbeats 4000000 in
theorem gridPoints_any (lo hi den lo' hi' den' : Int) (w : World) :
    Calls Try.prog 10 #[.agg #[.int .i64 lo, .int .i64 hi, .int .i64 den], .agg #[.int .i64 lo', .int .i64 hi', .int .i64 den']] w fun e w' => ∃ v, e = .returned (.tuple #[v, .bool (gpOk lo hi den lo' hi' den')]) ∧
      w'.ownsRow w.heap.size 34 2 v (gpV lo hi den lo' hi' den').length (IL (fl2 (gpV lo hi den lo' hi' den'))) ∧ Ext w w' := by
  have HNO : Hid (gpOk lo hi den lo' hi' den' = false → gpV lo hi den lo' hi' den' = []) := gpV_no
  cases g1 : Rng lo hi den
  · have HN : Hid (gpOk lo hi den lo' hi' den' = false) := by unfold Hid gpOk; rw [g1]; rfl
    have HN2 := Lib.hid (HNO.out HN.out)
    have HV := fun w => Lib.hid (isValidRange_any lo hi den w)
    rw [g1] at HV
    clear g1 HNO
    go_enter Try.func10, Try.ntmps10
    go_wp2_with fail
    refine ((HV _).out).mono ?_
    rintro e w1 ⟨rfl, hx1⟩
    obtain ⟨hc1, hf1⟩ := hx1.cells
    have hz1 := hx1.size
    try simp at hz1
    have hs1_0 := sz2 (a := w.heap.size) (b := w1.heap.size) (by omega)
    go_wp2
    go_ret2
    rw [HN.out, HN2.out]
    exact ⟨_, rfl, own_nil _ _ _ _, (by repeat (first | (with_reducible refine Ext.setCell ?_ (by first | (simp; done) | (simp; omega)) _) | with_reducible refine Ext.alloc ?_ _ | with_reducible refine Ext.drew ?_ | with_reducible refine Ext.drewN ?_ _ | with_reducible assumption | with_reducible exact Ext.refl _ | with_reducible refine Ext.trans ?_ (by with_reducible assumption)))⟩
  cases g2 : Rng lo' hi' den'
  · have HN : Hid (gpOk lo hi den lo' hi' den' = false) := by unfold Hid gpOk; rw [g1, g2]; rfl
    have HN2 := Lib.hid (HNO.out HN.out)
    have HV := fun w => Lib.hid (isValidRange_any lo hi den w)
    have HV' := fun w => Lib.hid (isValidRange_any lo' hi' den' w)
    rw [g1] at HV
    rw [g2] at HV'
    clear g1 g2 HNO
    go_enter Try.func10, Try.ntmps10
    go_wp2_with fail
    refine ((HV _).out).mono ?_
    rintro e w1 ⟨rfl, hx1⟩
    obtain ⟨hc1, hf1⟩ := hx1.cells
    have hz1 := hx1.size
    try simp at hz1
    have hs1_0 := sz2 (a := w.heap.size) (b := w1.heap.size) (by omega)
    go_wp2_with fail
    refine ((HV' _).out).mono ?_
    rintro e w2 ⟨rfl, hx2⟩
    obtain ⟨hc2, hf2⟩ := hx2.cells
    have hz2 := hx2.size
    try simp at hz2
    have hs2_0 := sz2 (a := w.heap.size) (b := w2.heap.size) (by omega)
    go_wp2
    go_ret2
    rw [HN.out, HN2.out]
    exact ⟨_, rfl, own_nil _ _ _ _, (by repeat (first | (with_reducible refine Ext.setCell ?_ (by first | (simp; done) | (simp; omega)) _) | with_reducible refine Ext.alloc ?_ _ | with_reducible refine Ext.drew ?_ | with_reducible refine Ext.drewN ?_ _ | with_reducible assumption | with_reducible exact Ext.refl _ | with_reducible refine Ext.trans ?_ (by with_reducible assumption)))⟩
  have hr : Rgs 1 lo hi den lo' hi' den' := by
    have b1 := Rng_bd g1
    have b2 := Rng_bd g2
    exact ⟨by decide, by decide, g1, g2, by omega, by omega, by omega, by omega⟩
  have HV := fun w => Lib.hid (isValidRange_any lo hi den w)
  have HV' := fun w => Lib.hid (isValidRange_any lo' hi' den' w)
  rw [g1] at HV
  rw [g2] at HV'
  have HP := fun w => Lib.hid (points_any hr w)
  have HG := fun {L : List (Int × Int)} (hn : L.Nodup) hm => Lib.hid (gpOk_by (lo := lo) (hi := hi) (den := den) (lo' := lo') (hi' := hi') (den' := den') hn hm g1 g2)
  clear g1 g2 hr
  go_enter Try.func10, Try.ntmps10
  go_wp2_with fail
  refine ((HV _).out).mono ?_
  rintro e w1 ⟨rfl, hx1⟩
  obtain ⟨hc1, hf1⟩ := hx1.cells
  have hz1 := hx1.size
  try simp at hz1
  have hs1_0 := sz2 (a := w.heap.size) (b := w1.heap.size) (by omega)
  go_wp2_with fail
  refine ((HV' _).out).mono ?_
  rintro e w2 ⟨rfl, hx2⟩
  obtain ⟨hc2, hf2⟩ := hx2.cells
  have hz2 := hx2.size
  try simp at hz2
  have hs2_0 := sz2 (a := w.heap.size) (b := w2.heap.size) (by omega)
  go_wp2_with fail
  refine (HP _).out.mono ?_
  rintro e w3 ⟨v, L, rfl, ⟨hv, ho⟩, ⟨p1, p2, p3⟩, hx3⟩
  have hE3 : Ext w w3 := (by repeat (first | (with_reducible refine Ext.setCell ?_ (by first | (simp; done) | (simp; omega)) _) | with_reducible refine Ext.alloc ?_ _ | with_reducible refine Ext.drew ?_ | with_reducible refine Ext.drewN ?_ _ | with_reducible assumption | with_reducible exact Ext.refl _ | with_reducible refine Ext.trans ?_ (by with_reducible assumption)))
  have HE3 := Lib.hid hE3
  have HGL := HG p1 p2
  have HRV := Lib.hid (RV.own ho (fl2_len L))
  have HOW := Lib.hid ho
  have HP1 := Lib.hid p1
  have HP2 := Lib.hid p2
  obtain ⟨a, c, rfl, hc1', hc2', hc3'⟩ := own_shape ho
  have HC3 := Lib.hid hc3'
  have HNV := Lib.hid hv
  have HALL := Lib.hid (okTo_all L)
  have hs2 : w.heap.size ≤ w2.heap.size := by omega
  clear hx1 hc1 hf1 hx2 hc2 hf2 hx3 hE3 ho p1 p2 HV HV' HP HG hc3' hv
  generalize hN : L.length = N at *
  have HNN := Lib.hid hN
  clear hN
  by_cases h1 : N ≤ 1000
  case neg =>
    have h1' : (1000 : Int) < N := by omega
    have HN : Hid (gpOk lo hi den lo' hi' den' = false) := HGL.out.trans (by rw [decide_eq_false h1]; rfl)
    have HN2 := Lib.hid (HNO.out HN.out)
    clear HNO
    go_wp2
    go_ret2
    rw [HN.out, HN2.out]
    exact ⟨_, rfl, own_nil _ _ _ _, HE3.out⟩
  have h1' : ¬ ((1000 : Int) < N) := by omega
  have HBF := Lib.hid (badF_any (by omega) w3 HRV.out)
  rw [HALL.out] at HBF
  cases h2 : L.all (fun x => R2 x.1 x.2)
  · rw [h2] at HBF
    have HN : Hid (gpOk lo hi den lo' hi' den' = false) := HGL.out.trans (by rw [h2]; simp)
    have HN2 := Lib.hid (HNO.out HN.out)
    clear HNO h2
    go_wp2_with fail
    refine HBF.out.mono ?_
    rintro e w4 ⟨rfl, hx4⟩
    go_wp2
    go_ret2
    rw [HN.out, HN2.out]
    exact ⟨_, rfl, own_nil _ _ _ _, HE3.out.trans hx4⟩
  rw [h2] at HBF
  have HY : Hid (gpOk lo hi den lo' hi' den' = true) := HGL.out.trans (by rw [h2]; simp; omega)
  have HY2 := Lib.hid (gpV_yes HY.out)
  clear h2 HNO HGL
  go_wp2_with fail
  refine HBF.out.mono ?_
  rintro e w4 ⟨rfl, hx4⟩
  obtain ⟨g, rfl⟩ : ∃ g, a = some ⟨g, 0, none⟩ := by
    rcases HOW.out.2 with ⟨h3, -⟩ | ⟨g, _, _, h3, _⟩
    · exact absurd h3 HNV.out
    · simp only [Value.slice.injEq] at h3
      exact ⟨g, h3.1⟩
  have hgb : w2.heap.size ≤ g := (HOW.out.lt g rfl).1
  obtain ⟨d, d1, d2⟩ := bd2_of (L := L) (fun x hx => sol1_bnd x ((HP2.out x).1 hx))
  rw [HNN.out] at d2
  have HSO := Lib.hid (sort2_any (g := g) (cap := c) d2 (by omega) (by rw [d1]; exact own_ext HOW.out hx4))
  have HD1 := Lib.hid d1
  have HE4 := Lib.hid (HE3.out.trans hx4)
  clear d1 d2 hx4
  go_wp2_with fail
  refine HSO.out.mono ?_
  rintro e w5 ⟨rfl, d', e1, e2, e3, e4, e5⟩
  have HE1 := Lib.hid e1
  have HE2 := Lib.hid e2
  have HE5 := Lib.hid e3
  have HE6 := Lib.hid e4
  have HE7 := Lib.hid (e5 w HE4.out (by omega))
  clear e1 e2 e3 e4 e5
  go_wp2
  go_ret2
  have hL : vals d' = gpL lo hi den lo' hi' den' := by
    refine gpL_by HP1.out HP2.out ?_ ?_
    · rw [← HD1.out]
      exact HE2.out.map _
    · unfold vals
      rw [List.pairwise_map]
      exact HE5.out.imp (fun h => by first | exact h | omega)
  rw [HY.out, HY2.out]
  have h6 := HE6.out
  rw [hL] at h6
  have h7 : (gpL lo hi den lo' hi' den').length = N := by rw [← hL, vals_len, HE1.out]
  rw [h7]
  exact ⟨_, rfl, own_base h6 hs2, HE7.out⟩

end Go.Proofs.Ytojoljffaedpfaa
