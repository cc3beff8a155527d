/- Valid replacements. -/
import Derived.Test.YtlbcjbeafampcaaGateK
import Derived.Test.YtlbcjbeafampcaaCopy
namespace Go.Proofs.Ytlbcjbeafampcaa
open Go.RowKit

def rOk (n t : Int) (xs : List Int) (m1 : Nat) (ys : List Int) (m2 : Nat) : Bool :=
  Wn n 1 5 && (Wn t 0 400 && (decide (m1 ≤ 40) && (decide (m2 ≤ 40) && (gAll n xs m1 && gAll n ys m2))))

set_option maxHeartbeats 1000000 in
theorem l30Gates_any (q mo : Int) (hq : 1 ≤ q ∧ q ≤ 5) {v : Value} {m : Nat} {xs : List Int} (hm : m ≤ 2000000) (w : World) (h : RV w 3 v m xs) :
    Calls Try.prog 88 #[.int .i64 q, v, .int .i64 mo] w fun e w' => e = .returned (.bool (gAll q xs m && decide ((m : Int) ≤ mo))) ∧ Ext w w' := by
  obtain ⟨hl, a, cap, rfl, c1, c2, H⟩ := h
  have HH := Lib.hid H
  have HL := Lib.hid hl
  clear H hl
  go_enter Try.func88, Try.ntmps88
  go_wp2
  go_loopw [8, 11] (fun _ i wr => ∃ j : Nat, j ≤ m ∧ i = .int .i64 j ∧ Ext w wr ∧ gAll q xs j = true) (fun _ i _ => m - (intOf i).toNat)
  case atStart => exact ⟨0, by omega, rfl, (by repeat (first | exact Ext.refl _ | assumption | refine Ext.alloc ?_ _ | refine Ext.drew ?_ | refine Ext.drewN ?_ _ | refine Ext.setCell ?_ (by first | omega | (dsimp only; omega) | (simp; done) | (simp; omega)) _ | refine Ext.trans ?_ (by assumption))), rfl⟩
  case round =>
    obtain ⟨j, hj, rfl, hE, hall⟩ := hrel
    have HA := Lib.hid hall
    clear hall
    by_cases hlt : j < m
    · have hlt' : (j : Int) < m := by omega
      have HS : Hid (gAll q xs (j + 1) = (gAll q xs j && gOk q (at3 xs (j * 3)) (at3 xs (j * 3 + 1)) (at3 xs (j * 3 + 2)))) := rfl
      have HF : Hid (gOk q (at3 xs (j * 3)) (at3 xs (j * 3 + 1)) (at3 xs (j * 3 + 2)) = false → gAll q xs m = false) := fun h => allTo_false (f := fun j => gOk q (at3 xs (j * 3)) (at3 xs (j * 3 + 1)) (at3 xs (j * 3 + 2))) h hlt
      obtain ⟨b, off, rfl, hbk, hcell⟩ := HH.out (by omega)
      have hbr : b < wr.heap.size := by have := hE.size; omega
      have z0 : wr.cell? ⟨b, off + j * 3, none⟩ = some (.int .i64 (at3 xs (j * 3))) := (hE.cells.1 b (off + (j * 3)) hbk).trans (hcell _ _ (at3_get (by have := HL.out; omega)))
      have z1 : wr.cell? ⟨b, off + j * 3 + 1, none⟩ = some (.int .i64 (at3 xs (j * 3 + 1))) := (hE.cells.1 b (off + (j * 3 + 1)) hbk).trans (hcell _ _ (at3_get (by have := HL.out; omega)))
      have z2 : wr.cell? ⟨b, off + j * 3 + 2, none⟩ = some (.int .i64 (at3 xs (j * 3 + 2))) := (hE.cells.1 b (off + (j * 3 + 2)) hbk).trans (hcell _ _ (at3_get (by have := HL.out; omega)))
      clear hcell
      generalize at3 xs (j * 3) = k0 at *
      generalize at3 xs (j * 3 + 1) = a0 at *
      generalize at3 xs (j * 3 + 2) = b0 at *
      have HC := fun w => Lib.hid (l4Gate_any q k0 a0 b0 hq w)
      cases hg : gOk q k0 a0 b0
      · rw [hg] at HC
        go_wp2_with fail
        refine ((HC _).out).mono ?_
        rintro e w1 ⟨rfl, hx1⟩
        obtain ⟨hc1, hf1⟩ := hx1.cells
        have hz1 := hx1.size
        try simp at hz1
        have hs1_0 := sz1 (a := wr.heap.size) (b := w1.heap.size) (by omega)
        go_wp2
        go_ret
        exact ⟨ret_bool (by rw [HF.out hg]; rfl), (by repeat (first | exact Ext.refl _ | assumption | refine Ext.alloc ?_ _ | refine Ext.drew ?_ | refine Ext.drewN ?_ _ | refine Ext.setCell ?_ (by first | omega | (dsimp only; omega) | (simp; done) | (simp; omega)) _ | refine Ext.trans ?_ (by assumption)))⟩
      · rw [hg] at HC
        go_wp2_with fail
        refine ((HC _).out).mono ?_
        rintro e w1 ⟨rfl, hx1⟩
        obtain ⟨hc1, hf1⟩ := hx1.cells
        have hz1 := hx1.size
        try simp at hz1
        have hs1_0 := sz1 (a := wr.heap.size) (b := w1.heap.size) (by omega)
        go_wp2
        go_roundw
        case rel => exact ⟨j + 1, by omega, by go_num, (by repeat (first | exact Ext.refl _ | assumption | refine Ext.alloc ?_ _ | refine Ext.drew ?_ | refine Ext.drewN ?_ _ | refine Ext.setCell ?_ (by first | omega | (dsimp only; omega) | (simp; done) | (simp; omega)) _ | refine Ext.trans ?_ (by assumption))), by rw [HS.out, HA.out, hg]; rfl⟩
        case measure => simp [intOf]; omega
    · obtain rfl : j = m := by omega
      by_cases hmo : (j : Int) ≤ mo
      all_goals
        go_wp2
        go_ret
        exact ⟨ret_bool (by rw [HA.out]; simp [hmo]), hE⟩

set_option maxHeartbeats 1000000 in
theorem l30Valid_any (q t : Int) {v1 v2 : Value} {m1 m2 : Nat} {xs ys : List Int} (hm1 : m1 ≤ 2000000) (hm2 : m2 ≤ 2000000) (w : World) (h1 : RV w 3 v1 m1 xs) (h2 : RV w 3 v2 m2 ys) :
    Calls Try.prog 77 #[.int .i64 q, .agg #[.int .i64 t, v1, v2]] w fun e w' => e = .returned (.bool (rOk q t xs m1 ys m2)) ∧ Ext w w' := by
  have H1 := fun hq w' (hx : Ext w w') => Lib.hid (l30Gates_any q 40 hq hm1 w' (h1.ext hx))
  have H2 := fun hq w' (hx : Ext w w') => Lib.hid (l30Gates_any q 40 hq hm2 w' (h2.ext hx))
  have HO : Hid (rOk q t xs m1 ys m2 = (Wn q 1 5 && (Wn t 0 400 && (decide (m1 ≤ 40) && (decide (m2 ≤ 40) && (gAll q xs m1 && gAll q ys m2)))))) := rfl
  have d1 : decide (m1 ≤ 40) = decide ((m1 : Int) ≤ 40) := by simp; omega
  have d2 : decide (m2 ≤ 40) = decide ((m2 : Int) ≤ 40) := by simp; omega
  rw [d1, d2] at HO
  clear d1 d2
  generalize rOk q t xs m1 ys m2 = ok at *
  generalize gAll q xs m1 = g1 at *
  generalize gAll q ys m2 = g2 at *
  generalize decide ((m1 : Int) ≤ 40) = k1 at *
  generalize decide ((m2 : Int) ≤ 40) = k2 at *
  obtain ⟨_, a, cap, rfl, c1, c2, H⟩ := h1
  clear H
  obtain ⟨_, a', cap', rfl, c3, c4, H⟩ := h2
  clear H
  cases hq : Wn q 1 5
  · go_enter Try.func77, Try.ntmps77
    go_wp2_with (go_at_call 62; ((with_reducible refine (l1In_any _ _ _ _).mono ?_); rintro e w' ⟨rfl, rfl⟩))
    go_ret
    exact ⟨ret_bool (by rw [HO.out, hq]; rfl), (by repeat (first | exact Ext.refl _ | assumption | refine Ext.alloc ?_ _ | refine Ext.drew ?_ | refine Ext.drewN ?_ _ | refine Ext.setCell ?_ (by first | omega | (dsimp only; omega) | (simp; done) | (simp; omega)) _ | refine Ext.trans ?_ (by assumption)))⟩
  have H3 := H1 (Wn_iff.1 hq)
  have H4 := H2 (Wn_iff.1 hq)
  clear H1 H2
  cases ht : Wn t 0 400
  · go_enter Try.func77, Try.ntmps77
    go_wp2_with (go_at_call 62; ((with_reducible refine (l1In_any _ _ _ _).mono ?_); rintro e w' ⟨rfl, rfl⟩))
    go_ret
    exact ⟨ret_bool (by rw [HO.out, hq, ht]; rfl), (by repeat (first | exact Ext.refl _ | assumption | refine Ext.alloc ?_ _ | refine Ext.drew ?_ | refine Ext.drewN ?_ _ | refine Ext.setCell ?_ (by first | omega | (dsimp only; omega) | (simp; done) | (simp; omega)) _ | refine Ext.trans ?_ (by assumption)))⟩
  cases h5 : (g1 && k1)
  · rw [h5] at H3
    go_enter Try.func77, Try.ntmps77
    go_wp2_with (go_at_call 62; ((with_reducible refine (l1In_any _ _ _ _).mono ?_); rintro e w' ⟨rfl, rfl⟩))
    refine (H3 _ (by repeat (first | exact Ext.refl _ | assumption | refine Ext.alloc ?_ _ | refine Ext.drew ?_ | refine Ext.drewN ?_ _ | refine Ext.setCell ?_ (by first | omega | (dsimp only; omega) | (simp; done) | (simp; omega)) _ | refine Ext.trans ?_ (by assumption)))).out.mono ?_
    rintro e w1 ⟨rfl, hx1⟩
    go_wp2
    go_ret
    exact ⟨ret_bool (by rw [HO.out, hq, ht]; cases g1 <;> cases k1 <;> simp_all), (by repeat (first | exact Ext.refl _ | assumption | refine Ext.alloc ?_ _ | refine Ext.drew ?_ | refine Ext.drewN ?_ _ | refine Ext.setCell ?_ (by first | omega | (dsimp only; omega) | (simp; done) | (simp; omega)) _ | refine Ext.trans ?_ (by assumption)))⟩
  · rw [h5] at H3
    go_enter Try.func77, Try.ntmps77
    go_wp2_with (go_at_call 62; ((with_reducible refine (l1In_any _ _ _ _).mono ?_); rintro e w' ⟨rfl, rfl⟩))
    refine (H3 _ (by repeat (first | exact Ext.refl _ | assumption | refine Ext.alloc ?_ _ | refine Ext.drew ?_ | refine Ext.drewN ?_ _ | refine Ext.setCell ?_ (by first | omega | (dsimp only; omega) | (simp; done) | (simp; omega)) _ | refine Ext.trans ?_ (by assumption)))).out.mono ?_
    rintro e w1 ⟨rfl, hx1⟩
    obtain ⟨hc1, hf1⟩ := hx1.cells
    have hz1 := hx1.size
    try simp at hz1
    have hs1_0 := sz1 (a := w.heap.size) (b := w1.heap.size) (by omega)
    go_wp2_with fail
    refine (H4 _ (by repeat (first | exact Ext.refl _ | assumption | refine Ext.alloc ?_ _ | refine Ext.drew ?_ | refine Ext.drewN ?_ _ | refine Ext.setCell ?_ (by first | omega | (dsimp only; omega) | (simp; done) | (simp; omega)) _ | refine Ext.trans ?_ (by assumption)))).out.mono ?_
    rintro e w2 ⟨rfl, hx2⟩
    go_wp2
    go_ret
    exact ⟨ret_bool (by rw [HO.out, hq, ht]; cases g1 <;> cases k1 <;> cases g2 <;> cases k2 <;> simp_all), (by repeat (first | exact Ext.refl _ | assumption | refine Ext.alloc ?_ _ | refine Ext.drew ?_ | refine Ext.drewN ?_ _ | refine Ext.setCell ?_ (by first | omega | (dsimp only; omega) | (simp; done) | (simp; omega)) _ | refine Ext.trans ?_ (by assumption)))⟩

set_option maxHeartbeats 1000000 in
theorem isValidReplacement_any (q t : Int) {v1 v2 : Value} {m1 m2 : Nat} {xs ys : List Int} (hm1 : m1 ≤ 2000000) (hm2 : m2 ≤ 2000000) (w : World) (h1 : RV w 3 v1 m1 xs) (h2 : RV w 3 v2 m2 ys) :
    Calls Try.prog 90 #[.int .i64 q, .agg #[.int .i64 t, v1, v2]] w fun e w' => e = .returned (.bool (rOk q t xs m1 ys m2)) ∧ Ext w w' := by
  have H1 := fun hq w' (hx : Ext w w') => Lib.hid (areGates_any q hq hm1 w' (h1.ext hx))
  have H2 := fun hq w' (hx : Ext w w') => Lib.hid (areGates_any q hq hm2 w' (h2.ext hx))
  have HO : Hid (rOk q t xs m1 ys m2 = (Wn q 1 5 && (Wn t 0 400 && (decide (m1 ≤ 40) && (decide (m2 ≤ 40) && (gAll q xs m1 && gAll q ys m2)))))) := rfl
  generalize rOk q t xs m1 ys m2 = ok at *
  generalize gAll q xs m1 = g1 at *
  generalize gAll q ys m2 = g2 at *
  obtain ⟨_, a, cap, rfl, c1, c2, H⟩ := h1
  clear H
  obtain ⟨_, a', cap', rfl, c3, c4, H⟩ := h2
  clear H
  cases hq : Wn q 1 5
  · go_enter Try.func90, Try.ntmps90
    go_wp2_with (go_at_call 67; ((with_reducible refine (within_any _ _ _ _).mono ?_); rintro e w' ⟨rfl, rfl⟩))
    go_ret
    exact ⟨ret_bool (by rw [HO.out, hq]; rfl), (by repeat (first | exact Ext.refl _ | assumption | refine Ext.alloc ?_ _ | refine Ext.drew ?_ | refine Ext.drewN ?_ _ | refine Ext.setCell ?_ (by first | omega | (dsimp only; omega) | (simp; done) | (simp; omega)) _ | refine Ext.trans ?_ (by assumption)))⟩
  have H3 := H1 hq
  have H4 := H2 hq
  clear H1 H2
  cases ht : Wn t 0 400
  · go_enter Try.func90, Try.ntmps90
    go_wp2_with (go_at_call 67; ((with_reducible refine (within_any _ _ _ _).mono ?_); rintro e w' ⟨rfl, rfl⟩))
    go_ret
    exact ⟨ret_bool (by rw [HO.out, hq, ht]; rfl), (by repeat (first | exact Ext.refl _ | assumption | refine Ext.alloc ?_ _ | refine Ext.drew ?_ | refine Ext.drewN ?_ _ | refine Ext.setCell ?_ (by first | omega | (dsimp only; omega) | (simp; done) | (simp; omega)) _ | refine Ext.trans ?_ (by assumption)))⟩
  by_cases k1 : m1 ≤ 40
  case neg =>
    have k1' : ¬ (m1 : Int) ≤ 40 := by omega
    go_enter Try.func90, Try.ntmps90
    go_wp2_with (go_at_call 67; ((with_reducible refine (within_any _ _ _ _).mono ?_); rintro e w' ⟨rfl, rfl⟩))
    go_ret
    exact ⟨ret_bool (by rw [HO.out, hq, ht]; simp [k1]), (by repeat (first | exact Ext.refl _ | assumption | refine Ext.alloc ?_ _ | refine Ext.drew ?_ | refine Ext.drewN ?_ _ | refine Ext.setCell ?_ (by first | omega | (dsimp only; omega) | (simp; done) | (simp; omega)) _ | refine Ext.trans ?_ (by assumption)))⟩
  have k1' : (m1 : Int) ≤ 40 := by omega
  by_cases k2 : m2 ≤ 40
  case neg =>
    have k2' : ¬ (m2 : Int) ≤ 40 := by omega
    go_enter Try.func90, Try.ntmps90
    go_wp2_with (go_at_call 67; ((with_reducible refine (within_any _ _ _ _).mono ?_); rintro e w' ⟨rfl, rfl⟩))
    go_ret
    exact ⟨ret_bool (by rw [HO.out, hq, ht]; simp [k1, k2]), (by repeat (first | exact Ext.refl _ | assumption | refine Ext.alloc ?_ _ | refine Ext.drew ?_ | refine Ext.drewN ?_ _ | refine Ext.setCell ?_ (by first | omega | (dsimp only; omega) | (simp; done) | (simp; omega)) _ | refine Ext.trans ?_ (by assumption)))⟩
  have k2' : (m2 : Int) ≤ 40 := by omega
  cases g1
  · go_enter Try.func90, Try.ntmps90
    go_wp2_with (go_at_call 67; ((with_reducible refine (within_any _ _ _ _).mono ?_); rintro e w' ⟨rfl, rfl⟩))
    refine (H3 _ (by repeat (first | exact Ext.refl _ | assumption | refine Ext.alloc ?_ _ | refine Ext.drew ?_ | refine Ext.drewN ?_ _ | refine Ext.setCell ?_ (by first | omega | (dsimp only; omega) | (simp; done) | (simp; omega)) _ | refine Ext.trans ?_ (by assumption)))).out.mono ?_
    rintro e w1 ⟨rfl, hx1⟩
    go_wp2
    go_ret
    exact ⟨ret_bool (by rw [HO.out, hq, ht]; simp), (by repeat (first | exact Ext.refl _ | assumption | refine Ext.alloc ?_ _ | refine Ext.drew ?_ | refine Ext.drewN ?_ _ | refine Ext.setCell ?_ (by first | omega | (dsimp only; omega) | (simp; done) | (simp; omega)) _ | refine Ext.trans ?_ (by assumption)))⟩
  · go_enter Try.func90, Try.ntmps90
    go_wp2_with (go_at_call 67; ((with_reducible refine (within_any _ _ _ _).mono ?_); rintro e w' ⟨rfl, rfl⟩))
    refine (H3 _ (by repeat (first | exact Ext.refl _ | assumption | refine Ext.alloc ?_ _ | refine Ext.drew ?_ | refine Ext.drewN ?_ _ | refine Ext.setCell ?_ (by first | omega | (dsimp only; omega) | (simp; done) | (simp; omega)) _ | refine Ext.trans ?_ (by assumption)))).out.mono ?_
    rintro e w1 ⟨rfl, hx1⟩
    obtain ⟨hc1, hf1⟩ := hx1.cells
    have hz1 := hx1.size
    try simp at hz1
    have hs1_0 := sz1 (a := w.heap.size) (b := w1.heap.size) (by omega)
    go_wp2_with fail
    refine (H4 _ (by repeat (first | exact Ext.refl _ | assumption | refine Ext.alloc ?_ _ | refine Ext.drew ?_ | refine Ext.drewN ?_ _ | refine Ext.setCell ?_ (by first | omega | (dsimp only; omega) | (simp; done) | (simp; omega)) _ | refine Ext.trans ?_ (by assumption)))).out.mono ?_
    rintro e w2 ⟨rfl, hx2⟩
    go_wp2
    go_ret
    exact ⟨ret_bool (by rw [HO.out, hq, ht]; simp [k1, k2]), (by repeat (first | exact Ext.refl _ | assumption | refine Ext.alloc ?_ _ | refine Ext.drew ?_ | refine Ext.drewN ?_ _ | refine Ext.setCell ?_ (by first | omega | (dsimp only; omega) | (simp; done) | (simp; omega)) _ | refine Ext.trans ?_ (by assumption)))⟩

end Go.Proofs.Ytlbcjbeafampcaa
