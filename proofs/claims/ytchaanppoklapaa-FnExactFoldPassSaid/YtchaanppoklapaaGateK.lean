/- Slices of gates: the reference's validity, counts, sizes, copies; the costs of a circuit. -/
import Derived.Test.YtchaanppoklapaaGateC
namespace Go.Proofs.Ytchaanppoklapaa
open Go.RowKit

set_option maxHeartbeats 1000000 in
theorem l4Good_any (q : Int) {v : Value} {m : Nat} {xs : List Int} (hm : m ≤ 2000000) (w : World) (h : RV w 3 v m xs) :
    Calls Try.prog 24 #[.agg #[.int .i64 q, v]] w fun e w' => e = .returned (.bool (cOk q xs m)) ∧ Ext w w' := by
  obtain ⟨hl, a, cap, rfl, c1, c2, H⟩ := h
  have HH := Lib.hid H
  have HL := Lib.hid hl
  have HO : Hid (cOk q xs m = (Wn q 1 5 && (decide (m ≤ 400) && gAll q xs m))) := rfl
  clear H hl
  generalize cOk q xs m = ok at *
  cases hq : Wn q 1 5
  · go_enter Try.func24, Try.ntmps24
    go_wp2_with (go_at_call 46; ((with_reducible refine (l1In_any _ _ _ _).mono ?_); rintro e w' ⟨rfl, rfl⟩))
    go_ret
    exact ⟨ret_bool (by rw [HO.out, hq]; rfl), (by repeat (first | exact Ext.refl _ | assumption | refine Ext.alloc ?_ _ | refine Ext.drew ?_ | refine Ext.drewN ?_ _ | refine Ext.setCell ?_ (by first | omega | (dsimp only; omega) | (simp; done) | (simp; omega)) _ | refine Ext.trans ?_ (by assumption)))⟩
  by_cases h4 : m ≤ 400
  case neg =>
    have h4' : ¬ (m : Int) ≤ 400 := by omega
    have h4'' : (m : Int) > 400 := by omega
    go_enter Try.func24, Try.ntmps24
    go_wp2_with (go_at_call 46; ((with_reducible refine (l1In_any _ _ _ _).mono ?_); rintro e w' ⟨rfl, rfl⟩))
    go_ret
    exact ⟨ret_bool (by rw [HO.out, hq]; simp [h4]), (by repeat (first | exact Ext.refl _ | assumption | refine Ext.alloc ?_ _ | refine Ext.drew ?_ | refine Ext.drewN ?_ _ | refine Ext.setCell ?_ (by first | omega | (dsimp only; omega) | (simp; done) | (simp; omega)) _ | refine Ext.trans ?_ (by assumption)))⟩
  have h4' : (m : Int) ≤ 400 := by omega
  have hq' := Wn_iff.1 hq
  go_enter Try.func24, Try.ntmps24
  go_wp2_with (go_at_call 46; ((with_reducible refine (l1In_any _ _ _ _).mono ?_); rintro e w' ⟨rfl, rfl⟩))
  go_loopw [4, 18] (fun _ i wr => ∃ j : Nat, j ≤ m ∧ i = .int .i64 j ∧ Ext w wr ∧ wr.cell? ⟨w.heap.size, 0, none⟩ = some (.int .i64 q) ∧ gAll q xs j = true) (fun _ i _ => m - (intOf i).toNat)
  case atStart => exact ⟨0, by omega, rfl, (by repeat (first | exact Ext.refl _ | assumption | refine Ext.alloc ?_ _ | refine Ext.drew ?_ | refine Ext.drewN ?_ _ | refine Ext.setCell ?_ (by first | omega | (dsimp only; omega) | (simp; done) | (simp; omega)) _ | refine Ext.trans ?_ (by assumption))), by simp, rfl⟩
  case round =>
    obtain ⟨j, hj, rfl, hE, hB, hall⟩ := hrel
    have HA := Lib.hid hall
    have hbB := lt_of_cell hB
    clear hall
    by_cases hlt : j < m
    · have hlt' : (j : Int) < m := by omega
      have HS : Hid (gAll q xs (j + 1) = (gAll q xs j && gOk q (at3 xs (j * 3)) (at3 xs (j * 3 + 1)) (at3 xs (j * 3 + 2)))) := rfl
      have HF : Hid (gOk q (at3 xs (j * 3)) (at3 xs (j * 3 + 1)) (at3 xs (j * 3 + 2)) = false → gAll q xs m = false) := fun h => allTo_false (f := fun j => gOk q (at3 xs (j * 3)) (at3 xs (j * 3 + 1)) (at3 xs (j * 3 + 2))) h hlt
      obtain ⟨b, off, rfl, hbk, hcell⟩ := HH.out (by omega)
      have hbr : b < wr.heap.size := by have := hE.size; omega
      have z0 : wr.cell? ⟨b, off + j * 3, none⟩ = some (.int .i64 (at3 xs (j * 3))) := (hE.cells.1 b (off + (j * 3)) hbk).trans (hcell _ _ (at3_get (by have := HL.out; omega)))
      have z1 : wr.cell? ⟨b, off + j * 3 + 1, none⟩ = some (.int .i64 (at3 xs (j * 3 + 1))) := (hE.cells.1 b (off + (j * 3 + 1)) hbk).trans (hcell _ _ (at3_get (by have := HL.out; omega)))
      have z2 : wr.cell? ⟨b, off + j * 3 + 2, none⟩ = some (.int .i64 (at3 xs (j * 3 + 2))) := (hE.cells.1 b (off + (j * 3 + 2)) hbk).trans (hcell _ _ (at3_get (by have := HL.out; omega)))
      clear hcell
      generalize at3 xs (j * 3) = k0 at *
      generalize at3 xs (j * 3 + 1) = a0 at *
      generalize at3 xs (j * 3 + 2) = b0 at *
      cases hg : gOk q k0 a0 b0
      · have HC := fun w => Lib.hid (l4Gate_any q k0 a0 b0 hq' w)
        rw [hg] at HC
        go_wp2_with fail
        refine ((HC _).out).mono ?_
        rintro e w1 ⟨rfl, hx1⟩
        obtain ⟨hc1, hf1⟩ := hx1.cells
        have hz1 := hx1.size
        try simp at hz1
        have hs1_0 := sz1 (a := wr.heap.size) (b := w1.heap.size) (by omega)
        go_wp2
        go_ret
        exact ⟨ret_bool (by rw [HO.out, HF.out hg]; simp), (by repeat (first | exact Ext.refl _ | assumption | refine Ext.alloc ?_ _ | refine Ext.drew ?_ | refine Ext.drewN ?_ _ | refine Ext.setCell ?_ (by first | omega | (dsimp only; omega) | (simp; done) | (simp; omega)) _ | refine Ext.trans ?_ (by assumption)))⟩
      · have HC := fun w => Lib.hid (l4Gate_any q k0 a0 b0 hq' w)
        rw [hg] at HC
        go_wp2_with fail
        refine ((HC _).out).mono ?_
        rintro e w1 ⟨rfl, hx1⟩
        obtain ⟨hc1, hf1⟩ := hx1.cells
        have hz1 := hx1.size
        try simp at hz1
        have hs1_0 := sz1 (a := wr.heap.size) (b := w1.heap.size) (by omega)
        go_wp2
        go_roundw
        case rel => exact ⟨j + 1, by omega, by go_num, (by repeat (first | exact Ext.refl _ | assumption | refine Ext.alloc ?_ _ | refine Ext.drew ?_ | refine Ext.drewN ?_ _ | refine Ext.setCell ?_ (by first | omega | (dsimp only; omega) | (simp; done) | (simp; omega)) _ | refine Ext.trans ?_ (by assumption))), ((((Ext.refl wr).alloc _).trans hx1).cells.1 _ 0 hbB).trans hB, by rw [HS.out, HA.out, hg]; rfl⟩
        case measure => simp [intOf]; omega
    · obtain rfl : j = m := by omega
      go_wp2
      go_ret
      exact ⟨ret_bool (by rw [HO.out, hq, HA.out]; simp [h4]), hE⟩

end Go.Proofs.Ytchaanppoklapaa
