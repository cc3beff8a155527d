/- Slices of gates: the reference's validity, counts, sizes, copies; the costs of a circuit. -/
import Derived.Test.YtgefamclfjoogaaDoorGateC
namespace Go.Proofs.YtgefamclfjoogaaDoor
open Go.RowKit

set_option maxHeartbeats 1000000 in
theorem l4Good_any (q : Int) {v : Value} {m : Nat} {xs : List Int} (hm : m ≤ 2000000) (w : World) (h : RV w 3 v m xs) :
    Calls Tryd.prog 12 #[.agg #[.int .i64 q, v]] w fun e w' => e = .returned (.bool (cOk q xs m)) ∧ Ext w w' := by
  obtain ⟨hl, a, cap, rfl, c1, c2, H⟩ := h
  have HH := Lib.hid H
  have HL := Lib.hid hl
  have HO : Hid (cOk q xs m = (Wn q 1 5 && (decide (m ≤ 400) && gAll q xs m))) := rfl
  clear H hl
  generalize cOk q xs m = ok at *
  cases hq : Wn q 1 5
  · go_enter Tryd.func12, Tryd.ntmps12
    go_wp2_with (go_at_call 31; ((with_reducible refine (l1In_any _ _ _ _).mono ?_); rintro e w' ⟨rfl, rfl⟩))
    go_ret
    exact ⟨ret_bool (by rw [HO.out, hq]; rfl), (by repeat (first | exact Ext.refl _ | assumption | refine Ext.alloc ?_ _ | refine Ext.drew ?_ | refine Ext.drewN ?_ _ | refine Ext.setCell ?_ (by first | omega | (dsimp only; omega) | (simp; done) | (simp; omega)) _ | refine Ext.trans ?_ (by assumption)))⟩
  by_cases h4 : m ≤ 400
  case neg =>
    have h4' : ¬ (m : Int) ≤ 400 := by omega
    have h4'' : (m : Int) > 400 := by omega
    go_enter Tryd.func12, Tryd.ntmps12
    go_wp2_with (go_at_call 31; ((with_reducible refine (l1In_any _ _ _ _).mono ?_); rintro e w' ⟨rfl, rfl⟩))
    go_ret
    exact ⟨ret_bool (by rw [HO.out, hq]; simp [h4]), (by repeat (first | exact Ext.refl _ | assumption | refine Ext.alloc ?_ _ | refine Ext.drew ?_ | refine Ext.drewN ?_ _ | refine Ext.setCell ?_ (by first | omega | (dsimp only; omega) | (simp; done) | (simp; omega)) _ | refine Ext.trans ?_ (by assumption)))⟩
  have h4' : (m : Int) ≤ 400 := by omega
  have hq' := Wn_iff.1 hq
  go_enter Tryd.func12, Tryd.ntmps12
  go_wp2_with (go_at_call 31; ((with_reducible refine (l1In_any _ _ _ _).mono ?_); rintro e w' ⟨rfl, rfl⟩))
  go_loopw [4, 18] (fun _ i wr => ∃ j : Nat, j ≤ m ∧ i = .int .i64 j ∧ Ext w wr ∧ wr.cell? ⟨w.heap.size, 0, none⟩ = some (.int .i64 q) ∧ gAll q xs j = true) (fun _ i _ => m - (intOf i).toNat)
  case atStart => exact ⟨0, by omega, rfl, (by repeat (first | exact Ext.refl _ | assumption | refine Ext.alloc ?_ _ | refine Ext.drew ?_ | refine Ext.drewN ?_ _ | refine Ext.setCell ?_ (by first | omega | (dsimp only; omega) | (simp; done) | (simp; omega)) _ | refine Ext.trans ?_ (by assumption))), by simp, rfl⟩
  case round =>
    obtain ⟨j, hj, rfl, hE, hB, hall⟩ := hrel
    have HA := Lib.hid hall
    have hbB := lt_of_cell hB
    clear hall
    by_cases hlt : j < m
    · have hlt' : (j : Int) < m := by omega
      have HS : Hid (gAll q xs (j + 1) = (gAll q xs j && gOk q (at3 xs (j * 3)) (at3 xs (j * 3 + 1)) (at3 xs (j * 3 + 2)))) := rfl
      have HF : Hid (gOk q (at3 xs (j * 3)) (at3 xs (j * 3 + 1)) (at3 xs (j * 3 + 2)) = false → gAll q xs m = false) := fun h => allTo_false (f := fun j => gOk q (at3 xs (j * 3)) (at3 xs (j * 3 + 1)) (at3 xs (j * 3 + 2))) h hlt
      obtain ⟨b, off, rfl, hbk, hcell⟩ := HH.out (by omega)
      have hbr : b < wr.heap.size := by have := hE.size; omega
      have z0 : wr.cell? ⟨b, off + j * 3, none⟩ = some (.int .i64 (at3 xs (j * 3))) := (hE.cells.1 b (off + (j * 3)) hbk).trans (hcell _ _ (at3_get (by have := HL.out; omega)))
      have z1 : wr.cell? ⟨b, off + j * 3 + 1, none⟩ = some (.int .i64 (at3 xs (j * 3 + 1))) := (hE.cells.1 b (off + (j * 3 + 1)) hbk).trans (hcell _ _ (at3_get (by have := HL.out; omega)))
      have z2 : wr.cell? ⟨b, off + j * 3 + 2, none⟩ = some (.int .i64 (at3 xs (j * 3 + 2))) := (hE.cells.1 b (off + (j * 3 + 2)) hbk).trans (hcell _ _ (at3_get (by have := HL.out; omega)))
      clear hcell
      generalize at3 xs (j * 3) = k0 at *
      generalize at3 xs (j * 3 + 1) = a0 at *
      generalize at3 xs (j * 3 + 2) = b0 at *
      cases hg : gOk q k0 a0 b0
      · have HC := fun w => Lib.hid (l4Gate_any q k0 a0 b0 hq' w)
        rw [hg] at HC
        go_wp2_with fail
        refine ((HC _).out).mono ?_
        rintro e w1 ⟨rfl, hx1⟩
        obtain ⟨hc1, hf1⟩ := hx1.cells
        have hz1 := hx1.size
        try simp at hz1
        have hs1_0 := sz1 (a := wr.heap.size) (b := w1.heap.size) (by omega)
        go_wp2
        go_ret
        exact ⟨ret_bool (by rw [HO.out, HF.out hg]; simp), (by repeat (first | exact Ext.refl _ | assumption | refine Ext.alloc ?_ _ | refine Ext.drew ?_ | refine Ext.drewN ?_ _ | refine Ext.setCell ?_ (by first | omega | (dsimp only; omega) | (simp; done) | (simp; omega)) _ | refine Ext.trans ?_ (by assumption)))⟩
      · have HC := fun w => Lib.hid (l4Gate_any q k0 a0 b0 hq' w)
        rw [hg] at HC
        go_wp2_with fail
        refine ((HC _).out).mono ?_
        rintro e w1 ⟨rfl, hx1⟩
        obtain ⟨hc1, hf1⟩ := hx1.cells
        have hz1 := hx1.size
        try simp at hz1
        have hs1_0 := sz1 (a := wr.heap.size) (b := w1.heap.size) (by omega)
        go_wp2
        go_roundw
        case rel => exact ⟨j + 1, by omega, by go_num, (by repeat (first | exact Ext.refl _ | assumption | refine Ext.alloc ?_ _ | refine Ext.drew ?_ | refine Ext.drewN ?_ _ | refine Ext.setCell ?_ (by first | omega | (dsimp only; omega) | (simp; done) | (simp; omega)) _ | refine Ext.trans ?_ (by assumption))), ((((Ext.refl wr).alloc _).trans hx1).cells.1 _ 0 hbB).trans hB, by rw [HS.out, HA.out, hg]; rfl⟩
        case measure => simp [intOf]; omega
    · obtain rfl : j = m := by omega
      go_wp2
      go_ret
      exact ⟨ret_bool (by rw [HO.out, hq, HA.out]; simp [h4]), hE⟩

set_option maxHeartbeats 1000000 in
theorem l4Count_any (q lo hi : Int) {v : Value} {m : Nat} {xs : List Int} (hm : m ≤ 2000000) (w : World) (h : RV w 3 v m xs) :
    Calls Tryd.prog 33 #[.agg #[.int .i64 q, v], .int .i64 lo, .int .i64 hi] w fun e w' => e = .returned (.int .i64 (cntTo (kAny lo hi xs) m)) ∧ Ext w w' := by
  obtain ⟨hl, a, cap, rfl, c1, c2, H⟩ := h
  have HH := Lib.hid H
  have HL := Lib.hid hl
  clear H hl
  go_enter Tryd.func33, Tryd.ntmps33
  go_wp2
  go_loopw [7, 9, 13] (fun n _ i wr => ∃ j : Nat, j ≤ m ∧ i = .int .i64 j ∧ Ext w wr ∧ n = .int .i64 (cntTo (kAny lo hi xs) j)) (fun _ _ i _ => m - (intOf i).toNat)
  case atStart => exact ⟨0, by omega, rfl, (by repeat (first | exact Ext.refl _ | assumption | refine Ext.alloc ?_ _ | refine Ext.drew ?_ | refine Ext.drewN ?_ _ | refine Ext.setCell ?_ (by first | omega | (dsimp only; omega) | (simp; done) | (simp; omega)) _ | refine Ext.trans ?_ (by assumption))), rfl⟩
  case round =>
    obtain ⟨j, hj, rfl, hE, rfl⟩ := hrel
    by_cases hlt : j < m
    · have hlt' : (j : Int) < m := by omega
      have HS : Hid (cntTo (kAny lo hi xs) (j + 1) = cntTo (kAny lo hi xs) j + (if Wn (at3 xs (j * 3)) lo hi then 1 else 0)) := rfl
      have hcb := cntTo_bd (kAny lo hi xs) j
      obtain ⟨b, off, rfl, hbk, hcell⟩ := HH.out (by omega)
      have hbr : b < wr.heap.size := by have := hE.size; omega
      have z0 : wr.cell? ⟨b, off + j * 3, none⟩ = some (.int .i64 (at3 xs (j * 3))) := (hE.cells.1 b (off + (j * 3)) hbk).trans (hcell _ _ (at3_get (by have := HL.out; omega)))
      have z1 : wr.cell? ⟨b, off + j * 3 + 1, none⟩ = some (.int .i64 (at3 xs (j * 3 + 1))) := (hE.cells.1 b (off + (j * 3 + 1)) hbk).trans (hcell _ _ (at3_get (by have := HL.out; omega)))
      have z2 : wr.cell? ⟨b, off + j * 3 + 2, none⟩ = some (.int .i64 (at3 xs (j * 3 + 2))) := (hE.cells.1 b (off + (j * 3 + 2)) hbk).trans (hcell _ _ (at3_get (by have := HL.out; omega)))
      clear hcell
      generalize at3 xs (j * 3) = k0 at *
      generalize at3 xs (j * 3 + 1) = a0 at *
      generalize at3 xs (j * 3 + 2) = b0 at *
      generalize cntTo (kAny lo hi xs) j = c0 at *
      cases hg : Wn k0 lo hi
      all_goals
        go_wp2_with (go_at_call 31; ((with_reducible refine (l1In_any _ _ _ _).mono ?_); rintro e w' ⟨rfl, rfl⟩))
        go_roundw
        case rel => exact ⟨j + 1, by omega, by go_num, (by repeat (first | exact Ext.refl _ | assumption | refine Ext.alloc ?_ _ | refine Ext.drew ?_ | refine Ext.drewN ?_ _ | refine Ext.setCell ?_ (by first | omega | (dsimp only; omega) | (simp; done) | (simp; omega)) _ | refine Ext.trans ?_ (by assumption))), by rw [HS.out, hg]; simp⟩
        case measure => simp [intOf]; omega
    · obtain rfl : j = m := by omega
      go_wp2
      go_ret
      exact ⟨rfl, hE⟩

set_option maxHeartbeats 1000000 in
theorem tCount_any {v : Value} {m : Nat} {xs : List Int} (hm : m ≤ 2000000) (w : World) (h : RV w 3 v m xs) :
    Calls Tryd.prog 40 #[v] w fun e w' => e = .returned (.int .i64 (cntTo (kAny 7 8 xs) m)) ∧ Ext w w' := by
  obtain ⟨hl, a, cap, rfl, c1, c2, H⟩ := h
  have HH := Lib.hid H
  have HL := Lib.hid hl
  clear H hl
  go_enter Tryd.func40, Tryd.ntmps40
  go_wp2
  go_loopw [3, 5, 8] (fun n _ i wr => ∃ j : Nat, j ≤ m ∧ i = .int .i64 j ∧ Ext w wr ∧ n = .int .i64 (cntTo (kAny 7 8 xs) j)) (fun _ _ i _ => m - (intOf i).toNat)
  case atStart => exact ⟨0, by omega, rfl, (by repeat (first | exact Ext.refl _ | assumption | refine Ext.alloc ?_ _ | refine Ext.drew ?_ | refine Ext.drewN ?_ _ | refine Ext.setCell ?_ (by first | omega | (dsimp only; omega) | (simp; done) | (simp; omega)) _ | refine Ext.trans ?_ (by assumption))), rfl⟩
  case round =>
    obtain ⟨j, hj, rfl, hE, rfl⟩ := hrel
    by_cases hlt : j < m
    · have hlt' : (j : Int) < m := by omega
      have HS : Hid (cntTo (kAny 7 8 xs) (j + 1) = cntTo (kAny 7 8 xs) j + (if Wn (at3 xs (j * 3)) 7 8 then 1 else 0)) := rfl
      have hcb := cntTo_bd (kAny 7 8 xs) j
      obtain ⟨b, off, rfl, hbk, hcell⟩ := HH.out (by omega)
      have hbr : b < wr.heap.size := by have := hE.size; omega
      have z0 : wr.cell? ⟨b, off + j * 3, none⟩ = some (.int .i64 (at3 xs (j * 3))) := (hE.cells.1 b (off + (j * 3)) hbk).trans (hcell _ _ (at3_get (by have := HL.out; omega)))
      have z1 : wr.cell? ⟨b, off + j * 3 + 1, none⟩ = some (.int .i64 (at3 xs (j * 3 + 1))) := (hE.cells.1 b (off + (j * 3 + 1)) hbk).trans (hcell _ _ (at3_get (by have := HL.out; omega)))
      have z2 : wr.cell? ⟨b, off + j * 3 + 2, none⟩ = some (.int .i64 (at3 xs (j * 3 + 2))) := (hE.cells.1 b (off + (j * 3 + 2)) hbk).trans (hcell _ _ (at3_get (by have := HL.out; omega)))
      clear hcell
      generalize at3 xs (j * 3) = k0 at *
      generalize at3 xs (j * 3 + 1) = a0 at *
      generalize at3 xs (j * 3 + 2) = b0 at *
      generalize cntTo (kAny 7 8 xs) j = c0 at *
      cases hg : Wn k0 7 8
      all_goals
        go_wp2_with (first | (go_at_call 58; ((with_reducible refine (isT_any _ _).mono ?_); rintro e w' ⟨rfl, rfl⟩)) | (go_at_call 47; ((with_reducible refine (small_any _ _).mono ?_); rintro e w' ⟨rfl, rfl⟩)))
        go_roundw
        case rel => exact ⟨j + 1, by omega, by go_num, (by repeat (first | exact Ext.refl _ | assumption | refine Ext.alloc ?_ _ | refine Ext.drew ?_ | refine Ext.drewN ?_ _ | refine Ext.setCell ?_ (by first | omega | (dsimp only; omega) | (simp; done) | (simp; omega)) _ | refine Ext.trans ?_ (by assumption))), by rw [HS.out, hg]; simp⟩
        case measure => simp [intOf]; omega
    · obtain rfl : j = m := by omega
      go_wp2
      go_ret
      exact ⟨rfl, hE⟩

set_option maxHeartbeats 1000000 in
theorem countedTwo_any (q : Int) {v : Value} {m : Nat} {xs : List Int} (hm : m ≤ 2000000) (w : World) (h : RV w 3 v m xs) :
    Calls Tryd.prog 56 #[.agg #[.int .i64 q, v], .func (.func 57) #[] #[]] w fun e w' => e = .returned (.tuple #[.int .i64 (if cOk q xs m then cntTo (kAny 9 11 xs) m else 0), .bool (cOk q xs m)]) ∧ Ext w w' := by
  have HV := fun w' (hx : Ext w w') => Lib.hid (isValidCircuit_any q hm w' (h.ext hx))
  obtain ⟨hl, a, cap, rfl, c1, c2, H⟩ := h
  have HH := Lib.hid H
  have HL := Lib.hid hl
  clear H hl
  cases hok : cOk q xs m
  · rw [hok] at HV
    go_enter Tryd.func56, Tryd.ntmps56
    go_wp2_with fail
    refine (HV _ (by repeat (first | exact Ext.refl _ | assumption | refine Ext.alloc ?_ _ | refine Ext.drew ?_ | refine Ext.drewN ?_ _ | refine Ext.setCell ?_ (by first | omega | (dsimp only; omega) | (simp; done) | (simp; omega)) _ | refine Ext.trans ?_ (by assumption)))).out.mono ?_
    rintro e w1 ⟨rfl, hx1⟩
    go_wp2
    go_ret2
    exact ⟨rfl, (by repeat (first | exact Ext.refl _ | assumption | refine Ext.alloc ?_ _ | refine Ext.drew ?_ | refine Ext.drewN ?_ _ | refine Ext.setCell ?_ (by first | omega | (dsimp only; omega) | (simp; done) | (simp; omega)) _ | refine Ext.trans ?_ (by assumption)))⟩
  rw [hok] at HV
  go_enter Tryd.func56, Tryd.ntmps56
  go_wp2_with fail
  refine (HV _ (by repeat (first | exact Ext.refl _ | assumption | refine Ext.alloc ?_ _ | refine Ext.drew ?_ | refine Ext.drewN ?_ _ | refine Ext.setCell ?_ (by first | omega | (dsimp only; omega) | (simp; done) | (simp; omega)) _ | refine Ext.trans ?_ (by assumption)))).out.mono ?_
  rintro e w1 ⟨rfl, hx1⟩
  obtain ⟨hc1, hf1⟩ := hx1.cells
  have hz1 := hx1.size
  try simp at hz1
  have hs1_0 := sz1 (a := w.heap.size) (b := w1.heap.size) (by omega)
  have hE1 : Ext w w1 := (by repeat (first | exact Ext.refl _ | assumption | refine Ext.alloc ?_ _ | refine Ext.drew ?_ | refine Ext.drewN ?_ _ | refine Ext.setCell ?_ (by first | omega | (dsimp only; omega) | (simp; done) | (simp; omega)) _ | refine Ext.trans ?_ (by assumption)))
  go_wp2
  go_loopw [6, 8, 15] (fun n _ i wr => ∃ j : Nat, j ≤ m ∧ i = .int .i64 j ∧ Ext w wr ∧ n = .int .i64 (cntTo (kAny 9 11 xs) j)) (fun _ _ i _ => m - (intOf i).toNat)
  case atStart => exact ⟨0, by omega, rfl, hE1, rfl⟩
  case round =>
    obtain ⟨j, hj, rfl, hE, rfl⟩ := hrel
    by_cases hlt : j < m
    · have hlt' : (j : Int) < m := by omega
      have HS : Hid (cntTo (kAny 9 11 xs) (j + 1) = cntTo (kAny 9 11 xs) j + (if Wn (at3 xs (j * 3)) 9 11 then 1 else 0)) := rfl
      have hcb := cntTo_bd (kAny 9 11 xs) j
      obtain ⟨b, off, rfl, hbk, hcell⟩ := HH.out (by omega)
      have hbr : b < wr.heap.size := by have := hE.size; omega
      have z0 : wr.cell? ⟨b, off + j * 3, none⟩ = some (.int .i64 (at3 xs (j * 3))) := (hE.cells.1 b (off + (j * 3)) hbk).trans (hcell _ _ (at3_get (by have := HL.out; omega)))
      have z1 : wr.cell? ⟨b, off + j * 3 + 1, none⟩ = some (.int .i64 (at3 xs (j * 3 + 1))) := (hE.cells.1 b (off + (j * 3 + 1)) hbk).trans (hcell _ _ (at3_get (by have := HL.out; omega)))
      have z2 : wr.cell? ⟨b, off + j * 3 + 2, none⟩ = some (.int .i64 (at3 xs (j * 3 + 2))) := (hE.cells.1 b (off + (j * 3 + 2)) hbk).trans (hcell _ _ (at3_get (by have := HL.out; omega)))
      clear hcell
      generalize at3 xs (j * 3) = k0 at *
      generalize at3 xs (j * 3 + 1) = a0 at *
      generalize at3 xs (j * 3 + 2) = b0 at *
      generalize cntTo (kAny 9 11 xs) j = c0 at *
      cases hg : Wn k0 9 11
      all_goals
        go_wp2_with (go_at_call 57; ((with_reducible refine (isTwo_any _ _).mono ?_); rintro e w' ⟨rfl, rfl⟩))
        go_roundw
        case rel => exact ⟨j + 1, by omega, by go_num, (by repeat (first | exact Ext.refl _ | assumption | refine Ext.alloc ?_ _ | refine Ext.drew ?_ | refine Ext.drewN ?_ _ | refine Ext.setCell ?_ (by first | omega | (dsimp only; omega) | (simp; done) | (simp; omega)) _ | refine Ext.trans ?_ (by assumption))), by rw [HS.out, hg]; simp⟩
        case measure => simp [intOf]; omega
    · obtain rfl : j = m := by omega
      go_wp2
      go_ret2
      exact ⟨rfl, hE⟩

theorem countTwo_any (q : Int) {v : Value} {m : Nat} {xs : List Int} (hm : m ≤ 2000000) (w : World) (h : RV w 3 v m xs) :
    Calls Tryd.prog 39 #[.agg #[.int .i64 q, v]] w fun e w' => e = .returned (.tuple #[.int .i64 (if cOk q xs m then cntTo (kAny 9 11 xs) m else 0), .bool (cOk q xs m)]) ∧ Ext w w' := by
  have HV := fun w' (hx : Ext w w') => Lib.hid (countedTwo_any q hm w' (h.ext hx))
  generalize cOk q xs m = ok at *
  generalize (if ok = true then cntTo (kAny 9 11 xs) m else 0) = c at *
  obtain ⟨hl, a, cap, rfl, c1, c2, H⟩ := h
  clear H
  go_enter Tryd.func39, Tryd.ntmps39
  go_wp2_with fail
  refine (HV _ (by repeat (first | exact Ext.refl _ | assumption | refine Ext.alloc ?_ _ | refine Ext.drew ?_ | refine Ext.drewN ?_ _ | refine Ext.setCell ?_ (by first | omega | (dsimp only; omega) | (simp; done) | (simp; omega)) _ | refine Ext.trans ?_ (by assumption)))).out.mono ?_
  rintro e w1 ⟨rfl, hx1⟩
  go_wp2
  go_ret2
  exact ⟨rfl, (by repeat (first | exact Ext.refl _ | assumption | refine Ext.alloc ?_ _ | refine Ext.drew ?_ | refine Ext.drewN ?_ _ | refine Ext.setCell ?_ (by first | omega | (dsimp only; omega) | (simp; done) | (simp; omega)) _ | refine Ext.trans ?_ (by assumption)))⟩

end Go.Proofs.YtgefamclfjoogaaDoor
