/- Slices of gates: validity, counts, sizes, copies. -/
import Derived.Test.YtgefamclfjoogaaDoorGate
namespace Go.Proofs.YtgefamclfjoogaaDoor
open Go.RowKit

theorem closV_any (q : Int) (B : Nat) (k a b : Int) (w : World) (hB : w.cell? ⟨B, 0, none⟩ = some (.int .i64 q)) :
    Calls Tryd.prog 43 #[.agg #[.int .i64 k, .int .i64 a, .int .i64 b], .pointer (some ⟨B, 0, none⟩)] w fun e w' => e = .returned (.bool (!(Wn q 1 5 && gOk q k a b))) ∧ Ext w w' := by
  have hb := lt_of_cell hB
  have hne : B ≠ w.heap.size := by omega
  go_enter Tryd.func43, Tryd.ntmps43
  go_wp2_with fail
  refine (isValidGate_any _ _ _ _ _).mono ?_
  rintro e w1 ⟨rfl, hx1⟩
  obtain ⟨hc1, hf1⟩ := hx1.cells
  have hz1 := hx1.size
  try simp at hz1
  have hs1_0 := sz1 (a := w.heap.size) (b := w1.heap.size) (by omega)
  go_wp2
  go_ret
  exact ⟨ret_bool (by simp), (by repeat (first | exact Ext.refl _ | assumption | refine Ext.alloc ?_ _ | refine Ext.drew ?_ | refine Ext.drewN ?_ _ | refine Ext.setCell ?_ (by first | omega | (dsimp only; omega) | (simp; done) | (simp; omega)) _ | refine Ext.trans ?_ (by assumption)))⟩

set_option maxHeartbeats 1000000 in
theorem indexV_any (q : Int) (hq : Wn q 1 5 = true) (B : Nat) {v : Value} {m : Nat} {xs : List Int} (hm : m ≤ 2000000) (w : World) (hB : w.cell? ⟨B, 0, none⟩ = some (.int .i64 q)) (h : RV w 3 v m xs) :
    Calls Tryd.prog 59 #[v, .func (.func 43) #[] #[.pointer (some ⟨B, 0, none⟩)]] w fun e w' => (∃ r : Int, e = .returned (.int .i64 r) ∧ decide (0 ≤ r) = !(gAll q xs m)) ∧ Ext w w' := by
  obtain ⟨hl, a, cap, rfl, c1, c2, H⟩ := h
  have HH := Lib.hid H
  have HL := Lib.hid hl
  have hb := lt_of_cell hB
  clear H hl
  go_enter Tryd.func59, Tryd.ntmps59
  go_wp2
  go_loopw [5, 8] (fun _ i wr => ∃ j : Nat, j ≤ m ∧ i = .int .i64 j ∧ Ext w wr ∧ gAll q xs j = true) (fun _ i _ => m - (intOf i).toNat)
  case atStart => exact ⟨0, by omega, rfl, Ext.refl _, rfl⟩
  case round =>
    obtain ⟨j, hj, rfl, hE, hall⟩ := hrel
    have HA := Lib.hid hall
    clear hall
    by_cases hlt : j < m
    · have hlt' : (j : Int) < m := by omega
      obtain ⟨b, off, rfl, hbk, hcell⟩ := HH.out (by omega)
      have hbr : b < wr.heap.size := by have := hE.size; omega
      have z0 : wr.cell? ⟨b, off + j * 3, none⟩ = some (.int .i64 (at3 xs (j * 3))) := (hE.cells.1 b (off + j * 3) hbk).trans (hcell _ _ (at3_get (by have := HL.out; omega)))
      have z1 : wr.cell? ⟨b, off + j * 3 + 1, none⟩ = some (.int .i64 (at3 xs (j * 3 + 1))) := (hE.cells.1 b (off + (j * 3 + 1)) hbk).trans (hcell _ _ (at3_get (by have := HL.out; omega)))
      have z2 : wr.cell? ⟨b, off + j * 3 + 2, none⟩ = some (.int .i64 (at3 xs (j * 3 + 2))) := (hE.cells.1 b (off + (j * 3 + 2)) hbk).trans (hcell _ _ (at3_get (by have := HL.out; omega)))
      have zB : wr.cell? ⟨B, 0, none⟩ = some (.int .i64 q) := (hE.cells.1 B 0 hb).trans hB
      have HS : Hid (gAll q xs (j + 1) = (gAll q xs j && gOk q (at3 xs (j * 3)) (at3 xs (j * 3 + 1)) (at3 xs (j * 3 + 2)))) := rfl
      have HF : Hid (gOk q (at3 xs (j * 3)) (at3 xs (j * 3 + 1)) (at3 xs (j * 3 + 2)) = false → gAll q xs m = false) := fun h => allTo_false (f := fun j => gOk q (at3 xs (j * 3)) (at3 xs (j * 3 + 1)) (at3 xs (j * 3 + 2))) h hlt
      clear hcell
      generalize at3 xs (j * 3) = k0 at *
      generalize at3 xs (j * 3 + 1) = a0 at *
      generalize at3 xs (j * 3 + 2) = b0 at *
      have HC := Lib.hid (closV_any q B k0 a0 b0 wr zB)
      rw [hq] at HC
      cases hg : gOk q k0 a0 b0
      · rw [hg] at HC
        go_wp2_with fail
        refine (HC.out).mono ?_
        rintro e w1 ⟨rfl, hx1⟩
        obtain ⟨hc1, hf1⟩ := hx1.cells
        have hz1 := hx1.size
        try simp at hz1
        go_wp2
        go_ret
        exact ⟨⟨_, rfl, by rw [HF.out hg]; simp⟩, hE.trans hx1⟩
      · rw [hg] at HC
        go_wp2_with fail
        refine (HC.out).mono ?_
        rintro e w1 ⟨rfl, hx1⟩
        obtain ⟨hc1, hf1⟩ := hx1.cells
        have hz1 := hx1.size
        try simp at hz1
        go_wp2
        go_roundw
        case rel => exact ⟨j + 1, by omega, by go_num, hE.trans hx1, by rw [HS.out, HA.out, hg]; rfl⟩
        case measure => simp [intOf]; omega
    · obtain rfl : j = m := by omega
      go_wp2
      go_ret
      exact ⟨⟨_, rfl, by rw [HA.out]; rfl⟩, hE⟩

theorem containsV_any (q : Int) (hq : Wn q 1 5 = true) (B : Nat) {v : Value} {m : Nat} {xs : List Int} (hm : m ≤ 2000000) (w : World) (hB : w.cell? ⟨B, 0, none⟩ = some (.int .i64 q)) (h : RV w 3 v m xs) :
    Calls Tryd.prog 42 #[v, .func (.func 43) #[] #[.pointer (some ⟨B, 0, none⟩)]] w fun e w' => e = .returned (.bool (!(gAll q xs m))) ∧ Ext w w' := by
  have HI := Lib.hid (indexV_any q hq B hm w hB h)
  generalize gAll q xs m = g at *
  obtain ⟨_, a, cap, rfl, _⟩ := h
  go_enter Tryd.func42, Tryd.ntmps42
  go_wp2_with fail
  refine (HI.out).mono ?_
  rintro e w1 ⟨⟨r, rfl, hr⟩, hx1⟩
  have HR := Lib.hid hr
  clear hr
  by_cases h0 : 0 ≤ r
  all_goals
    go_wp2
    go_ret
    exact ⟨ret_bool (by rw [← HR.out]; first | done | (simp; done) | (simp; omega)), hx1⟩

set_option maxHeartbeats 1000000 in
theorem isValidCircuit_any (q : Int) {v : Value} {m : Nat} {xs : List Int} (hm : m ≤ 2000000) (w : World) (h : RV w 3 v m xs) :
    Calls Tryd.prog 19 #[.agg #[.int .i64 q, v]] w fun e w' => e = .returned (.bool (cOk q xs m)) ∧ Ext w w' := by
  have HI := fun hq w' (hx : Ext w w') (B : Nat) hB => Lib.hid (containsV_any q hq B hm w' hB (h.ext hx))
  have HO : Hid (cOk q xs m = (Wn q 1 5 && (decide (m ≤ 400) && gAll q xs m))) := rfl
  generalize cOk q xs m = ok at *
  generalize gAll q xs m = g at *
  obtain ⟨_, a, cap, rfl, _⟩ := h
  cases hq : Wn q 1 5
  · go_enter Tryd.func19, Tryd.ntmps19
    go_wp2_with (go_at_call 41; ((with_reducible refine (within_any _ _ _ _).mono ?_); rintro e w' ⟨rfl, rfl⟩))
    go_ret
    exact ⟨ret_bool (by rw [HO.out, hq]; rfl), (by repeat (first | exact Ext.refl _ | assumption | refine Ext.alloc ?_ _ | refine Ext.drew ?_ | refine Ext.drewN ?_ _ | refine Ext.setCell ?_ (by first | omega | (dsimp only; omega) | (simp; done) | (simp; omega)) _ | refine Ext.trans ?_ (by assumption)))⟩
  · by_cases h4 : m ≤ 400
    · have h4' : (m : Int) ≤ 400 := by omega
      have HJ := HI hq
      clear HI
      go_enter Tryd.func19, Tryd.ntmps19
      go_wp2_with (go_at_call 41; ((with_reducible refine (within_any _ _ _ _).mono ?_); rintro e w' ⟨rfl, rfl⟩))
      refine (HJ _ (by repeat (first | exact Ext.refl _ | assumption | refine Ext.alloc ?_ _ | refine Ext.drew ?_ | refine Ext.drewN ?_ _ | refine Ext.setCell ?_ (by first | omega | (dsimp only; omega) | (simp; done) | (simp; omega)) _ | refine Ext.trans ?_ (by assumption))) w.heap.size (by simp)).out.mono ?_
      rintro e w1 ⟨rfl, hx1⟩
      go_wp2
      go_ret
      exact ⟨ret_bool (by rw [HO.out, hq]; simp [h4]), (by repeat (first | exact Ext.refl _ | assumption | refine Ext.alloc ?_ _ | refine Ext.drew ?_ | refine Ext.drewN ?_ _ | refine Ext.setCell ?_ (by first | omega | (dsimp only; omega) | (simp; done) | (simp; omega)) _ | refine Ext.trans ?_ (by assumption)))⟩
    · have h4' : ¬ (m : Int) ≤ 400 := by omega
      go_enter Tryd.func19, Tryd.ntmps19
      go_wp2_with (go_at_call 41; ((with_reducible refine (within_any _ _ _ _).mono ?_); rintro e w' ⟨rfl, rfl⟩))
      go_ret
      exact ⟨ret_bool (by rw [HO.out, hq]; simp [h4]), (by repeat (first | exact Ext.refl _ | assumption | refine Ext.alloc ?_ _ | refine Ext.drew ?_ | refine Ext.drewN ?_ _ | refine Ext.setCell ?_ (by first | omega | (dsimp only; omega) | (simp; done) | (simp; omega)) _ | refine Ext.trans ?_ (by assumption)))⟩

end Go.Proofs.YtgefamclfjoogaaDoor
