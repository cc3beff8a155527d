/- Gates and circuits: validity, counts, copies. -/
import Derived.Test.YtbddgeoaaklgpaaRow
import Derived.Test.YtbddgeoaaklgpaaBase
import Derived.Test.YtbddgeoaaklgpaaRing
import Derived.OwnWalk
import Derived.Test.YtbddgeoaaklgpaaMade
import Derived.Laws.AppendOwnNone
import Derived.Test.YtbddgeoaaklgpaaLs
import Derived.Deep.Cut
namespace Go.Proofs.Ytbddgeoaaklgpaa
open Go.RowKit

theorem kinds (k : Int) : (Wn k 1 8 = true ∧ Wn k 9 11 = false ∧ Wn k 1 12 = true ∧ (k == 12) = false) ∨ (Wn k 1 8 = false ∧ Wn k 9 11 = true ∧ Wn k 1 12 = true ∧ (k == 12) = false) ∨
    (Wn k 1 8 = false ∧ Wn k 9 11 = false ∧ Wn k 1 12 = true ∧ (k == 12) = true) ∨ (Wn k 1 8 = false ∧ Wn k 9 11 = false ∧ Wn k 1 12 = false ∧ (k == 12) = false) := by
  simp only [Wn]
  by_cases h1 : 1 ≤ k <;> by_cases h2 : k ≤ 8 <;> by_cases h3 : k ≤ 11 <;> by_cases h4 : k ≤ 12 <;> simp <;> omega

theorem isTwo_any (k : Int) (w : World) : Calls Try.prog 87 #[.int .i64 k] w fun e w' => e = .returned (.bool (Wn k 9 11)) ∧ w = w' := by
  go_enter Try.func87, Try.ntmps87
  go_wp2_with (go_at_call 68; ((with_reducible refine (within_any _ _ _ _).mono ?_); rintro e w' ⟨rfl, rfl⟩))
  go_ret
  exact ⟨rfl, rfl⟩

theorem isT_any (k : Int) (w : World) : Calls Try.prog 57 #[.int .i64 k] w fun e w' => e = .returned (.bool (Wn k 7 8)) ∧ w = w' := by
  by_cases h7 : k = 7
  · subst h7
    go_enter Try.func57, Try.ntmps57
    go_wp2
    go_ret
    exact ⟨rfl, rfl⟩
  by_cases h8 : k = 8
  · subst h8
    go_enter Try.func57, Try.ntmps57
    go_wp2
    go_ret
    exact ⟨rfl, rfl⟩
  have e7 : (k == 7) = false := by simpa using h7
  have e8 : (k == 8) = false := by simpa using h8
  have e : Wn k 7 8 = false := by rw [Wn_not]; omega
  rw [e]
  go_enter Try.func57, Try.ntmps57
  go_wp2
  go_ret
  exact ⟨rfl, rfl⟩

theorem small_any (b : Bool) (w : World) : Calls Try.prog 96 #[.bool b] w fun e w' => e = .returned (.int .i64 (if b then 1 else 0)) ∧ w = w' := by
  cases b
  all_goals
    go_enter Try.func96, Try.ntmps96
    go_wp2
    go_ret
    exact ⟨rfl, rfl⟩

set_option maxHeartbeats 1000000 in
theorem isValidGate_any (n k a b : Int) (w : World) :
    Calls Try.prog 71 #[.int .i64 n, .agg #[.int .i64 k, .int .i64 a, .int .i64 b]] w fun e w' => e = .returned (.bool (Wn n 1 5 && gOk n k a b)) ∧ Ext w w' := by
  cases h0 : Wn n 1 5
  · go_enter Try.func71, Try.ntmps71
    go_wp2_with (go_at_call 68; ((with_reducible refine (within_any _ _ _ _).mono ?_); rintro e w' ⟨rfl, rfl⟩))
    go_ret
    exact ⟨rfl, (by repeat (first | exact Ext.refl _ | assumption | refine Ext.alloc ?_ _ | refine Ext.drew ?_ | refine Ext.drewN ?_ _ | refine Ext.setCell ?_ (by first | omega | (dsimp only; omega) | (simp; done) | (simp; omega)) _ | refine Ext.trans ?_ (by assumption)))⟩
  have hn := Wn_iff.1 h0
  rcases kinds k with ⟨k1, k2, k3, k4⟩ | ⟨k1, k2, k3, k4⟩ | ⟨k1, k2, k3, k4⟩ | ⟨k1, k2, k3, k4⟩
  · cases ha : Wn a 0 (n - 1)
    all_goals
      go_enter Try.func71, Try.ntmps71
      go_wp2_with (first | (go_at_call 68; ((with_reducible refine (within_any _ _ _ _).mono ?_); rintro e w' ⟨rfl, rfl⟩)) | (go_at_call 87; ((with_reducible refine (isTwo_any _ _).mono ?_); rintro e w' ⟨rfl, rfl⟩)))
      go_ret
      exact ⟨ret_bool (by simp [gOk, k1, ha]), (by repeat (first | exact Ext.refl _ | assumption | refine Ext.alloc ?_ _ | refine Ext.drew ?_ | refine Ext.drewN ?_ _ | refine Ext.setCell ?_ (by first | omega | (dsimp only; omega) | (simp; done) | (simp; omega)) _ | refine Ext.trans ?_ (by assumption)))⟩
  · cases ha : Wn a 0 (n - 1) <;> cases hb : Wn b 0 (n - 1)
    all_goals
      go_enter Try.func71, Try.ntmps71
      go_wp2_with (first | (go_at_call 68; ((with_reducible refine (within_any _ _ _ _).mono ?_); rintro e w' ⟨rfl, rfl⟩)) | (go_at_call 87; ((with_reducible refine (isTwo_any _ _).mono ?_); rintro e w' ⟨rfl, rfl⟩)))
      go_ret
      exact ⟨ret_bool (by simp [gOk, k1, k2, ha, hb]), (by repeat (first | exact Ext.refl _ | assumption | refine Ext.alloc ?_ _ | refine Ext.drew ?_ | refine Ext.drewN ?_ _ | refine Ext.setCell ?_ (by first | omega | (dsimp only; omega) | (simp; done) | (simp; omega)) _ | refine Ext.trans ?_ (by assumption)))⟩
  · cases ha : (a == 0)
    all_goals
      go_enter Try.func71, Try.ntmps71
      go_wp2_with (first | (go_at_call 68; ((with_reducible refine (within_any _ _ _ _).mono ?_); rintro e w' ⟨rfl, rfl⟩)) | (go_at_call 87; ((with_reducible refine (isTwo_any _ _).mono ?_); rintro e w' ⟨rfl, rfl⟩)))
      go_ret
      exact ⟨ret_bool (by simp [gOk, k1, k2, k4, ha]), (by repeat (first | exact Ext.refl _ | assumption | refine Ext.alloc ?_ _ | refine Ext.drew ?_ | refine Ext.drewN ?_ _ | refine Ext.setCell ?_ (by first | omega | (dsimp only; omega) | (simp; done) | (simp; omega)) _ | refine Ext.trans ?_ (by assumption)))⟩
  · go_enter Try.func71, Try.ntmps71
    go_wp2_with (first | (go_at_call 68; ((with_reducible refine (within_any _ _ _ _).mono ?_); rintro e w' ⟨rfl, rfl⟩)) | (go_at_call 87; ((with_reducible refine (isTwo_any _ _).mono ?_); rintro e w' ⟨rfl, rfl⟩)))
    go_ret
    exact ⟨ret_bool (by simp [gOk, k1, k2, k4]), (by repeat (first | exact Ext.refl _ | assumption | refine Ext.alloc ?_ _ | refine Ext.drew ?_ | refine Ext.drewN ?_ _ | refine Ext.setCell ?_ (by first | omega | (dsimp only; omega) | (simp; done) | (simp; omega)) _ | refine Ext.trans ?_ (by assumption)))⟩

set_option maxHeartbeats 1000000 in
theorem l4Gate_any (n k a b : Int) (hn : 1 ≤ n ∧ n ≤ 5) (w : World) :
    Calls Try.prog 54 #[.int .i64 n, .agg #[.int .i64 k, .int .i64 a, .int .i64 b]] w fun e w' => e = .returned (.bool (gOk n k a b)) ∧ Ext w w' := by
  rcases kinds k with ⟨k1, k2, k3, k4⟩ | ⟨k1, k2, k3, k4⟩ | ⟨k1, k2, k3, k4⟩ | ⟨k1, k2, k3, k4⟩
  · cases ha : Wn a 0 (n - 1)
    all_goals
      go_enter Try.func54, Try.ntmps54
      go_wp2_with (go_at_call 53; ((with_reducible refine (l1In_any _ _ _ _).mono ?_); rintro e w' ⟨rfl, rfl⟩))
      go_ret
      exact ⟨ret_bool (by simp [gOk, k1, ha]), (by repeat (first | exact Ext.refl _ | assumption | refine Ext.alloc ?_ _ | refine Ext.drew ?_ | refine Ext.drewN ?_ _ | refine Ext.setCell ?_ (by first | omega | (dsimp only; omega) | (simp; done) | (simp; omega)) _ | refine Ext.trans ?_ (by assumption)))⟩
  · cases ha : Wn a 0 (n - 1) <;> cases hb : Wn b 0 (n - 1)
    all_goals
      go_enter Try.func54, Try.ntmps54
      go_wp2_with (go_at_call 53; ((with_reducible refine (l1In_any _ _ _ _).mono ?_); rintro e w' ⟨rfl, rfl⟩))
      go_ret
      exact ⟨ret_bool (by simp [gOk, k1, k2, ha, hb]), (by repeat (first | exact Ext.refl _ | assumption | refine Ext.alloc ?_ _ | refine Ext.drew ?_ | refine Ext.drewN ?_ _ | refine Ext.setCell ?_ (by first | omega | (dsimp only; omega) | (simp; done) | (simp; omega)) _ | refine Ext.trans ?_ (by assumption)))⟩
  · cases ha : (a == 0)
    all_goals
      go_enter Try.func54, Try.ntmps54
      go_wp2_with (go_at_call 53; ((with_reducible refine (l1In_any _ _ _ _).mono ?_); rintro e w' ⟨rfl, rfl⟩))
      go_ret
      exact ⟨ret_bool (by simp [gOk, k1, k2, k4, ha]), (by repeat (first | exact Ext.refl _ | assumption | refine Ext.alloc ?_ _ | refine Ext.drew ?_ | refine Ext.drewN ?_ _ | refine Ext.setCell ?_ (by first | omega | (dsimp only; omega) | (simp; done) | (simp; omega)) _ | refine Ext.trans ?_ (by assumption)))⟩
  · go_enter Try.func54, Try.ntmps54
    go_wp2_with (go_at_call 53; ((with_reducible refine (l1In_any _ _ _ _).mono ?_); rintro e w' ⟨rfl, rfl⟩))
    go_ret
    exact ⟨ret_bool (by simp [gOk, k1, k2, k4]), (by repeat (first | exact Ext.refl _ | assumption | refine Ext.alloc ?_ _ | refine Ext.drew ?_ | refine Ext.drewN ?_ _ | refine Ext.setCell ?_ (by first | omega | (dsimp only; omega) | (simp; done) | (simp; omega)) _ | refine Ext.trans ?_ (by assumption)))⟩


open Go.RowKit

theorem closV_any (q : Int) (B : Nat) (k a b : Int) (w : World) (hB : w.cell? ⟨B, 0, none⟩ = some (.int .i64 q)) :
    Calls Try.prog 70 #[.agg #[.int .i64 k, .int .i64 a, .int .i64 b], .pointer (some ⟨B, 0, none⟩)] w fun e w' => e = .returned (.bool (!(Wn q 1 5 && gOk q k a b))) ∧ Ext w w' := by
  have hb := lt_of_cell hB
  have hne : B ≠ w.heap.size := by omega
  go_enter Try.func70, Try.ntmps70
  go_wp2_with fail
  refine (isValidGate_any _ _ _ _ _).mono ?_
  rintro e w1 ⟨rfl, hx1⟩
  obtain ⟨hc1, hf1⟩ := hx1.cells
  have hz1 := hx1.size
  try simp at hz1
  have hs1_0 := sz1 (a := w.heap.size) (b := w1.heap.size) (by omega)
  go_wp2
  go_ret
  exact ⟨ret_bool (by simp), (by repeat (first | exact Ext.refl _ | assumption | refine Ext.alloc ?_ _ | refine Ext.drew ?_ | refine Ext.drewN ?_ _ | refine Ext.setCell ?_ (by first | omega | (dsimp only; omega) | (simp; done) | (simp; omega)) _ | refine Ext.trans ?_ (by assumption)))⟩

set_option maxHeartbeats 1000000 in
theorem indexV_any (q : Int) (hq : Wn q 1 5 = true) (B : Nat) {v : Value} {m : Nat} {xs : List Int} (hm : m ≤ 2000000) (w : World) (hB : w.cell? ⟨B, 0, none⟩ = some (.int .i64 q)) (h : RV w 3 v m xs) :
    Calls Try.prog 86 #[v, .func (.func 70) #[] #[.pointer (some ⟨B, 0, none⟩)]] w fun e w' => (∃ r : Int, e = .returned (.int .i64 r) ∧ decide (0 ≤ r) = !(gAll q xs m)) ∧ Ext w w' := by
  obtain ⟨hl, a, cap, rfl, c1, c2, H⟩ := h
  have HH := Lib.hid H
  have HL := Lib.hid hl
  have hb := lt_of_cell hB
  clear H hl
  go_enter Try.func86, Try.ntmps86
  go_wp2
  go_loopw [5, 8] (fun _ i wr => ∃ j : Nat, j ≤ m ∧ i = .int .i64 j ∧ Ext w wr ∧ gAll q xs j = true) (fun _ i _ => m - (intOf i).toNat)
  case atStart => exact ⟨0, by omega, rfl, Ext.refl _, rfl⟩
  case round =>
    obtain ⟨j, hj, rfl, hE, hall⟩ := hrel
    have HA := Lib.hid hall
    clear hall
    by_cases hlt : j < m
    · have hlt' : (j : Int) < m := by omega
      obtain ⟨b, off, rfl, hbk, hcell⟩ := HH.out (by omega)
      have hbr : b < wr.heap.size := by have := hE.size; omega
      have z0 : wr.cell? ⟨b, off + j * 3, none⟩ = some (.int .i64 (at3 xs (j * 3))) := (hE.cells.1 b (off + j * 3) hbk).trans (hcell _ _ (at3_get (by have := HL.out; omega)))
      have z1 : wr.cell? ⟨b, off + j * 3 + 1, none⟩ = some (.int .i64 (at3 xs (j * 3 + 1))) := (hE.cells.1 b (off + (j * 3 + 1)) hbk).trans (hcell _ _ (at3_get (by have := HL.out; omega)))
      have z2 : wr.cell? ⟨b, off + j * 3 + 2, none⟩ = some (.int .i64 (at3 xs (j * 3 + 2))) := (hE.cells.1 b (off + (j * 3 + 2)) hbk).trans (hcell _ _ (at3_get (by have := HL.out; omega)))
      have zB : wr.cell? ⟨B, 0, none⟩ = some (.int .i64 q) := (hE.cells.1 B 0 hb).trans hB
      have HS : Hid (gAll q xs (j + 1) = (gAll q xs j && gOk q (at3 xs (j * 3)) (at3 xs (j * 3 + 1)) (at3 xs (j * 3 + 2)))) := rfl
      have HF : Hid (gOk q (at3 xs (j * 3)) (at3 xs (j * 3 + 1)) (at3 xs (j * 3 + 2)) = false → gAll q xs m = false) := fun h => allTo_false (f := fun j => gOk q (at3 xs (j * 3)) (at3 xs (j * 3 + 1)) (at3 xs (j * 3 + 2))) h hlt
      clear hcell
      generalize at3 xs (j * 3) = k0 at *
      generalize at3 xs (j * 3 + 1) = a0 at *
      generalize at3 xs (j * 3 + 2) = b0 at *
      have HC := Lib.hid (closV_any q B k0 a0 b0 wr zB)
      rw [hq] at HC
      cases hg : gOk q k0 a0 b0
      · rw [hg] at HC
        go_wp2_with fail
        refine (HC.out).mono ?_
        rintro e w1 ⟨rfl, hx1⟩
        obtain ⟨hc1, hf1⟩ := hx1.cells
        have hz1 := hx1.size
        try simp at hz1
        go_wp2
        go_ret
        exact ⟨⟨_, rfl, by rw [HF.out hg]; simp⟩, hE.trans hx1⟩
      · rw [hg] at HC
        go_wp2_with fail
        refine (HC.out).mono ?_
        rintro e w1 ⟨rfl, hx1⟩
        obtain ⟨hc1, hf1⟩ := hx1.cells
        have hz1 := hx1.size
        try simp at hz1
        go_wp2
        go_roundw
        case rel => exact ⟨j + 1, by omega, by go_num, hE.trans hx1, by rw [HS.out, HA.out, hg]; rfl⟩
        case measure => simp [intOf]; omega
    · obtain rfl : j = m := by omega
      go_wp2
      go_ret
      exact ⟨⟨_, rfl, by rw [HA.out]; rfl⟩, hE⟩

theorem containsV_any (q : Int) (hq : Wn q 1 5 = true) (B : Nat) {v : Value} {m : Nat} {xs : List Int} (hm : m ≤ 2000000) (w : World) (hB : w.cell? ⟨B, 0, none⟩ = some (.int .i64 q)) (h : RV w 3 v m xs) :
    Calls Try.prog 69 #[v, .func (.func 70) #[] #[.pointer (some ⟨B, 0, none⟩)]] w fun e w' => e = .returned (.bool (!(gAll q xs m))) ∧ Ext w w' := by
  have HI := Lib.hid (indexV_any q hq B hm w hB h)
  generalize gAll q xs m = g at *
  obtain ⟨_, a, cap, rfl, _⟩ := h
  go_enter Try.func69, Try.ntmps69
  go_wp2_with fail
  refine (HI.out).mono ?_
  rintro e w1 ⟨⟨r, rfl, hr⟩, hx1⟩
  have HR := Lib.hid hr
  clear hr
  by_cases h0 : 0 ≤ r
  all_goals
    go_wp2
    go_ret
    exact ⟨ret_bool (by rw [← HR.out]; first | done | (simp; done) | (simp; omega)), hx1⟩

set_option maxHeartbeats 1000000 in
theorem isValidCircuit_any (q : Int) {v : Value} {m : Nat} {xs : List Int} (hm : m ≤ 2000000) (w : World) (h : RV w 3 v m xs) :
    Calls Try.prog 44 #[.agg #[.int .i64 q, v]] w fun e w' => e = .returned (.bool (cOk q xs m)) ∧ Ext w w' := by
  have HI := fun hq w' (hx : Ext w w') (B : Nat) hB => Lib.hid (containsV_any q hq B hm w' hB (h.ext hx))
  have HO : Hid (cOk q xs m = (Wn q 1 5 && (decide (m ≤ 400) && gAll q xs m))) := rfl
  generalize cOk q xs m = ok at *
  generalize gAll q xs m = g at *
  obtain ⟨_, a, cap, rfl, _⟩ := h
  cases hq : Wn q 1 5
  · go_enter Try.func44, Try.ntmps44
    go_wp2_with (go_at_call 68; ((with_reducible refine (within_any _ _ _ _).mono ?_); rintro e w' ⟨rfl, rfl⟩))
    go_ret
    exact ⟨ret_bool (by rw [HO.out, hq]; rfl), (by repeat (first | exact Ext.refl _ | assumption | refine Ext.alloc ?_ _ | refine Ext.drew ?_ | refine Ext.drewN ?_ _ | refine Ext.setCell ?_ (by first | omega | (dsimp only; omega) | (simp; done) | (simp; omega)) _ | refine Ext.trans ?_ (by assumption)))⟩
  · by_cases h4 : m ≤ 400
    · have h4' : (m : Int) ≤ 400 := by omega
      have HJ := HI hq
      clear HI
      go_enter Try.func44, Try.ntmps44
      go_wp2_with (go_at_call 68; ((with_reducible refine (within_any _ _ _ _).mono ?_); rintro e w' ⟨rfl, rfl⟩))
      refine (HJ _ (by repeat (first | exact Ext.refl _ | assumption | refine Ext.alloc ?_ _ | refine Ext.drew ?_ | refine Ext.drewN ?_ _ | refine Ext.setCell ?_ (by first | omega | (dsimp only; omega) | (simp; done) | (simp; omega)) _ | refine Ext.trans ?_ (by assumption))) w.heap.size (by simp)).out.mono ?_
      rintro e w1 ⟨rfl, hx1⟩
      go_wp2
      go_ret
      exact ⟨ret_bool (by rw [HO.out, hq]; simp [h4]), (by repeat (first | exact Ext.refl _ | assumption | refine Ext.alloc ?_ _ | refine Ext.drew ?_ | refine Ext.drewN ?_ _ | refine Ext.setCell ?_ (by first | omega | (dsimp only; omega) | (simp; done) | (simp; omega)) _ | refine Ext.trans ?_ (by assumption)))⟩
    · have h4' : ¬ (m : Int) ≤ 400 := by omega
      go_enter Try.func44, Try.ntmps44
      go_wp2_with (go_at_call 68; ((with_reducible refine (within_any _ _ _ _).mono ?_); rintro e w' ⟨rfl, rfl⟩))
      go_ret
      exact ⟨ret_bool (by rw [HO.out, hq]; simp [h4]), (by repeat (first | exact Ext.refl _ | assumption | refine Ext.alloc ?_ _ | refine Ext.drew ?_ | refine Ext.drewN ?_ _ | refine Ext.setCell ?_ (by first | omega | (dsimp only; omega) | (simp; done) | (simp; omega)) _ | refine Ext.trans ?_ (by assumption)))⟩


open Go.RowKit

set_option maxHeartbeats 1000000 in
theorem l4Good_any (q : Int) {v : Value} {m : Nat} {xs : List Int} (hm : m ≤ 2000000) (w : World) (h : RV w 3 v m xs) :
    Calls Try.prog 28 #[.agg #[.int .i64 q, v]] w fun e w' => e = .returned (.bool (cOk q xs m)) ∧ Ext w w' := by
  obtain ⟨hl, a, cap, rfl, c1, c2, H⟩ := h
  have HH := Lib.hid H
  have HL := Lib.hid hl
  have HO : Hid (cOk q xs m = (Wn q 1 5 && (decide (m ≤ 400) && gAll q xs m))) := rfl
  clear H hl
  generalize cOk q xs m = ok at *
  cases hq : Wn q 1 5
  · go_enter Try.func28, Try.ntmps28
    go_wp2_with (go_at_call 53; ((with_reducible refine (l1In_any _ _ _ _).mono ?_); rintro e w' ⟨rfl, rfl⟩))
    go_ret
    exact ⟨ret_bool (by rw [HO.out, hq]; rfl), (by repeat (first | exact Ext.refl _ | assumption | refine Ext.alloc ?_ _ | refine Ext.drew ?_ | refine Ext.drewN ?_ _ | refine Ext.setCell ?_ (by first | omega | (dsimp only; omega) | (simp; done) | (simp; omega)) _ | refine Ext.trans ?_ (by assumption)))⟩
  by_cases h4 : m ≤ 400
  case neg =>
    have h4' : ¬ (m : Int) ≤ 400 := by omega
    have h4'' : (m : Int) > 400 := by omega
    go_enter Try.func28, Try.ntmps28
    go_wp2_with (go_at_call 53; ((with_reducible refine (l1In_any _ _ _ _).mono ?_); rintro e w' ⟨rfl, rfl⟩))
    go_ret
    exact ⟨ret_bool (by rw [HO.out, hq]; simp [h4]), (by repeat (first | exact Ext.refl _ | assumption | refine Ext.alloc ?_ _ | refine Ext.drew ?_ | refine Ext.drewN ?_ _ | refine Ext.setCell ?_ (by first | omega | (dsimp only; omega) | (simp; done) | (simp; omega)) _ | refine Ext.trans ?_ (by assumption)))⟩
  have h4' : (m : Int) ≤ 400 := by omega
  have hq' := Wn_iff.1 hq
  go_enter Try.func28, Try.ntmps28
  go_wp2_with (go_at_call 53; ((with_reducible refine (l1In_any _ _ _ _).mono ?_); rintro e w' ⟨rfl, rfl⟩))
  go_loopw [4, 18] (fun _ i wr => ∃ j : Nat, j ≤ m ∧ i = .int .i64 j ∧ Ext w wr ∧ wr.cell? ⟨w.heap.size, 0, none⟩ = some (.int .i64 q) ∧ gAll q xs j = true) (fun _ i _ => m - (intOf i).toNat)
  case atStart => exact ⟨0, by omega, rfl, (by repeat (first | exact Ext.refl _ | assumption | refine Ext.alloc ?_ _ | refine Ext.drew ?_ | refine Ext.drewN ?_ _ | refine Ext.setCell ?_ (by first | omega | (dsimp only; omega) | (simp; done) | (simp; omega)) _ | refine Ext.trans ?_ (by assumption))), by simp, rfl⟩
  case round =>
    obtain ⟨j, hj, rfl, hE, hB, hall⟩ := hrel
    have HA := Lib.hid hall
    have hbB := lt_of_cell hB
    clear hall
    by_cases hlt : j < m
    · have hlt' : (j : Int) < m := by omega
      have HS : Hid (gAll q xs (j + 1) = (gAll q xs j && gOk q (at3 xs (j * 3)) (at3 xs (j * 3 + 1)) (at3 xs (j * 3 + 2)))) := rfl
      have HF : Hid (gOk q (at3 xs (j * 3)) (at3 xs (j * 3 + 1)) (at3 xs (j * 3 + 2)) = false → gAll q xs m = false) := fun h => allTo_false (f := fun j => gOk q (at3 xs (j * 3)) (at3 xs (j * 3 + 1)) (at3 xs (j * 3 + 2))) h hlt
      obtain ⟨b, off, rfl, hbk, hcell⟩ := HH.out (by omega)
      have hbr : b < wr.heap.size := by have := hE.size; omega
      have z0 : wr.cell? ⟨b, off + j * 3, none⟩ = some (.int .i64 (at3 xs (j * 3))) := (hE.cells.1 b (off + (j * 3)) hbk).trans (hcell _ _ (at3_get (by have := HL.out; omega)))
      have z1 : wr.cell? ⟨b, off + j * 3 + 1, none⟩ = some (.int .i64 (at3 xs (j * 3 + 1))) := (hE.cells.1 b (off + (j * 3 + 1)) hbk).trans (hcell _ _ (at3_get (by have := HL.out; omega)))
      have z2 : wr.cell? ⟨b, off + j * 3 + 2, none⟩ = some (.int .i64 (at3 xs (j * 3 + 2))) := (hE.cells.1 b (off + (j * 3 + 2)) hbk).trans (hcell _ _ (at3_get (by have := HL.out; omega)))
      clear hcell
      generalize at3 xs (j * 3) = k0 at *
      generalize at3 xs (j * 3 + 1) = a0 at *
      generalize at3 xs (j * 3 + 2) = b0 at *
      cases hg : gOk q k0 a0 b0
      · have HC := fun w => Lib.hid (l4Gate_any q k0 a0 b0 hq' w)
        rw [hg] at HC
        go_wp2_with fail
        refine ((HC _).out).mono ?_
        rintro e w1 ⟨rfl, hx1⟩
        obtain ⟨hc1, hf1⟩ := hx1.cells
        have hz1 := hx1.size
        try simp at hz1
        have hs1_0 := sz1 (a := wr.heap.size) (b := w1.heap.size) (by omega)
        go_wp2
        go_ret
        exact ⟨ret_bool (by rw [HO.out, HF.out hg]; simp), (by repeat (first | exact Ext.refl _ | assumption | refine Ext.alloc ?_ _ | refine Ext.drew ?_ | refine Ext.drewN ?_ _ | refine Ext.setCell ?_ (by first | omega | (dsimp only; omega) | (simp; done) | (simp; omega)) _ | refine Ext.trans ?_ (by assumption)))⟩
      · have HC := fun w => Lib.hid (l4Gate_any q k0 a0 b0 hq' w)
        rw [hg] at HC
        go_wp2_with fail
        refine ((HC _).out).mono ?_
        rintro e w1 ⟨rfl, hx1⟩
        obtain ⟨hc1, hf1⟩ := hx1.cells
        have hz1 := hx1.size
        try simp at hz1
        have hs1_0 := sz1 (a := wr.heap.size) (b := w1.heap.size) (by omega)
        go_wp2
        go_roundw
        case rel => exact ⟨j + 1, by omega, by go_num, (by repeat (first | exact Ext.refl _ | assumption | refine Ext.alloc ?_ _ | refine Ext.drew ?_ | refine Ext.drewN ?_ _ | refine Ext.setCell ?_ (by first | omega | (dsimp only; omega) | (simp; done) | (simp; omega)) _ | refine Ext.trans ?_ (by assumption))), ((((Ext.refl wr).alloc _).trans hx1).cells.1 _ 0 hbB).trans hB, by rw [HS.out, HA.out, hg]; rfl⟩
        case measure => simp [intOf]; omega
    · obtain rfl : j = m := by omega
      go_wp2
      go_ret
      exact ⟨ret_bool (by rw [HO.out, hq, HA.out]; simp [h4]), hE⟩

set_option maxHeartbeats 1000000 in
theorem countedTwo_any (q : Int) {v : Value} {m : Nat} {xs : List Int} (hm : m ≤ 2000000) (w : World) (h : RV w 3 v m xs) :
    Calls Try.prog 56 #[.agg #[.int .i64 q, v], .func (.func 87) #[] #[]] w fun e w' => e = .returned (.tuple #[.int .i64 (if cOk q xs m then cntTo (kAny 9 11 xs) m else 0), .bool (cOk q xs m)]) ∧ Ext w w' := by
  have HV := fun w' (hx : Ext w w') => Lib.hid (isValidCircuit_any q hm w' (h.ext hx))
  obtain ⟨hl, a, cap, rfl, c1, c2, H⟩ := h
  have HH := Lib.hid H
  have HL := Lib.hid hl
  clear H hl
  cases hok : cOk q xs m
  · rw [hok] at HV
    go_enter Try.func56, Try.ntmps56
    go_wp2_with fail
    refine (HV _ (by repeat (first | exact Ext.refl _ | assumption | refine Ext.alloc ?_ _ | refine Ext.drew ?_ | refine Ext.drewN ?_ _ | refine Ext.setCell ?_ (by first | omega | (dsimp only; omega) | (simp; done) | (simp; omega)) _ | refine Ext.trans ?_ (by assumption)))).out.mono ?_
    rintro e w1 ⟨rfl, hx1⟩
    go_wp2
    go_ret2
    exact ⟨rfl, (by repeat (first | exact Ext.refl _ | assumption | refine Ext.alloc ?_ _ | refine Ext.drew ?_ | refine Ext.drewN ?_ _ | refine Ext.setCell ?_ (by first | omega | (dsimp only; omega) | (simp; done) | (simp; omega)) _ | refine Ext.trans ?_ (by assumption)))⟩
  rw [hok] at HV
  go_enter Try.func56, Try.ntmps56
  go_wp2_with fail
  refine (HV _ (by repeat (first | exact Ext.refl _ | assumption | refine Ext.alloc ?_ _ | refine Ext.drew ?_ | refine Ext.drewN ?_ _ | refine Ext.setCell ?_ (by first | omega | (dsimp only; omega) | (simp; done) | (simp; omega)) _ | refine Ext.trans ?_ (by assumption)))).out.mono ?_
  rintro e w1 ⟨rfl, hx1⟩
  obtain ⟨hc1, hf1⟩ := hx1.cells
  have hz1 := hx1.size
  try simp at hz1
  have hs1_0 := sz1 (a := w.heap.size) (b := w1.heap.size) (by omega)
  have hE1 : Ext w w1 := (by repeat (first | exact Ext.refl _ | assumption | refine Ext.alloc ?_ _ | refine Ext.drew ?_ | refine Ext.drewN ?_ _ | refine Ext.setCell ?_ (by first | omega | (dsimp only; omega) | (simp; done) | (simp; omega)) _ | refine Ext.trans ?_ (by assumption)))
  go_wp2
  go_loopw [6, 8, 15] (fun n _ i wr => ∃ j : Nat, j ≤ m ∧ i = .int .i64 j ∧ Ext w wr ∧ n = .int .i64 (cntTo (kAny 9 11 xs) j)) (fun _ _ i _ => m - (intOf i).toNat)
  case atStart => exact ⟨0, by omega, rfl, hE1, rfl⟩
  case round =>
    obtain ⟨j, hj, rfl, hE, rfl⟩ := hrel
    by_cases hlt : j < m
    · have hlt' : (j : Int) < m := by omega
      have HS : Hid (cntTo (kAny 9 11 xs) (j + 1) = cntTo (kAny 9 11 xs) j + (if Wn (at3 xs (j * 3)) 9 11 then 1 else 0)) := rfl
      have hcb := cntTo_bd (kAny 9 11 xs) j
      obtain ⟨b, off, rfl, hbk, hcell⟩ := HH.out (by omega)
      have hbr : b < wr.heap.size := by have := hE.size; omega
      have z0 : wr.cell? ⟨b, off + j * 3, none⟩ = some (.int .i64 (at3 xs (j * 3))) := (hE.cells.1 b (off + (j * 3)) hbk).trans (hcell _ _ (at3_get (by have := HL.out; omega)))
      have z1 : wr.cell? ⟨b, off + j * 3 + 1, none⟩ = some (.int .i64 (at3 xs (j * 3 + 1))) := (hE.cells.1 b (off + (j * 3 + 1)) hbk).trans (hcell _ _ (at3_get (by have := HL.out; omega)))
      have z2 : wr.cell? ⟨b, off + j * 3 + 2, none⟩ = some (.int .i64 (at3 xs (j * 3 + 2))) := (hE.cells.1 b (off + (j * 3 + 2)) hbk).trans (hcell _ _ (at3_get (by have := HL.out; omega)))
      clear hcell
      generalize at3 xs (j * 3) = k0 at *
      generalize at3 xs (j * 3 + 1) = a0 at *
      generalize at3 xs (j * 3 + 2) = b0 at *
      generalize cntTo (kAny 9 11 xs) j = c0 at *
      cases hg : Wn k0 9 11
      all_goals
        go_wp2_with (go_at_call 87; ((with_reducible refine (isTwo_any _ _).mono ?_); rintro e w' ⟨rfl, rfl⟩))
        go_roundw
        case rel => exact ⟨j + 1, by omega, by go_num, (by repeat (first | exact Ext.refl _ | assumption | refine Ext.alloc ?_ _ | refine Ext.drew ?_ | refine Ext.drewN ?_ _ | refine Ext.setCell ?_ (by first | omega | (dsimp only; omega) | (simp; done) | (simp; omega)) _ | refine Ext.trans ?_ (by assumption))), by rw [HS.out, hg]; simp⟩
        case measure => simp [intOf]; omega
    · obtain rfl : j = m := by omega
      go_wp2
      go_ret2
      exact ⟨rfl, hE⟩


open Go.RowKit

/-- the first k cells are copied -/
def CP (zs ys : List Value) (k : Nat) : Prop := ∀ j, j < k → zs[j]? = ys[j]?
theorem CP.snoc {zs ys : List Value} {k k' i : Nat} {u : Value} (h : CP zs ys k) (hk : k < zs.length) (hi : i = k) (hu : ys[k]? = some u) (hk' : k' = k + 1) : CP (zs.set i u) ys k' := by
  subst hi; subst hk'
  intro j hj
  rw [List.getElem?_set]
  split
  · rename_i e; subst e; first | rw [if_pos hk, hu] | rw [hu]
  · exact h j (by omega)
theorem CP.full {zs ys : List Value} {k : Nat} (h : CP zs ys k) (h1 : zs.length = k) (h2 : ys.length = k) : zs = ys := by
  apply List.ext_getElem?
  intro j
  by_cases hj : j < k
  · exact h j hj
  · rw [List.getElem?_eq_none (by omega), List.getElem?_eq_none (by omega)]

theorem info_gate : (Try.prog.info? 47).map (fun i => (i.zero, i.size, i.bytes)) = some (some (.agg #[.int .i64 0, .int .i64 0, .int .i64 0]), 3, 24) := by kernel_rfl


open Go.RowKit
set_option linter.unusedVariables false
set_option linter.unusedSimpArgs false

theorem info_int : (Try.prog.info? 3).map (fun i => (i.zero, i.size, i.bytes)) = some (some (.int .i64 0), 1, 8) := by kernel_rfl


open Go.RowKit
set_option linter.unusedVariables false
set_option linter.unusedSimpArgs false

/-- is x among the first n -/
def hasTo (xs : List Int) (x : Int) (n : Nat) : Bool := !(allTo (fun j => !(at3 xs j == x)) n)
theorem hasTo_succ (xs : List Int) (x : Int) (n : Nat) : hasTo xs x (n + 1) = (hasTo xs x n || at3 xs n == x) := by
  unfold hasTo; rw [allTo_succ]; simp
theorem hasTo_at {xs : List Int} {x : Int} {n k : Nat} (h : (at3 xs k == x) = true) (hk : k < n) : hasTo xs x n = true := by
  unfold hasTo; rw [allTo_false (k := k) (by rw [h]; rfl) hk]; rfl
theorem hasTo_take {xs : List Int} {x : Int} {n k : Nat} (h : n ≤ k) : hasTo (xs.take k) x n = hasTo xs x n := by
  unfold hasTo
  rw [allTo_congr (g := fun j => !(at3 xs j == x))]
  intro j hj
  have : at3 (xs.take k) j = at3 xs j := by simp [at3, List.getD_eq_getElem?_getD, List.getElem?_take, show j < k by omega]
  rw [this]

set_option maxHeartbeats 1000000 in
theorem l1Has_any (x : Int) {v : Value} {m : Nat} {xs : List Int} (hm : m ≤ 2000000) (w : World) (h : RV w 1 v m xs) :
    Calls Try.prog 65 #[v, .int .i64 x] w fun e w' => e = .returned (.bool (hasTo xs x m)) ∧ w = w' := by
  obtain ⟨hl, a, cap, rfl, c1, c2, H⟩ := h
  have HH := Lib.hid H
  have HL := Lib.hid hl
  clear H hl
  go_enter Try.func65, Try.ntmps65
  go_wp2
  go_loop [6, 9] (fun _ i => ∃ j : Nat, j ≤ m ∧ i = .int .i64 j ∧ hasTo xs x j = false) (fun _ i => m - (intOf i).toNat)
  case atStart => exact ⟨0, by omega, rfl, rfl⟩
  case round =>
    obtain ⟨j, hj, rfl, hno⟩ := hrel
    have HA := Lib.hid hno
    clear hno
    by_cases hlt : j < m
    · have hlt' : (j : Int) < m := by omega
      have HS : Hid (hasTo xs x (j + 1) = (hasTo xs x j || at3 xs j == x)) := hasTo_succ xs x j
      have HF : Hid ((at3 xs j == x) = true → hasTo xs x m = true) := fun h => hasTo_at h hlt
      have hE := Ext.refl w
      obtain ⟨b, off, rfl, hbk, hcell⟩ := HH.out (by omega)
      have hbr : b < w.heap.size := by have := hE.size; omega
      have z0 : w.cell? ⟨b, off + j, none⟩ = some (.int .i64 (at3 xs (j))) := (hE.cells.1 b (off + (j)) hbk).trans (hcell _ _ (at3_get (by have := HL.out; omega)))
      clear hcell
      generalize at3 xs j = k0 at *
      cases hk : (k0 == x)
      · go_wp2
        go_round
        case rel => exact ⟨j + 1, by omega, by go_num, by rw [HS.out, HA.out, hk]; rfl⟩
        case measure => simp [intOf]; omega
      · go_wp2
        go_ret
        exact ⟨ret_bool (by rw [HF.out hk]), rfl⟩
    · obtain rfl : j = m := by omega
      go_wp2
      go_ret
      exact ⟨ret_bool (by rw [HA.out]), rfl⟩

set_option maxHeartbeats 1000000 in
theorem index_any (x : Int) {v : Value} {m : Nat} {xs : List Int} (hm : m ≤ 2000000) (w : World) (h : RV w 1 v m xs) :
    Calls Try.prog 51 #[v, .int .i64 x] w fun e w' => (∃ r : Int, e = .returned (.int .i64 r) ∧ ((r = -1 ∧ hasTo xs x m = false) ∨ ∃ j : Nat, r = j ∧ j < m ∧ at3 xs j = x ∧ hasTo xs x j = false)) ∧ w = w' := by
  obtain ⟨hl, a, cap, rfl, c1, c2, H⟩ := h
  have HH := Lib.hid H
  have HL := Lib.hid hl
  clear H hl
  go_enter Try.func51, Try.ntmps51
  go_wp2
  go_loop [5, 8] (fun _ i => ∃ j : Nat, j ≤ m ∧ i = .int .i64 j ∧ hasTo xs x j = false) (fun _ i => m - (intOf i).toNat)
  case atStart => exact ⟨0, by omega, rfl, rfl⟩
  case round =>
    obtain ⟨j, hj, rfl, hno⟩ := hrel
    have HA := Lib.hid hno
    clear hno
    by_cases hlt : j < m
    · have hlt' : (j : Int) < m := by omega
      have HS : Hid (hasTo xs x (j + 1) = (hasTo xs x j || at3 xs j == x)) := hasTo_succ xs x j
      have hE := Ext.refl w
      obtain ⟨b, off, rfl, hbk, hcell⟩ := HH.out (by omega)
      have hbr : b < w.heap.size := by have := hE.size; omega
      have z0 : w.cell? ⟨b, off + j, none⟩ = some (.int .i64 (at3 xs (j))) := (hE.cells.1 b (off + (j)) hbk).trans (hcell _ _ (at3_get (by have := HL.out; omega)))
      clear hcell
      generalize hk0 : at3 xs j = k0 at *
      have HK := Lib.hid hk0
      clear hk0
      cases hk : (x == k0)
      · have hk' : (k0 == x) = false := by rw [beq_eq_false_iff_ne] at hk ⊢; exact fun e => hk e.symm
        go_wp2
        go_round
        case rel => exact ⟨j + 1, by omega, by go_num, by rw [HS.out, HA.out, hk']; rfl⟩
        case measure => simp [intOf]; omega
      · have hk2 : x = k0 := by simpa using hk
        have hk' : Hid (at3 xs j = x) := by unfold Hid; rw [HK.out, hk2]
        clear hk2
        go_wp2
        go_ret
        exact ⟨⟨_, rfl, .inr ⟨j, rfl, hlt, hk'.out, HA.out⟩⟩, rfl⟩
    · obtain rfl : j = m := by omega
      go_wp2
      go_ret
      exact ⟨⟨_, rfl, .inl ⟨rfl, HA.out⟩⟩, rfl⟩

theorem contains_any (x : Int) {v : Value} {m : Nat} {xs : List Int} (hm : m ≤ 2000000) (w : World) (h : RV w 1 v m xs) :
    Calls Try.prog 24 #[v, .int .i64 x] w fun e w' => e = .returned (.bool (hasTo xs x m)) ∧ w = w' := by
  have HI := Lib.hid (index_any x hm w h)
  obtain ⟨_, a, cap, rfl, _⟩ := h
  have HF : Hid (∀ j : Nat, j < m → at3 xs j = x → hasTo xs x m = true) := fun j h1 h2 => hasTo_at (by rw [h2]; simp) h1
  go_enter Try.func24, Try.ntmps24
  go_wp2_with fail
  refine (HI.out).mono ?_
  rintro e w1 ⟨⟨r, rfl, hr⟩, rfl⟩
  rcases hr with ⟨rfl, h1⟩ | ⟨j, rfl, h1, h2, h3⟩
  · go_wp2
    go_ret
    exact ⟨ret_bool (by rw [h1]), rfl⟩
  · have h4 := Lib.hid (HF.out j h1 h2)
    clear h2 h3
    go_wp2
    go_ret
    exact ⟨ret_bool (by rw [h4.out]), rfl⟩

/-- a part from the beginning -/
theorem RV.take {w : World} {b off cap n : Nat} {xs : List Int} (h : RV w 1 (.slice (some ⟨b, off, none⟩) n cap) n xs) (i : Nat) (hi : i ≤ n) : RV w 1 (.slice (some ⟨b, off, none⟩) i cap) i (xs.take i) := by
  obtain ⟨hl, a, c, hv, c1, c2, H⟩ := h
  simp only [Value.slice.injEq] at hv
  obtain ⟨rfl, _, rfl⟩ := hv
  refine ⟨by simp; omega, _, cap, rfl, by omega, c2, fun hp => ?_⟩
  obtain ⟨b', off', e1, e2, e3⟩ := H (by omega)
  refine ⟨b', off', e1, e2, fun j u hu => e3 j u ?_⟩
  simp only [IL, List.map_take] at hu ⊢
  rw [List.getElem?_take] at hu
  split at hu
  · exact hu
  · cases hu
/-- different nodes below 5 -/
def nOk (xs : List Int) (m : Nat) : Bool := allTo (fun i => Wn (at3 xs i) 0 4 && !(hasTo xs (at3 xs i) i)) m


open Go.RowKit Go.Lib
set_option linter.unusedVariables false
set_option linter.unusedSimpArgs false

/-- as RV, the address a plain one -/
def RVs (w : World) (k : Nat) (v : Value) (n : Nat) (xs : List Int) : Prop :=
  xs.length = n * k ∧ ((v = .slice none 0 0 ∧ n = 0) ∨ ∃ (b off cap : Nat), v = .slice (some ⟨b, off, none⟩) n cap ∧ n ≤ cap ∧ cap ≤ maxLen ∧ b < w.heap.size ∧ ∀ j u, (IL xs)[j]? = some u → w.cell? ⟨b, off + j, none⟩ = some u)
theorem RVs.rv {w : World} {k : Nat} {v : Value} {n : Nat} {xs : List Int} (h : RVs w k v n xs) : RV w k v n xs := by
  refine ⟨h.1, ?_⟩
  rcases h.2 with ⟨rfl, rfl⟩ | ⟨b, off, cap, rfl, h1, h2, h3, h4⟩
  · exact ⟨none, 0, rfl, Nat.le_refl _, Nat.zero_le _, fun h => absurd h (by omega)⟩
  · exact ⟨_, cap, rfl, h1, h2, fun _ => ⟨b, off, rfl, h3, h4⟩⟩
theorem RVs.ext {w w' : World} {k : Nat} {v : Value} {n : Nat} {xs : List Int} (h : RVs w k v n xs) (hx : Ext w w') : RVs w' k v n xs := by
  refine ⟨h.1, ?_⟩
  rcases h.2 with h | ⟨b, off, cap, rfl, h1, h2, h3, h4⟩
  · exact .inl h
  · exact .inr ⟨b, off, cap, rfl, h1, h2, by have := hx.size; omega, fun j u hu => (hx.cells.1 b (off + j) h3).trans (h4 j u hu)⟩
theorem RVs.own {w : World} {base : Nat} {e : TypeId} {k : Nat} {v : Value} {n : Nat} {xs : List Int} (h : w.ownsRow base e k v n (IL xs)) (hl : xs.length = n * k) : RVs w k v n xs := by
  refine ⟨hl, ?_⟩
  rcases h.2 with ⟨rfl, rfl⟩ | ⟨g, cap, cur, rfl, hb, hg, h1, h2, h3, h4⟩
  · exact .inl ⟨rfl, rfl⟩
  · refine .inr ⟨g, 0, cap, rfl, h1, h2, (Array.getElem?_eq_some_iff.1 hg).1, fun j u hu => ?_⟩
    have := h.cells (g := g) rfl j u hu
    rwa [show (⟨g, 0, none⟩ : Addr).add j = ⟨g, 0 + j, none⟩ by unfold Addr.add; split <;> simp_all] at this
/-- a part of it -/
theorem rv_part {w : World} {k n b off cap : Nat} {xs : List Int} (hl : xs.length = n * k) (hb : b < w.heap.size) (H : ∀ j u, (IL xs)[j]? = some u → w.cell? ⟨b, off + j, none⟩ = some u) (i m c : Nat) (him : i + m ≤ n) (hc : m ≤ c) (hm : c ≤ maxLen) :
    RV w k (.slice (some ⟨b, off + i * k, none⟩) m c) m ((xs.drop (i * k)).take (m * k)) := by
  have hik : i * k + m * k ≤ n * k := by rw [← Nat.add_mul]; exact Nat.mul_le_mul_right k him
  refine ⟨by simp; omega, _, c, rfl, hc, hm, fun hp => ⟨b, off + i * k, rfl, hb, fun j u hu => ?_⟩⟩
  have : (IL xs)[i * k + j]? = some u := by
    simp only [IL, List.map_take, List.map_drop] at hu ⊢
    rw [List.getElem?_take] at hu
    split at hu
    · rw [List.getElem?_drop] at hu; exact hu
    · cases hu
  have := H _ _ this
  rwa [← Nat.add_assoc] at this

theorem neq_gate (x0 x1 x2 y0 y1 y2 : Int) (w : World) : (binOp .neq 47 (.agg #[.int .i64 x0, .int .i64 x1, .int .i64 x2]) (.agg #[.int .i64 y0, .int .i64 y1, .int .i64 y2])).run Try.prog w = .ok (.bool (!((x0 == y0) && ((x1 == y1) && (x2 == y2))))) w := by
  by_cases h0 : x0 = y0
  · subst h0
    by_cases h1 : x1 = y1
    · subst h1
      by_cases h2 : x2 = y2
      · subst h2
        go_simp
      · go_simp
    · go_simp
  · go_simp
theorem eql_gate (x0 x1 x2 y0 y1 y2 : Int) (w : World) : (binOp .eql 47 (.agg #[.int .i64 x0, .int .i64 x1, .int .i64 x2]) (.agg #[.int .i64 y0, .int .i64 y1, .int .i64 y2])).run Try.prog w = .ok (.bool ((x0 == y0) && ((x1 == y1) && (x2 == y2)))) w := by
  by_cases h0 : x0 = y0
  · subst h0
    by_cases h1 : x1 = y1
    · subst h1
      by_cases h2 : x2 = y2
      · subst h2
        go_simp
      · go_simp
    · go_simp
  · go_simp

/-- gates are equal, one by one -/
def eqAt (xs ys : List Int) (j : Nat) : Bool := (at3 xs (j * 3) == at3 ys (j * 3)) && ((at3 xs (j * 3 + 1) == at3 ys (j * 3 + 1)) && (at3 xs (j * 3 + 2) == at3 ys (j * 3 + 2)))
def eqG (xs ys : List Int) (n : Nat) : Bool := allTo (eqAt xs ys) n

set_option maxHeartbeats 2000000 in
theorem equalG_any {v1 v2 : Value} {n m : Nat} {xs ys : List Int} (hn : n ≤ 2000000) (hm : m ≤ 2000000) (w : World) (h1 : RV w 3 v1 n xs) (h2 : RV w 3 v2 m ys) :
    Calls Try.prog 31 #[v1, v2] w fun e w' => e = .returned (.bool (decide (n = m) && eqG xs ys n)) ∧ Ext w w' := by
  obtain ⟨hlx, a1, cap1, rfl, c1, c2, H1⟩ := h1
  obtain ⟨hly, a2, cap2, rfl, c3, c4, H2⟩ := h2
  have HX := Lib.hid H1
  have HY := Lib.hid H2
  have HLX := Lib.hid hlx
  have HLY := Lib.hid hly
  clear H1 H2 hlx hly
  by_cases hnm : n = m
  case neg =>
    have hnm' : ¬ ((n : Int) = m) := by omega
    have HD : Hid (decide (n = m) = false) := by simp [Hid, hnm]
    clear hnm
    go_enter Try.func31, Try.ntmps31
    go_wp2
    go_ret
    rw [HD.out]
    exact ⟨rfl, (by repeat (first | exact Ext.refl _ | assumption | refine Ext.alloc ?_ _ | refine Ext.drew ?_ | refine Ext.drewN ?_ _ | refine Ext.setCell ?_ (by first | omega | (dsimp only; omega) | (simp; done) | (simp; omega)) _ | refine Ext.trans ?_ (by assumption)))⟩
  subst hnm
  go_enter Try.func31, Try.ntmps31
  go_wp2
  go_loopw [5, 13] (fun _ i wr => ∃ j : Nat, j ≤ n ∧ i = .int .i64 j ∧ Hid (eqG xs ys j = true) ∧ Ext w wr) (fun _ i _ => n - (intOf i).toNat)
  case atStart => exact ⟨0, by omega, rfl, rfl, (by repeat (first | exact Ext.refl _ | assumption | refine Ext.alloc ?_ _ | refine Ext.drew ?_ | refine Ext.drewN ?_ _ | refine Ext.setCell ?_ (by first | omega | (dsimp only; omega) | (simp; done) | (simp; omega)) _ | refine Ext.trans ?_ (by assumption)))⟩
  case round =>
    obtain ⟨j, hj, rfl, HO, hE⟩ := hrel
    by_cases hlt : j < n
    · have hlt' : (j : Int) < n := by omega
      have HS : Hid (eqG xs ys (j + 1) = (eqG xs ys j && ((at3 xs (j * 3) == at3 ys (j * 3)) && ((at3 xs (j * 3 + 1) == at3 ys (j * 3 + 1)) && (at3 xs (j * 3 + 2) == at3 ys (j * 3 + 2)))))) := rfl
      have HF : Hid (((at3 xs (j * 3) == at3 ys (j * 3)) && ((at3 xs (j * 3 + 1) == at3 ys (j * 3 + 1)) && (at3 xs (j * 3 + 2) == at3 ys (j * 3 + 2)))) = false → eqG xs ys n = false) := fun h => allTo_false (f := eqAt xs ys) h hlt
      obtain ⟨bx, offx, rfl, hbkx, hcellx⟩ := HX.out (by omega)
      have hbrx : bx < wr.heap.size := by have := hE.size; omega
      have zx0 : wr.cell? ⟨bx, offx + j * 3, none⟩ = some (.int .i64 (at3 xs (j * 3))) := (hE.cells.1 bx (offx + (j * 3)) hbkx).trans (hcellx _ _ (at3_get (by have := HLX.out; omega)))
      have zx1 : wr.cell? ⟨bx, offx + j * 3 + 1, none⟩ = some (.int .i64 (at3 xs (j * 3 + 1))) := (hE.cells.1 bx (offx + (j * 3 + 1)) hbkx).trans (hcellx _ _ (at3_get (by have := HLX.out; omega)))
      have zx2 : wr.cell? ⟨bx, offx + j * 3 + 2, none⟩ = some (.int .i64 (at3 xs (j * 3 + 2))) := (hE.cells.1 bx (offx + (j * 3 + 2)) hbkx).trans (hcellx _ _ (at3_get (by have := HLX.out; omega)))
      clear hcellx
      obtain ⟨bz, offz, rfl, hbkz, hcellz⟩ := HY.out (by omega)
      have hbrz : bz < wr.heap.size := by have := hE.size; omega
      have zz0 : wr.cell? ⟨bz, offz + j * 3, none⟩ = some (.int .i64 (at3 ys (j * 3))) := (hE.cells.1 bz (offz + (j * 3)) hbkz).trans (hcellz _ _ (at3_get (by have := HLY.out; omega)))
      have zz1 : wr.cell? ⟨bz, offz + j * 3 + 1, none⟩ = some (.int .i64 (at3 ys (j * 3 + 1))) := (hE.cells.1 bz (offz + (j * 3 + 1)) hbkz).trans (hcellz _ _ (at3_get (by have := HLY.out; omega)))
      have zz2 : wr.cell? ⟨bz, offz + j * 3 + 2, none⟩ = some (.int .i64 (at3 ys (j * 3 + 2))) := (hE.cells.1 bz (offz + (j * 3 + 2)) hbkz).trans (hcellz _ _ (at3_get (by have := HLY.out; omega)))
      clear hcellz
      generalize at3 xs (j * 3) = x0 at *
      generalize at3 xs (j * 3 + 1) = x1 at *
      generalize at3 xs (j * 3 + 2) = x2 at *
      generalize at3 ys (j * 3) = y0 at *
      generalize at3 ys (j * 3 + 1) = y1 at *
      generalize at3 ys (j * 3 + 2) = y2 at *
      have HE := Lib.hid hE
      have hneq := fun w => neq_gate x0 x1 x2 y0 y1 y2 w
      generalize hg : ((x0 == y0) && ((x1 == y1) && (x2 == y2))) = g at *
      clear hg
      go_wp2
      refine wp_region_madeC (m := 26) (by kernel_rfl) (by kernel_rfl) rfl (fun hxc => ?_)
      repeat (refine mw_quiet ?_; apply Exists.intro; refine ⟨fun σ => ?_, ?_⟩; (first | (go_simp; rfl) | fail); simp only [Act.put, List.setIfInBounds_toArray, List.set_cons_succ, List.set_cons_zero, List.nil_append, List.cons_append])
      refine ⟨by kernel_rfl, fun σ w2 hF2 => ?_⟩
      have hx2 := hF2.ext
      clear hF2 hxc
      obtain ⟨hc2, hf2⟩ := hx2.cells
      have hz2 := hx2.size
      try simp at hz2
      clear hneq
      cases g
      · go_wp2
        go_ret
        exact ⟨ret_bool (by simp [HF.out]), HE.out.trans hx2⟩
      · go_wp2
        go_roundw
        case rel => exact ⟨j + 1, by omega, by go_num, by unfold Hid; rw [HS.out, HO.out]; rfl, HE.out.trans hx2⟩
        case measure => simp [intOf]; omega
    · obtain rfl : j = n := by omega
      go_wp2
      go_ret
      rw [HO.out]
      exact ⟨ret_bool (by simp), hE⟩


open Go.RowKit Go.Lib
set_option linter.unusedVariables false
set_option linter.unusedSimpArgs false

def eqC (p : Int) (n : Nat) (xs : List Int) (q : Int) (m : Nat) (ys : List Int) : Bool := (p == q) && (decide (n = m) && eqG xs ys n)

set_option maxHeartbeats 2000000 in
theorem equalCircuits_any (p q : Int) {v1 v2 : Value} {n m : Nat} {xs ys : List Int} (hn : n ≤ 2000000) (hm : m ≤ 2000000) (w : World) (h1 : RV w 3 v1 n xs) (h2 : RV w 3 v2 m ys) :
    Calls Try.prog 10 #[.agg #[.int .i64 p, v1], .agg #[.int .i64 q, v2]] w fun e w' => e = .returned (.bool (eqC p n xs q m ys)) ∧ Ext w w' := by
  have HC := fun w' (hx : Ext w w') => Lib.hid (equalG_any hn hm w' (h1.ext hx) (h2.ext hx))
  obtain ⟨_, a1, c1, rfl, _, _, _⟩ := h1
  obtain ⟨_, a2, c2, rfl, _, _, _⟩ := h2
  have HV : Hid (eqC p n xs q m ys = ((p == q) && (decide (n = m) && eqG xs ys n))) := rfl
  generalize (decide (n = m) && eqG xs ys n) = g at *
  generalize eqC p n xs q m ys = V at *
  by_cases hpq : p = q
  · subst hpq
    obtain rfl : V = g := by rw [HV.out]; simp
    clear HV
    go_enter Try.func10, Try.ntmps10
    go_wp2_with fail
    refine (HC _ (by repeat (first | (with_reducible refine Ext.setCell ?_ (by first | (simp; done) | (simp; omega)) _) | with_reducible refine Ext.alloc ?_ _ | with_reducible refine Ext.drew ?_ | with_reducible refine Ext.drewN ?_ _ | with_reducible assumption | with_reducible exact Ext.refl _ | with_reducible refine Ext.trans ?_ (by with_reducible assumption)))).out.mono ?_
    rintro e w1 ⟨rfl, hx1⟩
    go_wp2
    go_ret
    exact ⟨rfl, (by repeat (first | (with_reducible refine Ext.setCell ?_ (by first | (simp; done) | (simp; omega)) _) | with_reducible refine Ext.alloc ?_ _ | with_reducible refine Ext.drew ?_ | with_reducible refine Ext.drewN ?_ _ | with_reducible assumption | with_reducible exact Ext.refl _ | with_reducible refine Ext.trans ?_ (by with_reducible assumption)))⟩
  · have hb : (p == q) = false := by simpa using hpq
    obtain rfl : V = false := by rw [HV.out, hb]; rfl
    clear HV
    go_enter Try.func10, Try.ntmps10
    go_wp2
    go_ret
    exact ⟨rfl, (by repeat (first | (with_reducible refine Ext.setCell ?_ (by first | (simp; done) | (simp; omega)) _) | with_reducible refine Ext.alloc ?_ _ | with_reducible refine Ext.drew ?_ | with_reducible refine Ext.drewN ?_ _ | with_reducible assumption | with_reducible exact Ext.refl _ | with_reducible refine Ext.trans ?_ (by with_reducible assumption)))⟩

set_option maxHeartbeats 2000000 in
theorem s_equalCircuits_any (p q : Int) {v1 v2 : Value} {n m : Nat} {xs ys : List Int} (hn : n ≤ 2000000) (hm : m ≤ 2000000) (w : World) (h1 : RV w 3 v1 n xs) (h2 : RV w 3 v2 m ys) :
    Calls Try.prog 41 #[.agg #[.int .i64 p, v1], .agg #[.int .i64 q, v2]] w fun e w' => e = .returned (.bool (eqC p n xs q m ys)) ∧ Ext w w' := by
  obtain ⟨hlx, a1, c1, rfl, p1, p2, hhx⟩ := h1
  obtain ⟨hly, a2, c2, rfl, p3, p4, hhy⟩ := h2
  have HX := Lib.hid hhx
  have HY := Lib.hid hhy
  have HLX := Lib.hid hlx
  have HLY := Lib.hid hly
  clear hhx hhy hlx hly
  have HV : Hid (eqC p n xs q m ys = ((p == q) && (decide (n = m) && eqG xs ys n))) := rfl
  generalize eqC p n xs q m ys = V at *
  by_cases hpq : p = q
  case neg =>
    have hb : (p == q) = false := by simpa using hpq
    obtain rfl : V = false := by rw [HV.out, hb]; rfl
    clear HV
    go_enter Try.func41, Try.ntmps41
    go_wp2
    go_ret
    exact ⟨rfl, (by repeat (first | (with_reducible refine Ext.setCell ?_ (by first | (simp; done) | (simp; omega)) _) | with_reducible refine Ext.alloc ?_ _ | with_reducible refine Ext.drew ?_ | with_reducible refine Ext.drewN ?_ _ | with_reducible assumption | with_reducible exact Ext.refl _ | with_reducible refine Ext.trans ?_ (by with_reducible assumption)))⟩
  subst hpq
  by_cases hnm : n = m
  case neg =>
    have hnm' : ¬ ((n : Int) = m) := by omega
    obtain rfl : V = false := by rw [HV.out]; simp [hnm]
    clear HV
    go_enter Try.func41, Try.ntmps41
    go_wp2
    go_ret
    exact ⟨rfl, (by repeat (first | (with_reducible refine Ext.setCell ?_ (by first | (simp; done) | (simp; omega)) _) | with_reducible refine Ext.alloc ?_ _ | with_reducible refine Ext.drew ?_ | with_reducible refine Ext.drewN ?_ _ | with_reducible assumption | with_reducible exact Ext.refl _ | with_reducible refine Ext.trans ?_ (by with_reducible assumption)))⟩
  subst hnm
  have HV2 : Hid (V = eqG xs ys n) := by unfold Hid; rw [HV.out]; simp
  clear HV
  obtain ⟨w1, hw1⟩ : ∃ w1, w1 = (w.alloc (.cells #[.int .i64 p, .slice a1 n c1] 25 (0, 0))).alloc (.cells #[.int .i64 p, .slice a2 n c2] 25 (0, 0)) := ⟨_, rfl⟩
  have HA1 : Hid (w1.heap[w.heap.size]? = some (.cells #[.int .i64 p, .slice a1 n c1] 25 (0, 0))) := by rw [hw1]; exact heap_alloc_lt (heap_alloc_new _ _)
  have HB1 : Hid (w1.heap[w.heap.size + 1]? = some (.cells #[.int .i64 p, .slice a2 n c2] 25 (0, 0))) := by rw [hw1]; exact heap_alloc_at _ _ _ (by simp)
  have HE1 : Hid (Ext w w1) := by rw [hw1]; exact ((Ext.refl w).alloc _).alloc _
  have lA1 := (Array.getElem?_eq_some_iff.1 HA1.out).1
  have lB1 := (Array.getElem?_eq_some_iff.1 HB1.out).1
  have zA1 := fun k => cell_of_row _ _ k _ _ _ HA1.out
  have zB1 := fun k => cell_of_row _ _ k _ _ _ HB1.out
  go_enter Try.func41, Try.ntmps41
  go_upto_region 1 with fail
  rw [← hw1]
  clear hw1
  go_wp2
  clear zA1 zB1
  go_loopw [5, 23] (fun _ i wr => ∃ j : Nat, j ≤ n ∧ i = .int .i64 j ∧ Hid (eqG xs ys j = true) ∧ Ext w1 wr) (fun _ i _ => n - (intOf i).toNat)
  case atStart => exact ⟨0, by omega, rfl, rfl, Ext.refl _⟩
  case round =>
    obtain ⟨j, hj, rfl, HO, hE⟩ := hrel
    have HEr := Lib.hid hE
    have HEw := Lib.hid (HE1.out.trans hE)
    have hA := (hE.heap lA1).trans HA1.out
    have hB := (hE.heap lB1).trans HB1.out
    have zA := fun k => cell_of_row _ _ k _ _ _ hA
    have zB := fun k => cell_of_row _ _ k _ _ _ hB
    have lA := (Array.getElem?_eq_some_iff.1 hA).1
    have lB := (Array.getElem?_eq_some_iff.1 hB).1
    clear hE hA hB
    by_cases hlt : j < n
    · have hlt' : (j : Int) < n := by omega
      have HS : Hid (eqG xs ys (j + 1) = (eqG xs ys j && ((at3 xs (j * 3) == at3 ys (j * 3)) && ((at3 xs (j * 3 + 1) == at3 ys (j * 3 + 1)) && (at3 xs (j * 3 + 2) == at3 ys (j * 3 + 2)))))) := rfl
      have HF : Hid (((at3 xs (j * 3) == at3 ys (j * 3)) && ((at3 xs (j * 3 + 1) == at3 ys (j * 3 + 1)) && (at3 xs (j * 3 + 2) == at3 ys (j * 3 + 2)))) = false → eqG xs ys n = false) := fun h => allTo_false (f := eqAt xs ys) h hlt
      have hE := HEw.out
      obtain ⟨bx, offx, rfl, hbkx, hcellx⟩ := HX.out (by omega)
      have hbrx : bx < wr.heap.size := by have := hE.size; omega
      have zx0 : wr.cell? ⟨bx, offx + j * 3, none⟩ = some (.int .i64 (at3 xs (j * 3))) := (hE.cells.1 bx (offx + (j * 3)) hbkx).trans (hcellx _ _ (at3_get (by have := HLX.out; omega)))
      have zx1 : wr.cell? ⟨bx, offx + j * 3 + 1, none⟩ = some (.int .i64 (at3 xs (j * 3 + 1))) := (hE.cells.1 bx (offx + (j * 3 + 1)) hbkx).trans (hcellx _ _ (at3_get (by have := HLX.out; omega)))
      have zx2 : wr.cell? ⟨bx, offx + j * 3 + 2, none⟩ = some (.int .i64 (at3 xs (j * 3 + 2))) := (hE.cells.1 bx (offx + (j * 3 + 2)) hbkx).trans (hcellx _ _ (at3_get (by have := HLX.out; omega)))
      clear hcellx
      obtain ⟨bz, offz, rfl, hbkz, hcellz⟩ := HY.out (by omega)
      have hbrz : bz < wr.heap.size := by have := hE.size; omega
      have zz0 : wr.cell? ⟨bz, offz + j * 3, none⟩ = some (.int .i64 (at3 ys (j * 3))) := (hE.cells.1 bz (offz + (j * 3)) hbkz).trans (hcellz _ _ (at3_get (by have := HLY.out; omega)))
      have zz1 : wr.cell? ⟨bz, offz + j * 3 + 1, none⟩ = some (.int .i64 (at3 ys (j * 3 + 1))) := (hE.cells.1 bz (offz + (j * 3 + 1)) hbkz).trans (hcellz _ _ (at3_get (by have := HLY.out; omega)))
      have zz2 : wr.cell? ⟨bz, offz + j * 3 + 2, none⟩ = some (.int .i64 (at3 ys (j * 3 + 2))) := (hE.cells.1 bz (offz + (j * 3 + 2)) hbkz).trans (hcellz _ _ (at3_get (by have := HLY.out; omega)))
      clear hcellz
      generalize at3 xs (j * 3) = x0 at *
      generalize at3 xs (j * 3 + 1) = x1 at *
      generalize at3 xs (j * 3 + 2) = x2 at *
      generalize at3 ys (j * 3) = y0 at *
      generalize at3 ys (j * 3 + 1) = y1 at *
      generalize at3 ys (j * 3 + 2) = y2 at *
      clear hE
      have hneq := fun w => neq_gate x0 x1 x2 y0 y1 y2 w
      generalize hg : ((x0 == y0) && ((x1 == y1) && (x2 == y2))) = g at *
      clear hg
      go_wp2
      refine wp_region_madeC (m := 38) (by kernel_rfl) (by kernel_rfl) rfl (fun hxc => ?_)
      repeat (refine mw_quiet ?_; apply Exists.intro; refine ⟨fun σ => ?_, ?_⟩; (first | (go_simp; rfl) | fail); simp only [Act.put, List.setIfInBounds_toArray, List.set_cons_succ, List.set_cons_zero, List.nil_append, List.cons_append])
      refine ⟨by kernel_rfl, fun σ w2 hF2 => ?_⟩
      have hx2 := hF2.ext
      clear hF2 hxc
      obtain ⟨hc2, hf2⟩ := hx2.cells
      have hz2 := hx2.size
      try simp at hz2
      clear hneq
      cases g
      · go_wp2
        go_ret
        exact ⟨ret_bool (by rw [HV2.out]; simp [HF.out]), HEw.out.trans hx2⟩
      · go_wp2
        go_roundw
        case rel => exact ⟨j + 1, by omega, by go_num, by unfold Hid; rw [HS.out, HO.out]; rfl, HEr.out.trans hx2⟩
        case measure => simp [intOf]; omega
    · obtain rfl : j = n := by omega
      have hnlt : ¬ ((j : Int) < j) := by omega
      go_wp2
      go_ret
      exact ⟨ret_bool (by rw [HV2.out, HO.out]), HEw.out⟩

end Go.Proofs.Ytbddgeoaaklgpaa
