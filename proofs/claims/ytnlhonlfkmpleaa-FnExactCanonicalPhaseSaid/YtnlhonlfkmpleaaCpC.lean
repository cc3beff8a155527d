/- Canonical phases: comparisons of the program; the first number that is not zero. -/
import Derived.Test.YtnlhonlfkmpleaaCpT
namespace Go.Proofs.Ytnlhonlfkmpleaa
open Go.RowKit Go.Lib
set_option linter.unusedVariables false
set_option linter.unusedSimpArgs false

theorem isNaN_any (x : Int) (w : World) : Calls Try.prog 148 #[.int .i64 x] w fun en w' => en = .returned (.bool false) ∧ w = w' := by
  go_enter Try.func148, Try.ntmps148
  go_wp2
  go_ret
  exact ⟨rfl, rfl⟩
theorem cmpInt_any (x y : Int) (w : World) : Calls Try.prog 147 #[.int .i64 x, .int .i64 y] w fun en w' => en = .returned (.int .i64 (cmpZ x y)) ∧ w = w' := by
  have HC : Hid (cmpZ x y = if x < y then -1 else if y < x then 1 else 0) := rfl
  have HN := fun x w' => Lib.hid (isNaN_any x w')
  by_cases h1 : x < y
  · have HV : Hid (cmpZ x y = -1) := HC.out.trans (if_pos h1)
    generalize cmpZ x y = v at *
    obtain rfl := HV.out
    clear HC HV
    go_enter Try.func147, Try.ntmps147
    go_wp2_with fail
    refine ((HN _ _).out).mono ?_
    rintro e w' ⟨rfl, rfl⟩
    go_wp2_with fail
    refine ((HN _ _).out).mono ?_
    rintro e w' ⟨rfl, rfl⟩
    go_wp2
    go_ret
    exact ⟨rfl, rfl⟩
  by_cases h2 : y < x
  · have HV : Hid (cmpZ x y = 1) := HC.out.trans ((if_neg h1).trans (if_pos h2))
    generalize cmpZ x y = v at *
    obtain rfl := HV.out
    clear HC HV
    go_enter Try.func147, Try.ntmps147
    go_wp2_with fail
    refine ((HN _ _).out).mono ?_
    rintro e w' ⟨rfl, rfl⟩
    go_wp2_with fail
    refine ((HN _ _).out).mono ?_
    rintro e w' ⟨rfl, rfl⟩
    go_wp2
    go_ret
    exact ⟨rfl, rfl⟩
  · have HV : Hid (cmpZ x y = 0) := HC.out.trans ((if_neg h1).trans (if_neg h2))
    generalize cmpZ x y = v at *
    obtain rfl := HV.out
    clear HC HV
    go_enter Try.func147, Try.ntmps147
    go_wp2_with fail
    refine ((HN _ _).out).mono ?_
    rintro e w' ⟨rfl, rfl⟩
    go_wp2_with fail
    refine ((HN _ _).out).mono ?_
    rintro e w' ⟨rfl, rfl⟩
    go_wp2
    go_ret
    exact ⟨rfl, rfl⟩

set_option maxHeartbeats 2000000 in
theorem compareS_any {v1 v2 : Value} {n : Nat} {xs ys : List Int} (hn : n ≤ 2000000) (w : World) (h1 : RV w 1 v1 n xs) (h2 : RV w 1 v2 n ys) :
    Calls Try.prog 135 #[v1, v2] w fun e w' => e = .returned (.int .i64 (cmpTo xs ys n)) ∧ Ext w w' := by
  obtain ⟨hl1, a1, cap1, rfl, p1, p2, H1⟩ := h1
  obtain ⟨hl2, a2, cap2, rfl, p3, p4, H2⟩ := h2
  have HX := Lib.hid H1
  have HY := Lib.hid H2
  have HLX := Lib.hid hl1
  have HLY := Lib.hid hl2
  clear H1 H2 hl1 hl2 p1 p2 p3 p4
  have HM := fun x y w' => Lib.hid (cmpInt_any x y w')
  go_enter Try.func135, Try.ntmps135
  go_wp2
  go_loopw [5, 6, 7, 8, 11] (fun _ _ _ _ q wr => ∃ j : Nat, j ≤ n ∧ q = .int .i64 j ∧ Hid (cmpTo xs ys j = 0) ∧ Ext w wr) (fun _ _ _ _ q _ => n - (intOf q).toNat)
  case atStart => exact ⟨0, by omega, rfl, rfl, (by repeat (first | exact Ext.refl _ | assumption | refine Ext.alloc ?_ _ | refine Ext.drew ?_ | refine Ext.drewN ?_ _ | refine Ext.setCell ?_ (by first | omega | (dsimp only; omega) | (simp; done) | (simp; omega)) _ | refine Ext.trans ?_ (by assumption)))⟩
  case round =>
    obtain ⟨j, hj, rfl, HO, hE⟩ := hrel
    by_cases hlt : j < n
    · have hlt' : (j : Int) < n := by omega
      have HS : Hid (cmpTo xs ys (j + 1) = if cmpTo xs ys j = 0 then cmpZ (at3 xs j) (at3 ys j) else cmpTo xs ys j) := rfl
      have HK : Hid (cmpTo xs ys (j + 1) ≠ 0 → cmpTo xs ys n = cmpTo xs ys (j + 1)) := fun h => by
        obtain ⟨d, rfl⟩ : ∃ d, n = j + 1 + d := ⟨n - j - 1, by omega⟩
        exact cmpTo_keep h d
      obtain ⟨bx, offx, rfl, hbkx, hcellx⟩ := HX.out (by omega)
      have hbrx : bx < wr.heap.size := by have := hE.size; omega
      have zx0 : wr.cell? ⟨bx, offx + j, none⟩ = some (.int .i64 (at3 xs (j))) := (hE.cells.1 bx (offx + (j)) hbkx).trans (hcellx _ _ (at3_get (by have := HLX.out; omega)))
      clear hcellx
      obtain ⟨bz, offz, rfl, hbkz, hcellz⟩ := HY.out (by omega)
      have hbrz : bz < wr.heap.size := by have := hE.size; omega
      have zz0 : wr.cell? ⟨bz, offz + j, none⟩ = some (.int .i64 (at3 ys (j))) := (hE.cells.1 bz (offz + (j)) hbkz).trans (hcellz _ _ (at3_get (by have := HLY.out; omega)))
      clear hcellz
      generalize at3 xs j = x0 at *
      generalize at3 ys j = y0 at *
      have HC := HM x0 y0
      have HS2 : Hid (cmpTo xs ys (j + 1) = cmpZ x0 y0) := HS.out.trans (if_pos HO.out)
      generalize cmpZ x0 y0 = v at *
      clear HS HM
      by_cases hv : v = 0
      · subst hv
        go_wp2_with fail
        refine (HC _).out.mono ?_
        rintro e w2 ⟨rfl, rfl⟩
        go_wp2
        go_roundw
        case rel => exact ⟨j + 1, by omega, by go_num, HS2, hE⟩
        case measure => simp [intOf]; omega
      · have HF := Lib.hid ((HK.out (by rw [HS2.out]; exact hv)).trans HS2.out)
        go_wp2_with fail
        refine (HC _).out.mono ?_
        rintro e w2 ⟨rfl, rfl⟩
        go_wp2
        go_ret
        rw [HF.out]
        exact ⟨rfl, hE⟩
    · obtain rfl : j = n := by omega
      go_wp2
      go_ret
      rw [HO.out]
      exact ⟨rfl, hE⟩

theorem rv_lit4 {w : World} {B : Nat} {t : TypeId} {a b c d : Int} (h : w.heap[B]? = some (.cells #[.int .i64 a, .int .i64 b, .int .i64 c, .int .i64 d] t (0, 0))) : RV w 1 (.slice (some ⟨B, 0, none⟩) 4 4) 4 [a, b, c, d] := by
  refine ⟨rfl, _, _, rfl, Nat.le_refl _, by decide, fun _ => ⟨B, 0, rfl, (Array.getElem?_eq_some_iff.1 h).1, fun j u hu => ?_⟩⟩
  rw [Nat.zero_add, cell_of_row _ _ _ _ _ _ h]
  simpa [IL] using hu

set_option maxHeartbeats 2000000 in
theorem compareRings_any (X Y : R4) (w : World) :
    Calls Try.prog 98 #[.agg #[.int .i64 X.a, .int .i64 X.b, .int .i64 X.c, .int .i64 X.d], .agg #[.int .i64 Y.a, .int .i64 Y.b, .int .i64 Y.c, .int .i64 Y.d]] w fun en w' =>
      en = .returned (.int .i64 (cmpTo [X.a, X.b, X.c, X.d] [Y.a, Y.b, Y.c, Y.d] 4)) ∧ Ext w w' := by
  go_enter Try.func98, Try.ntmps98
  go_wp2_with fail
  refine (compareS_any (n := 4) (xs := [X.a, X.b, X.c, X.d]) (ys := [Y.a, Y.b, Y.c, Y.d]) (by omega) _ (rv_lit4 (heap_alloc_lt (heap_alloc_at _ _ _ (by simp)))) (rv_lit4 (heap_alloc_at _ _ _ (by simp)))).mono ?_
  rintro e w1 ⟨rfl, hx1⟩
  go_wp2
  go_ret
  exact ⟨rfl, (by repeat (first | exact Ext.refl _ | assumption | refine Ext.alloc ?_ _ | refine Ext.drew ?_ | refine Ext.drewN ?_ _ | refine Ext.setCell ?_ (by first | omega | (dsimp only; omega) | (simp; done) | (simp; omega)) _ | refine Ext.trans ?_ (by assumption)))⟩

theorem nzCell_any (a b c d e : Int) (w : World) :
    Calls Try.prog 96 #[.agg #[.int .i64 a, .int .i64 b, .int .i64 c, .int .i64 d, .int .i64 e]] w fun en w' => en = .returned (.bool (!((a == 0) && ((b == 0) && ((c == 0) && ((d == 0) && (e == 0))))))) ∧ Ext w w' := by
  go_enter Try.func96, Try.ntmps96
  go_wp2
  all_goals
    go_ret
    exact ⟨ret_bool (by simp [*]), (by repeat (first | exact Ext.refl _ | assumption | refine Ext.alloc ?_ _ | refine Ext.drew ?_ | refine Ext.drewN ?_ _ | refine Ext.setCell ?_ (by first | omega | (dsimp only; omega) | (simp; done) | (simp; omega)) _ | refine Ext.trans ?_ (by assumption)))⟩

end Go.Proofs.Ytnlhonlfkmpleaa
