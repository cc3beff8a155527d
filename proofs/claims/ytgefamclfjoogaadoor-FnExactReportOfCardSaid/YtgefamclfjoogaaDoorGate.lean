/- Gates and circuits: validity, counts, copies. -/
import Derived.Test.YtgefamclfjoogaaDoorGateL
import Derived.Test.YtgefamclfjoogaaDoorRoot2
import Derived.Test.YtgefamclfjoogaaDoorSlGate
import Derived.OwnWalk
namespace Go.Proofs.YtgefamclfjoogaaDoor
open Go.RowKit

theorem kinds (k : Int) : (Wn k 1 8 = true ∧ Wn k 9 11 = false ∧ Wn k 1 12 = true ∧ (k == 12) = false) ∨ (Wn k 1 8 = false ∧ Wn k 9 11 = true ∧ Wn k 1 12 = true ∧ (k == 12) = false) ∨
    (Wn k 1 8 = false ∧ Wn k 9 11 = false ∧ Wn k 1 12 = true ∧ (k == 12) = true) ∨ (Wn k 1 8 = false ∧ Wn k 9 11 = false ∧ Wn k 1 12 = false ∧ (k == 12) = false) := by
  simp only [Wn]
  by_cases h1 : 1 ≤ k <;> by_cases h2 : k ≤ 8 <;> by_cases h3 : k ≤ 11 <;> by_cases h4 : k ≤ 12 <;> simp <;> omega

theorem isTwo_any (k : Int) (w : World) : Calls Tryd.prog 57 #[.int .i64 k] w fun e w' => e = .returned (.bool (Wn k 9 11)) ∧ w = w' := by
  go_enter Tryd.func57, Tryd.ntmps57
  go_wp2_with (go_at_call 41; ((with_reducible refine (within_any _ _ _ _).mono ?_); rintro e w' ⟨rfl, rfl⟩))
  go_ret
  exact ⟨rfl, rfl⟩

theorem isT_any (k : Int) (w : World) : Calls Tryd.prog 58 #[.int .i64 k] w fun e w' => e = .returned (.bool (Wn k 7 8)) ∧ w = w' := by
  by_cases h7 : k = 7
  · subst h7
    go_enter Tryd.func58, Tryd.ntmps58
    go_wp2
    go_ret
    exact ⟨rfl, rfl⟩
  by_cases h8 : k = 8
  · subst h8
    go_enter Tryd.func58, Tryd.ntmps58
    go_wp2
    go_ret
    exact ⟨rfl, rfl⟩
  have e7 : (k == 7) = false := by simpa using h7
  have e8 : (k == 8) = false := by simpa using h8
  have e : Wn k 7 8 = false := by rw [Wn_not]; omega
  rw [e]
  go_enter Tryd.func58, Tryd.ntmps58
  go_wp2
  go_ret
  exact ⟨rfl, rfl⟩

theorem small_any (b : Bool) (w : World) : Calls Tryd.prog 47 #[.bool b] w fun e w' => e = .returned (.int .i64 (if b then 1 else 0)) ∧ w = w' := by
  cases b
  all_goals
    go_enter Tryd.func47, Tryd.ntmps47
    go_wp2
    go_ret
    exact ⟨rfl, rfl⟩

set_option maxHeartbeats 1000000 in
theorem isValidGate_any (n k a b : Int) (w : World) :
    Calls Tryd.prog 44 #[.int .i64 n, .agg #[.int .i64 k, .int .i64 a, .int .i64 b]] w fun e w' => e = .returned (.bool (Wn n 1 5 && gOk n k a b)) ∧ Ext w w' := by
  cases h0 : Wn n 1 5
  · go_enter Tryd.func44, Tryd.ntmps44
    go_wp2_with (go_at_call 41; ((with_reducible refine (within_any _ _ _ _).mono ?_); rintro e w' ⟨rfl, rfl⟩))
    go_ret
    exact ⟨rfl, (by repeat (first | exact Ext.refl _ | assumption | refine Ext.alloc ?_ _ | refine Ext.drew ?_ | refine Ext.drewN ?_ _ | refine Ext.setCell ?_ (by first | omega | (dsimp only; omega) | (simp; done) | (simp; omega)) _ | refine Ext.trans ?_ (by assumption)))⟩
  have hn := Wn_iff.1 h0
  rcases kinds k with ⟨k1, k2, k3, k4⟩ | ⟨k1, k2, k3, k4⟩ | ⟨k1, k2, k3, k4⟩ | ⟨k1, k2, k3, k4⟩
  · cases ha : Wn a 0 (n - 1)
    all_goals
      go_enter Tryd.func44, Tryd.ntmps44
      go_wp2_with (first | (go_at_call 41; ((with_reducible refine (within_any _ _ _ _).mono ?_); rintro e w' ⟨rfl, rfl⟩)) | (go_at_call 57; ((with_reducible refine (isTwo_any _ _).mono ?_); rintro e w' ⟨rfl, rfl⟩)))
      go_ret
      exact ⟨ret_bool (by simp [gOk, k1, ha]), (by repeat (first | exact Ext.refl _ | assumption | refine Ext.alloc ?_ _ | refine Ext.drew ?_ | refine Ext.drewN ?_ _ | refine Ext.setCell ?_ (by first | omega | (dsimp only; omega) | (simp; done) | (simp; omega)) _ | refine Ext.trans ?_ (by assumption)))⟩
  · cases ha : Wn a 0 (n - 1) <;> cases hb : Wn b 0 (n - 1)
    all_goals
      go_enter Tryd.func44, Tryd.ntmps44
      go_wp2_with (first | (go_at_call 41; ((with_reducible refine (within_any _ _ _ _).mono ?_); rintro e w' ⟨rfl, rfl⟩)) | (go_at_call 57; ((with_reducible refine (isTwo_any _ _).mono ?_); rintro e w' ⟨rfl, rfl⟩)))
      go_ret
      exact ⟨ret_bool (by simp [gOk, k1, k2, ha, hb]), (by repeat (first | exact Ext.refl _ | assumption | refine Ext.alloc ?_ _ | refine Ext.drew ?_ | refine Ext.drewN ?_ _ | refine Ext.setCell ?_ (by first | omega | (dsimp only; omega) | (simp; done) | (simp; omega)) _ | refine Ext.trans ?_ (by assumption)))⟩
  · cases ha : (a == 0)
    all_goals
      go_enter Tryd.func44, Tryd.ntmps44
      go_wp2_with (first | (go_at_call 41; ((with_reducible refine (within_any _ _ _ _).mono ?_); rintro e w' ⟨rfl, rfl⟩)) | (go_at_call 57; ((with_reducible refine (isTwo_any _ _).mono ?_); rintro e w' ⟨rfl, rfl⟩)))
      go_ret
      exact ⟨ret_bool (by simp [gOk, k1, k2, k4, ha]), (by repeat (first | exact Ext.refl _ | assumption | refine Ext.alloc ?_ _ | refine Ext.drew ?_ | refine Ext.drewN ?_ _ | refine Ext.setCell ?_ (by first | omega | (dsimp only; omega) | (simp; done) | (simp; omega)) _ | refine Ext.trans ?_ (by assumption)))⟩
  · go_enter Tryd.func44, Tryd.ntmps44
    go_wp2_with (first | (go_at_call 41; ((with_reducible refine (within_any _ _ _ _).mono ?_); rintro e w' ⟨rfl, rfl⟩)) | (go_at_call 57; ((with_reducible refine (isTwo_any _ _).mono ?_); rintro e w' ⟨rfl, rfl⟩)))
    go_ret
    exact ⟨ret_bool (by simp [gOk, k1, k2, k4]), (by repeat (first | exact Ext.refl _ | assumption | refine Ext.alloc ?_ _ | refine Ext.drew ?_ | refine Ext.drewN ?_ _ | refine Ext.setCell ?_ (by first | omega | (dsimp only; omega) | (simp; done) | (simp; omega)) _ | refine Ext.trans ?_ (by assumption)))⟩

set_option maxHeartbeats 1000000 in
theorem l4Gate_any (n k a b : Int) (hn : 1 ≤ n ∧ n ≤ 5) (w : World) :
    Calls Tryd.prog 32 #[.int .i64 n, .agg #[.int .i64 k, .int .i64 a, .int .i64 b]] w fun e w' => e = .returned (.bool (gOk n k a b)) ∧ Ext w w' := by
  rcases kinds k with ⟨k1, k2, k3, k4⟩ | ⟨k1, k2, k3, k4⟩ | ⟨k1, k2, k3, k4⟩ | ⟨k1, k2, k3, k4⟩
  · cases ha : Wn a 0 (n - 1)
    all_goals
      go_enter Tryd.func32, Tryd.ntmps32
      go_wp2_with (go_at_call 31; ((with_reducible refine (l1In_any _ _ _ _).mono ?_); rintro e w' ⟨rfl, rfl⟩))
      go_ret
      exact ⟨ret_bool (by simp [gOk, k1, ha]), (by repeat (first | exact Ext.refl _ | assumption | refine Ext.alloc ?_ _ | refine Ext.drew ?_ | refine Ext.drewN ?_ _ | refine Ext.setCell ?_ (by first | omega | (dsimp only; omega) | (simp; done) | (simp; omega)) _ | refine Ext.trans ?_ (by assumption)))⟩
  · cases ha : Wn a 0 (n - 1) <;> cases hb : Wn b 0 (n - 1)
    all_goals
      go_enter Tryd.func32, Tryd.ntmps32
      go_wp2_with (go_at_call 31; ((with_reducible refine (l1In_any _ _ _ _).mono ?_); rintro e w' ⟨rfl, rfl⟩))
      go_ret
      exact ⟨ret_bool (by simp [gOk, k1, k2, ha, hb]), (by repeat (first | exact Ext.refl _ | assumption | refine Ext.alloc ?_ _ | refine Ext.drew ?_ | refine Ext.drewN ?_ _ | refine Ext.setCell ?_ (by first | omega | (dsimp only; omega) | (simp; done) | (simp; omega)) _ | refine Ext.trans ?_ (by assumption)))⟩
  · cases ha : (a == 0)
    all_goals
      go_enter Tryd.func32, Tryd.ntmps32
      go_wp2_with (go_at_call 31; ((with_reducible refine (l1In_any _ _ _ _).mono ?_); rintro e w' ⟨rfl, rfl⟩))
      go_ret
      exact ⟨ret_bool (by simp [gOk, k1, k2, k4, ha]), (by repeat (first | exact Ext.refl _ | assumption | refine Ext.alloc ?_ _ | refine Ext.drew ?_ | refine Ext.drewN ?_ _ | refine Ext.setCell ?_ (by first | omega | (dsimp only; omega) | (simp; done) | (simp; omega)) _ | refine Ext.trans ?_ (by assumption)))⟩
  · go_enter Tryd.func32, Tryd.ntmps32
    go_wp2_with (go_at_call 31; ((with_reducible refine (l1In_any _ _ _ _).mono ?_); rintro e w' ⟨rfl, rfl⟩))
    go_ret
    exact ⟨ret_bool (by simp [gOk, k1, k2, k4]), (by repeat (first | exact Ext.refl _ | assumption | refine Ext.alloc ?_ _ | refine Ext.drew ?_ | refine Ext.drewN ?_ _ | refine Ext.setCell ?_ (by first | omega | (dsimp only; omega) | (simp; done) | (simp; omega)) _ | refine Ext.trans ?_ (by assumption)))⟩

end Go.Proofs.YtgefamclfjoogaaDoor
