/- Dimensions of matrices. -/
import Derived.Test.YtlaajkdhegkpdaaCopM
import Derived.Test.YtlaajkdhegkpdaaRoot2
import Derived.Laws.AppendOwnNone
namespace Go.Proofs.Ytlaajkdhegkpdaa
open Go.RowKit
set_option linter.unusedVariables false
set_option linter.unusedSimpArgs false

/-- is x among the first n -/
def hasTo (xs : List Int) (x : Int) (n : Nat) : Bool := !(allTo (fun j => !(at3 xs j == x)) n)
theorem hasTo_succ (xs : List Int) (x : Int) (n : Nat) : hasTo xs x (n + 1) = (hasTo xs x n || at3 xs n == x) := by
  unfold hasTo; rw [allTo_succ]; simp
theorem hasTo_at {xs : List Int} {x : Int} {n k : Nat} (h : (at3 xs k == x) = true) (hk : k < n) : hasTo xs x n = true := by
  unfold hasTo; rw [allTo_false (k := k) (by rw [h]; rfl) hk]; rfl

def dimB (n : Int) : Bool := hasTo [1, 2, 4, 8, 16, 32] n 6
theorem dimB_iff (n : Int) : dimB n = true ↔ n = 1 ∨ n = 2 ∨ n = 4 ∨ n = 8 ∨ n = 16 ∨ n = 32 := by
  simp [dimB, hasTo, allTo, at3]
  omega
theorem dimB_not (n : Int) : dimB n = false ↔ ¬ (n = 1 ∨ n = 2 ∨ n = 4 ∨ n = 8 ∨ n = 16 ∨ n = 32) := by
  rw [← dimB_iff]; simp

theorem isDim_any (n : Int) (w : World) : Calls Try.prog 28 #[.int .i64 n] w fun e w' => e = .returned (.bool (dimB n)) ∧ w = w' := by
  cases h : Wn n 1 32
  · have HD : Hid (dimB n = false) := by
      have := Wn_not.1 h
      exact (dimB_not n).2 (by omega)
    rw [HD.out]
    go_enter Try.func28, Try.ntmps28
    go_wp2_with (go_at_call 27; ((with_reducible refine (within_any _ _ _ _).mono ?_); rintro e w' ⟨rfl, rfl⟩))
    go_ret
    exact ⟨rfl, rfl⟩
  · have hb := Wn_iff.1 h
    have hc : n = 1 ∨ n = 2 ∨ n = 3 ∨ n = 4 ∨ n = 5 ∨ n = 6 ∨ n = 7 ∨ n = 8 ∨ n = 9 ∨ n = 10 ∨ n = 11 ∨ n = 12 ∨ n = 13 ∨ n = 14 ∨ n = 15 ∨ n = 16 ∨ n = 17 ∨ n = 18 ∨ n = 19 ∨ n = 20 ∨ n = 21 ∨ n = 22 ∨ n = 23 ∨ n = 24 ∨ n = 25 ∨ n = 26 ∨ n = 27 ∨ n = 28 ∨ n = 29 ∨ n = 30 ∨ n = 31 ∨ n = 32 := by omega
    clear hb
    rcases hc with rfl | rfl | rfl | rfl | rfl | rfl | rfl | rfl | rfl | rfl | rfl | rfl | rfl | rfl | rfl | rfl | rfl | rfl | rfl | rfl | rfl | rfl | rfl | rfl | rfl | rfl | rfl | rfl | rfl | rfl | rfl | rfl
    all_goals
      go_enter Try.func28, Try.ntmps28
      go_wp2_with (go_at_call 27; ((with_reducible refine (within_any _ _ _ _).mono ?_); rintro e w' ⟨rfl, rfl⟩))
      go_ret
      exact ⟨rfl, rfl⟩

end Go.Proofs.Ytlaajkdhegkpdaa
