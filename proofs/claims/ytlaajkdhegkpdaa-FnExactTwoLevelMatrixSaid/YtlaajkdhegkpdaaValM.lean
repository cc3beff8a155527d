/- Which matrices are valid; the cells of a matrix. -/
import Derived.Test.YtlaajkdhegkpdaaHasM
namespace Go.Proofs.Ytlaajkdhegkpdaa
open Go.RowKit
set_option linter.unusedVariables false
set_option linter.unusedSimpArgs false

def dyAt (xs : List Int) (j : Nat) : R4 := ⟨at3 xs (j * 5), at3 xs (j * 5 + 1), at3 xs (j * 5 + 2), at3 xs (j * 5 + 3)⟩
def exAt (xs : List Int) (j : Nat) : Int := at3 xs (j * 5 + 4)
def mOk (xs : List Int) (m : Nat) : Bool := allTo (fun i => GD (dyAt xs i) (exAt xs i)) m
theorem mOk_succ (xs : List Int) (j : Nat) : mOk xs (j + 1) = (mOk xs j && GD ⟨at3 xs (j * 5), at3 xs (j * 5 + 1), at3 xs (j * 5 + 2), at3 xs (j * 5 + 3)⟩ (at3 xs (j * 5 + 4))) := rfl
theorem mOk_bad {xs : List Int} {j n : Nat} (h : GD ⟨at3 xs (j * 5), at3 xs (j * 5 + 1), at3 xs (j * 5 + 2), at3 xs (j * 5 + 3)⟩ (at3 xs (j * 5 + 4)) = false) (hj : j < n) : mOk xs n = false := allTo_false (k := j) h hj
theorem mOk_at {xs : List Int} {n j : Nat} (h : mOk xs n = true) (hj : j < n) : GD (dyAt xs j) (exAt xs j) = true := allTo_at h hj
def mGood (r c : Int) (n : Nat) (xs : List Int) : Bool := dimB r && (dimB c && (((n : Int) == r * c) && mOk xs n))
theorem dim_bd {n : Int} (h : dimB n = true) : 1 ≤ n ∧ n ≤ 32 := by
  have := (dimB_iff n).1 h
  omega
theorem mGood_facts {r c : Int} {n : Nat} {xs : List Int} (h : mGood r c n xs = true) : dimB r = true ∧ dimB c = true ∧ (n : Int) = r * c ∧ mOk xs n = true := by
  simp only [mGood, Bool.and_eq_true, beq_iff_eq] at h
  exact ⟨h.1, h.2.1, h.2.2.1, h.2.2.2⟩

end Go.Proofs.Ytlaajkdhegkpdaa
