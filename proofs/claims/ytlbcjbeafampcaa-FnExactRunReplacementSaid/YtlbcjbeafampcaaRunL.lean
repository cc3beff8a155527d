/- Runs of gates: the plain lists. -/
import Derived.Test.YtlbcjbeafampcaaQub
namespace Go.Proofs.Ytlbcjbeafampcaa
open Go.RowKit

def insAt (xs qs : List Int) (m i : Nat) : Bool := insQ qs m (at3 xs (i * 3)) (at3 xs (i * 3 + 1)) (at3 xs (i * 3 + 2))
def touAt (xs qs : List Int) (m i : Nat) : Bool := touQ qs m (at3 xs (i * 3)) (at3 xs (i * 3 + 1)) (at3 xs (i * 3 + 2))
/-- the run from a gate on -/
def runL (xs qs : List Int) (m : Nat) : Nat → Nat → Nat → List Int
  | 0, _, _ => []
  | f + 1, i, c => if 6 ≤ c then [] else if insAt xs qs m i then (i : Int) :: runL xs qs m f (i + 1) (c + 1) else if touAt xs qs m i then [] else runL xs qs m f (i + 1) c
theorem runL_full {xs qs : List Int} {m f i c : Nat} (h : 6 ≤ c) : runL xs qs m f i c = [] := by
  cases f with
  | zero => rfl
  | succ f => unfold runL; rw [if_pos h]
theorem runL_in {xs qs : List Int} {m i c n : Nat} (h : ¬ 6 ≤ c) (hi : i < n) (h2 : insAt xs qs m i = true) : runL xs qs m (n - i) i c = (i : Int) :: runL xs qs m (n - (i + 1)) (i + 1) (c + 1) := by
  rw [show n - i = (n - (i + 1)) + 1 by omega]
  conv => lhs; unfold runL
  rw [if_neg h, if_pos h2]
theorem runL_stop {xs qs : List Int} {m i c n : Nat} (h : ¬ 6 ≤ c) (hi : i < n) (h2 : insAt xs qs m i = false) (h3 : touAt xs qs m i = true) : runL xs qs m (n - i) i c = [] := by
  rw [show n - i = (n - (i + 1)) + 1 by omega]
  unfold runL
  rw [if_neg h, if_neg (by rw [h2]; simp), if_pos h3]
theorem runL_skip {xs qs : List Int} {m i c n : Nat} (h : ¬ 6 ≤ c) (hi : i < n) (h2 : insAt xs qs m i = false) (h3 : touAt xs qs m i = false) : runL xs qs m (n - i) i c = runL xs qs m (n - (i + 1)) (i + 1) c := by
  rw [show n - i = (n - (i + 1)) + 1 by omega]
  conv => lhs; unfold runL
  rw [if_neg h, if_neg (by rw [h2]; simp), if_neg (by rw [h3]; simp)]
theorem runL_len (xs qs : List Int) (m : Nat) : ∀ f i c, (runL xs qs m f i c).length ≤ 6 - c := by
  intro f
  induction f with
  | zero => intro i c; simp [runL]
  | succ f ih =>
    intro i c
    unfold runL
    split
    · simp
    · split
      · have := ih (i + 1) (c + 1)
        simp only [List.length_cons]
        omega
      · split
        · simp
        · exact ih (i + 1) c
def raOk (q : Int) (xs : List Int) (n : Nat) (at' : Int) (ys : List Int) (m : Nat) : Bool := cOk q xs n && (Wn m 1 2 && (risQ 0 (q - 1) ys m && (Wn at' 0 (n - 1) && insAt xs ys m at'.toNat)))
def raL (q : Int) (xs : List Int) (n : Nat) (at' : Int) (ys : List Int) (m : Nat) : List Int := if raOk q xs n at' ys m then runL xs ys m (n - at'.toNat) at'.toNat 0 else []
theorem raL_no {q : Int} {xs : List Int} {n : Nat} {at' : Int} {ys : List Int} {m : Nat} (h : raOk q xs n at' ys m = false) : raL q xs n at' ys m = [] := by
  unfold raL; rw [h]; rfl
theorem raL_yes {q : Int} {xs : List Int} {n : Nat} {at' : Int} {ys : List Int} {m : Nat} (h : raOk q xs n at' ys m = true) : raL q xs n at' ys m = runL xs ys m (n - at'.toNat) at'.toNat 0 := by
  unfold raL; rw [if_pos h]
theorem raL_len (q : Int) (xs : List Int) (n : Nat) (at' : Int) (ys : List Int) (m : Nat) : (raL q xs n at' ys m).length ≤ 6 := by
  unfold raL
  split
  · exact Nat.le_trans (runL_len _ _ _ _ _ _) (by omega)
  · simp
theorem cOk_bd {q : Int} {xs : List Int} {n : Nat} (h : cOk q xs n = true) : 1 ≤ q ∧ q ≤ 5 ∧ n ≤ 400 := by
  unfold cOk at h
  simp only [Bool.and_eq_true, decide_eq_true_eq] at h
  have := Wn_iff.1 h.1
  omega

end Go.Proofs.Ytlbcjbeafampcaa
