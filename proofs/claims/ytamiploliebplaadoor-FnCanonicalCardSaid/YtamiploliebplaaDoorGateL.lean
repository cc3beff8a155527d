/- Gates: the plain predicates. -/
import Derived.Test.YtamiploliebplaaDoorArg
namespace Go.Proofs.YtamiploliebplaaDoor
open Go.RowKit

def allTo (f : Nat → Bool) : Nat → Bool
  | 0 => true
  | n + 1 => allTo f n && f n
theorem allTo_succ (f : Nat → Bool) (n : Nat) : allTo f (n + 1) = (allTo f n && f n) := rfl
theorem allTo_false {f : Nat → Bool} {k : Nat} (h : f k = false) : ∀ {n : Nat}, k < n → allTo f n = false := by
  intro n
  induction n with
  | zero => intro h; omega
  | succ n ih =>
    intro hk
    rw [allTo_succ]
    by_cases e : k = n
    · subst e; rw [h, Bool.and_false]
    · rw [ih (by omega)]; rfl
theorem allTo_at {f : Nat → Bool} {n k : Nat} (h : allTo f n = true) (hk : k < n) : f k = true := by
  cases hf : f k with
  | true => rfl
  | false => rw [allTo_false hf hk] at h; cases h
theorem allTo_congr {f g : Nat → Bool} : ∀ {n : Nat}, (∀ k, k < n → f k = g k) → allTo f n = allTo g n := by
  intro n
  induction n with
  | zero => intro _; rfl
  | succ n ih =>
    intro h
    rw [allTo_succ, allTo_succ, ih (fun k hk => h k (by omega)), h n (by omega)]
def cntTo (f : Nat → Bool) : Nat → Int
  | 0 => 0
  | n + 1 => cntTo f n + (if f n then 1 else 0)
theorem cntTo_succ (f : Nat → Bool) (n : Nat) : cntTo f (n + 1) = cntTo f n + (if f n then 1 else 0) := rfl
theorem cntTo_bd (f : Nat → Bool) : ∀ n : Nat, 0 ≤ cntTo f n ∧ cntTo f n ≤ n := by
  intro n
  induction n with
  | zero => exact ⟨Int.le_refl _, Int.le_refl _⟩
  | succ n ih =>
    rw [cntTo_succ]
    split <;> omega

/-- the cells of an element -/
def at3 (xs : List Int) (j : Nat) : Int := xs.getD j 0
theorem at3_get {xs : List Int} {j : Nat} (h : j < xs.length) : (IL xs)[j]? = some (.int .i64 (at3 xs j)) := by
  rw [il_get h]
  simp [at3, h]
/-- is a gate valid for n qubits (n is one of 1 .. 5) -/
def gOk (n k a b : Int) : Bool :=
  if Wn k 1 8 then Wn a 0 (n - 1) && (b == 0) else if Wn k 9 11 then Wn a 0 (n - 1) && (Wn b 0 (n - 1) && (a != b)) else k == 12 && (a == 0 && b == 0)
def gAll (n : Int) (xs : List Int) (m : Nat) : Bool := allTo (fun j => gOk n (at3 xs (j * 3)) (at3 xs (j * 3 + 1)) (at3 xs (j * 3 + 2))) m
def kAny (lo hi : Int) (xs : List Int) : Nat → Bool := fun j => Wn (at3 xs (j * 3)) lo hi
/-- a circuit is valid -/
def cOk (q : Int) (xs : List Int) (m : Nat) : Bool := Wn q 1 5 && (decide (m ≤ 400) && gAll q xs m)

end Go.Proofs.YtamiploliebplaaDoor
