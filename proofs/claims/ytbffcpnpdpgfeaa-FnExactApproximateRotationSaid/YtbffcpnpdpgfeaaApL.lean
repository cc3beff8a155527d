/- ApproximateRotation: the first candidate whose norm equation has a solution (plain). -/
import Derived.Test.YtbffcpnpdpgfeaaCdW
import Derived.Test.YtbffcpnpdpgfeaaNormE
import Derived.Test.YtbffcpnpdpgfeaaNormS
namespace Go.Proofs.Ytbffcpnpdpgfeaa
open Go.RowKit
set_option linter.unusedVariables false
set_option linter.unusedSimpArgs false

/-- what is left for the other coefficient -/
def lfP (c : Cx) (u : Q4) : Int := c.pw - smq u
def lfQ (u : Q4) : Int := -(sqV u.a u.b u.c u.d)
def apS (c : Cx) (u : Q4) : Bool := (fstN (lfP c u) (lfQ u)).isSome
/-- the first with a solution -/
def fstU (c : Cx) : List Q4 → Option Q4
  | [] => none
  | u :: l => if apS c u then some u else fstU c l
theorem fstU_skip {c : Cx} {l : List Q4} : ∀ {j : Nat}, (∀ i (h : i < l.length), i < j → apS c l[i] = false) → fstU c l = fstU c (l.drop j) := by
  induction l with
  | nil => intro j _; simp
  | cons u l ih =>
    intro j h
    cases j with
    | zero => rfl
    | succ j =>
      have h0 := h 0 (by simp) (by omega)
      simp only [List.getElem_cons_zero] at h0
      rw [fstU, h0]
      simp only [List.drop_succ_cons]
      exact ih fun i hi hij => by have := h (i + 1) (by simp; omega) (by omega); simpa using this
/-- from k on, fuel steps -/
noncomputable def apV (x y n num den : Int) : Nat → Nat → Option (Q4 × Nat)
  | 0, _ => none
  | f + 1, k => if cdOk x y n k num den then (match fstU (cdC x y n k) (cdR x y n k num den) with | some u => some (u, k) | none => apV x y n num den f (k + 1)) else none

end Go.Proofs.Ytbffcpnpdpgfeaa
