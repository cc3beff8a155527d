/- Counting the numbers with a given absolute square: the program's walk. -/
import Derived.Test.YtbffcpnpdpgfeaaNormL
import Derived.Test.YtbffcpnpdpgfeaaRoot2
namespace Go.Proofs.Ytbffcpnpdpgfeaa
open Go.RowKit
set_option linter.unusedVariables false
set_option linter.unusedSimpArgs false

theorem grown_of_ext {W W' : World} {B : Nat} (h : Ext W W') : W.grownBy W' (some B) := by
  have h' : Below W.heap.size W W' := h
  exact ⟨h'.os, h'.tape, h'.output, h'.size, fun k hk _ => h'.block k hk⟩
theorem fill1 {W : World} {B : Nat} {t : TypeId} {cs : Array Value} (h : W.heap[B]? = some (.cells cs t (0, 0))) (i : Nat) (u : Value) :
    (W.setCell ⟨B, i, none⟩ u).heap[B]? = some (.cells (cs.setIfInBounds i u) t (0, 0)) ∧ W.grownBy (W.setCell ⟨B, i, none⟩ u) (some B) := by
  refine ⟨?_, ?_⟩
  · simp [World.setCell, Array.getElem?_modify, h]
  · refine ⟨rfl, rfl, rfl, by rw [World.size_setCell]; exact Nat.le_refl _, fun k hk hne => ?_⟩
    rw [Below.heap_setCell _ _ _ _ (fun e => hne (by rw [e]))]

/-- the program's numbers: what its loops say -/
theorem cL_neg {P Q a b c : Int} (h : P - a * a - b * b - c * c < 0) : cL P Q a b c = [] := by unfold cL; rw [if_pos h]
theorem cL_pos {P Q a b c : Int} (h : ¬ P - a * a - b * b - c * c < 0) : cL P Q a b c = eL P Q a b c (-isq (P - a * a - b * b - c * c)) ++ if isq (P - a * a - b * b - c * c) = 0 then [] else eL P Q a b c (isq (P - a * a - b * b - c * c)) := by unfold cL; rw [if_neg h]
theorem eL_no1 {P Q a b c d : Int} (h : (isq (P - a * a - b * b - c * c) * isq (P - a * a - b * b - c * c) == P - a * a - b * b - c * c) = false) : eL P Q a b c d = [] := by
  unfold eL; rw [if_neg]; rintro ⟨h1, _⟩; rw [beq_eq_false_iff_ne] at h; exact h h1
theorem eL_no2 {P Q a b c d : Int} (h : (a * b + b * c + c * d - d * a == Q) = false) : eL P Q a b c d = [] := by
  unfold eL; rw [if_neg]; rintro ⟨_, h1⟩; rw [beq_eq_false_iff_ne] at h; exact h h1
theorem eL_yes {P Q a b c d : Int} (h1 : (isq (P - a * a - b * b - c * c) * isq (P - a * a - b * b - c * c) == P - a * a - b * b - c * c) = true) (h2 : (a * b + b * c + c * d - d * a == Q) = true) : eL P Q a b c d = [(a, b, c, d)] := by
  unfold eL; rw [if_pos]; exact ⟨by simpa using h1, by simpa using h2⟩
theorem flatR_step {α : Type} (f : Int → List α) (x m : Int) (h : x ≤ m) : flatR f x (m + 1 - x).toNat = f x ++ flatR f (x + 1) (m + 1 - (x + 1)).toNat := by
  rw [show (m + 1 - x).toNat = (m + 1 - (x + 1)).toNat + 1 by omega, flatR_succ]
theorem flatR_done {α : Type} (f : Int → List α) (x m : Int) (h : ¬ x ≤ m) : flatR f x (m + 1 - x).toNat = [] := by
  rw [show (m + 1 - x).toNat = 0 by omega, flatR_zero]
theorem full_range {α : Type} (f : Int → List α) (m : Int) : flatR f (-m) (2 * m + 1).toNat = flatR f (-m) (m + 1 - -m).toNat := by
  rw [show (2 * m + 1).toNat = (m + 1 - -m).toNat by omega]

/-- the state of the count -/
def CS (w0 : World) (X B : Nat) (P Q : Int) (wr : World) (k : Nat) : Prop :=
  Ext w0 wr ∧ wr.heap[X]? = some (.cells #[.int .i64 P, .int .i64 Q] 53 (0, 0)) ∧ wr.heap[B]? = some (.cells #[.int .i64 k] 3 (0, 0))
theorem CS.ext {w0 wr wr' : World} {X B : Nat} {P Q : Int} {k : Nat} (h : CS w0 X B P Q wr k) (hx : Ext wr wr') : CS w0 X B P Q wr' k :=
  ⟨h.1.trans hx, (hx.heap (Array.getElem?_eq_some_iff.1 h.2.1).1).trans h.2.1, (hx.heap (Array.getElem?_eq_some_iff.1 h.2.2).1).trans h.2.2⟩
theorem CS.more {w0 wr wr' : World} {X B : Nat} {P Q : Int} {k : Nat} (h : CS w0 X B P Q wr k) (hB : w0.heap.size ≤ B) (hne : X ≠ B) (hg : wr.grownBy wr' (some B)) (hc : wr'.heap[B]? = some (.cells #[.int .i64 ((k : Int) + 1)] 3 (0, 0))) : CS w0 X B P Q wr' (k + 1) :=
  ⟨Ext.grown h.1 hg (fun j hj => by cases hj; exact hB), (hg.block X (Array.getElem?_eq_some_iff.1 h.2.1).1 (fun e => hne (by injection e))).trans h.2.1, by rw [hc]; simp⟩

/-- what is left of the last parts -/
def remL (P Q a b c e r : Int) : Nat → List (Int × Int × Int × Int)
  | 0 => eL P Q a b c e ++ if r = 0 then [] else eL P Q a b c r
  | 1 => eL P Q a b c r
  | _ => []
theorem neg_mul_self (r : Int) : -r * -r = r * r := Int.neg_mul_neg r r
theorem bd3 {a b c d m : Int} (hm : 0 ≤ m ∧ m ≤ 20) (ha : -m ≤ a ∧ a ≤ m) (hb : -m ≤ b ∧ b ≤ m) (hc : -m ≤ c ∧ c ≤ m) (hd : -20 ≤ d ∧ d ≤ 20) :
    (-400 ≤ a * b ∧ a * b ≤ 400) ∧ (-400 ≤ b * c ∧ b * c ≤ 400) ∧ (-400 ≤ c * d ∧ c * d ≤ 400) ∧ (-400 ≤ d * a ∧ d * a ≤ 400) :=
  ⟨mul_bd (A := 20) (B := 20) (by omega) (by omega) (by omega) (by omega), mul_bd (A := 20) (B := 20) (by omega) (by omega) (by omega) (by omega), mul_bd (A := 20) (B := 20) (by omega) (by omega) (by omega) (by omega), mul_bd (A := 20) (B := 20) (by omega) (by omega) (by omega) (by omega)⟩
theorem bd2 {a m : Int} (hm : 0 ≤ m ∧ m ≤ 20) (ha : -m ≤ a ∧ a ≤ m) : 0 ≤ a * a ∧ a * a ≤ 400 := sq_bd (A := 20) (by omega) (by omega)

end Go.Proofs.Ytbffcpnpdpgfeaa
