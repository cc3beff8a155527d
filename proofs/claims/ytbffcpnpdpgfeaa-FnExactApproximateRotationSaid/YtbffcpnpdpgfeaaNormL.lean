/- All numbers with a given absolute square, in lexicographic order: the plain lists. -/
import Derived.Test.YtbffcpnpdpgfeaaRoot
namespace Go.Proofs.Ytbffcpnpdpgfeaa
open Go.RowKit

/-- all of a range, one after the other -/
def flatR {α : Type} (f : Int → List α) : Int → Nat → List α
  | _, 0 => []
  | lo, n + 1 => f lo ++ flatR f (lo + 1) n
theorem flatR_succ {α : Type} (f : Int → List α) (lo : Int) (n : Nat) : flatR f lo (n + 1) = f lo ++ flatR f (lo + 1) n := rfl
theorem flatR_zero {α : Type} (f : Int → List α) (lo : Int) : flatR f lo 0 = [] := rfl
theorem flatR_append {α : Type} (f : Int → List α) (n2 : Nat) : ∀ (n1 : Nat) (lo : Int), flatR f lo (n1 + n2) = flatR f lo n1 ++ flatR f (lo + n1) n2 := by
  intro n1
  induction n1 with
  | zero => intro lo; simp [flatR]
  | succ n ih =>
    intro lo
    rw [show n + 1 + n2 = (n + n2) + 1 by omega]
    simp only [flatR_succ, List.append_assoc]
    rw [ih, show lo + 1 + (n : Int) = lo + ((n + 1 : Nat) : Int) by omega]
theorem flatR_nil {α : Type} (f : Int → List α) : ∀ (n : Nat) (lo : Int), (∀ x, lo ≤ x → x < lo + n → f x = []) → flatR f lo n = [] := by
  intro n
  induction n with
  | zero => intro _ _; rfl
  | succ n ih =>
    intro lo h
    rw [flatR_succ, h lo (by omega) (by omega), ih (lo + 1) (fun x h1 h2 => h x (by omega) (by omega))]
    rfl
theorem flatR_pad {α : Type} (f : Int → List α) {k m : Int} (h0 : 0 ≤ k) (hk : k ≤ m) (h : ∀ x, x < -k ∨ k < x → f x = []) : flatR f (-m) (2 * m + 1).toNat = flatR f (-k) (2 * k + 1).toNat := by
  rw [show (2 * m + 1).toNat = (m - k).toNat + ((2 * k + 1).toNat + (m - k).toNat) by omega, flatR_append, flatR_append]
  rw [flatR_nil f _ (-m) (fun x h1 h2 => h x (by omega)), flatR_nil f (m - k).toNat (-m + ((m - k).toNat : Int) + ((2 * k + 1).toNat : Int)) (fun x h1 h2 => h x (by omega))]
  rw [show -m + ((m - k).toNat : Int) = -k by omega]
  simp
theorem flatR_len {α : Type} (f : Int → List α) (B : Nat) (h : ∀ x, (f x).length ≤ B) : ∀ (n : Nat) (lo : Int), (flatR f lo n).length ≤ n * B := by
  intro n
  induction n with
  | zero => intro _; simp [flatR]
  | succ n ih =>
    intro lo
    rw [flatR_succ, List.length_append, Nat.succ_mul]
    have := ih (lo + 1)
    have := h lo
    omega

/-- the number with a given last part, if it is one -/
def eL (P Q a b c d : Int) : List (Int × Int × Int × Int) :=
  if isq (P - a * a - b * b - c * c) * isq (P - a * a - b * b - c * c) = P - a * a - b * b - c * c ∧ a * b + b * c + c * d - d * a = Q then [(a, b, c, d)] else []
/-- those with three given parts -/
def cL (P Q a b c : Int) : List (Int × Int × Int × Int) :=
  if P - a * a - b * b - c * c < 0 then [] else
  eL P Q a b c (-isq (P - a * a - b * b - c * c)) ++ if isq (P - a * a - b * b - c * c) = 0 then [] else eL P Q a b c (isq (P - a * a - b * b - c * c))
def bL (P Q a b : Int) : List (Int × Int × Int × Int) := flatR (cL P Q a b) (-isq P) (2 * isq P + 1).toNat
def aL (P Q a : Int) : List (Int × Int × Int × Int) := flatR (bL P Q a) (-isq P) (2 * isq P + 1).toNat
/-- all of them -/
def nL (P Q : Int) : List (Int × Int × Int × Int) := flatR (aL P Q) (-isq P) (2 * isq P + 1).toNat

theorem sq_mono {a k : Int} (hk : 0 ≤ k) (h : a < -k ∨ k < a) : (k + 1) * (k + 1) ≤ a * a := by
  rcases h with h | h
  · have := Int.mul_le_mul (a := k + 1) (b := k + 1) (c := -a) (d := -a) (by omega) (by omega) (by omega) (by omega)
    rwa [Int.neg_mul_neg] at this
  · exact Int.mul_le_mul (a := k + 1) (b := k + 1) (c := a) (d := a) (by omega) (by omega) (by omega) (by omega)
theorem sq_nn (a : Int) : 0 ≤ a * a := by
  rcases Int.le_total 0 a with h | h
  · exact Int.mul_nonneg h h
  · have := Int.mul_nonneg (a := -a) (b := -a) (by omega) (by omega)
    rwa [Int.neg_mul_neg] at this
theorem sq_in {a m : Int} (h1 : -m ≤ a) (h2 : a ≤ m) : a * a ≤ m * m := (sq_bd h1 h2).2
/-- the reference's narrower ranges hold the same -/
theorem bL_narrow {P Q a b : Int} (hP : 0 ≤ P ∧ P ≤ 400) (h : 0 ≤ P - a * a - b * b) : bL P Q a b = flatR (cL P Q a b) (-isq (P - a * a - b * b)) (2 * isq (P - a * a - b * b) + 1).toNat := by
  have ha := sq_nn a
  have hb := sq_nn b
  have i1 := isq_of hP
  have i2 := isq_of (n := P - a * a - b * b) ⟨h, by omega⟩
  refine flatR_pad _ i2.1 ?_ ?_
  · by_cases hc : isq (P - a * a - b * b) ≤ isq P
    · exact hc
    · have := Int.mul_le_mul (a := isq P + 1) (b := isq P + 1) (c := isq (P - a * a - b * b)) (d := isq (P - a * a - b * b)) (by omega) (by omega) (by omega) (by omega)
      omega
  · intro x hx
    have := sq_mono i2.1 hx
    unfold cL
    rw [if_pos (by omega)]
theorem aL_narrow {P Q a : Int} (hP : 0 ≤ P ∧ P ≤ 400) (h : 0 ≤ P - a * a) : aL P Q a = flatR (bL P Q a) (-isq (P - a * a)) (2 * isq (P - a * a) + 1).toNat := by
  have ha := sq_nn a
  have i1 := isq_of hP
  have i2 := isq_of (n := P - a * a) ⟨h, by omega⟩
  refine flatR_pad _ i2.1 ?_ ?_
  · by_cases hc : isq (P - a * a) ≤ isq P
    · exact hc
    · have := Int.mul_le_mul (a := isq P + 1) (b := isq P + 1) (c := isq (P - a * a)) (d := isq (P - a * a)) (by omega) (by omega) (by omega) (by omega)
      omega
  · intro x hx
    have := sq_mono i2.1 hx
    unfold bL
    refine flatR_nil _ _ _ fun c _ _ => ?_
    have hc := sq_nn c
    unfold cL
    rw [if_pos (by omega)]
theorem cL_len (P Q a b c : Int) : (cL P Q a b c).length ≤ 2 := by
  have he : ∀ d, (eL P Q a b c d).length ≤ 1 := by intro d; unfold eL; split <;> simp
  unfold cL
  split
  · simp
  · rw [List.length_append]
    have h1 := he (-isq (P - a * a - b * b - c * c))
    have h2 := he (isq (P - a * a - b * b - c * c))
    split
    · simp only [List.length_nil]; omega
    · omega
theorem nL_len {P Q : Int} (hP : 0 ≤ P ∧ P ≤ 400) : (nL P Q).length ≤ 137842 := by
  have i1 := isq_of hP
  have hn : (2 * isq P + 1).toNat ≤ 41 := by omega
  have h1 : ∀ a b, (bL P Q a b).length ≤ 82 := fun a b => Nat.le_trans (flatR_len _ 2 (cL_len P Q a b) _ _) (by omega)
  have h2 : ∀ a, (aL P Q a).length ≤ 3362 := fun a => Nat.le_trans (flatR_len _ 82 (h1 a) _ _) (by omega)
  exact Nat.le_trans (flatR_len _ 3362 h2 _ _) (by omega)
/-- the cells of such a list -/
def flat4 (l : List (Int × Int × Int × Int)) : List Value := l.flatMap fun x => [.int .i64 x.1, .int .i64 x.2.1, .int .i64 x.2.2.1, .int .i64 x.2.2.2]
theorem flat4_snoc (l : List (Int × Int × Int × Int)) (a b c d : Int) : flat4 (l ++ [(a, b, c, d)]) = flat4 l ++ [.int .i64 a, .int .i64 b, .int .i64 c, .int .i64 d] := by simp [flat4]
theorem flat4_get (l : List (Int × Int × Int × Int)) : ∀ (k : Nat) (h : k < l.length), (flat4 l)[k * 4]? = some (.int .i64 l[k].1) ∧ (flat4 l)[k * 4 + 1]? = some (.int .i64 l[k].2.1) ∧ (flat4 l)[k * 4 + 2]? = some (.int .i64 l[k].2.2.1) ∧ (flat4 l)[k * 4 + 3]? = some (.int .i64 l[k].2.2.2) := by
  induction l with
  | nil => intro k h; simp at h
  | cons x l ih =>
    intro k h
    cases k with
    | zero => simp [flat4]
    | succ k =>
      have := ih k (by simpa using h)
      rw [show (k + 1) * 4 = k * 4 + 1 + 1 + 1 + 1 by omega]
      simpa [flat4] using this

end Go.Proofs.Ytbffcpnpdpgfeaa
