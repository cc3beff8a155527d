/- Restoring a placement: the plain lists. -/
import Derived.Test.YtjeahopiejcopaaSwap
namespace Go.Proofs.Ytjeahopiejcopaa
open Go.RowKit

/-- all different -/
def Dist (l : List Int) : Prop := ∀ i j, i < l.length → j < l.length → at3 l i = at3 l j → i = j
theorem dist_of_nOk {xs : List Int} (h : nOk xs xs.length = true) : Dist xs := by
  have key : ∀ i j, j < i → i < xs.length → at3 xs j ≠ at3 xs i := by
    intro i j hji hi e
    have h1 := allTo_at (f := fun i => Wn (at3 xs i) 0 4 && !(hasTo xs (at3 xs i) i)) h hi
    simp only [Bool.and_eq_true, Bool.not_eq_true'] at h1
    have h2 := hasTo_at (xs := xs) (x := at3 xs i) (k := j) (n := i) (by simpa using e) hji
    rw [h2] at h1
    exact absurd h1.2 (by simp)
  intro i j hi hj e
  rcases Nat.lt_trichotomy i j with h1 | h1 | h1
  · exact absurd e (key j i h1 hj)
  · exact h1
  · exact absurd e.symm (key i j h1 hi)
theorem swp_inj {k t x y : Int} (h : swp k t x = swp k t y) : x = y := by
  unfold swp at h
  split at h <;> split at h <;> (try split at h) <;> (try split at h) <;> omega
theorem dist_swp {l : List Int} (k t : Int) (h : Dist l) : Dist (swpL l k t) := by
  intro i j hi hj e
  rw [swpL_length] at hi hj
  rw [swpL_at hi, swpL_at hj] at e
  exact h i j hi hj (swp_inj e)
theorem list_ext_at {l m : List Int} (h : l.length = m.length) (h2 : ∀ i, i < l.length → at3 l i = at3 m i) : l = m := by
  apply List.ext_getElem?
  intro i
  by_cases hi : i < l.length
  · have h1 := h2 i hi
    simp only [at3, List.getD_eq_getElem?_getD] at h1
    have e2 : i < m.length := by omega
    rw [List.getElem?_eq_getElem hi, List.getElem?_eq_getElem e2] at h1 ⊢
    simpa using h1
  · rw [List.getElem?_eq_none (by omega), List.getElem?_eq_none (by omega)]
theorem at_set {l : List Int} {i j : Nat} {y : Int} (hj : j < l.length) : at3 (l.set j y) i = if i = j then y else at3 l i := by
  simp only [at3, List.getD_eq_getElem?_getD]
  by_cases h : i = j
  · subst h; simp [hj]
  · rw [List.getElem?_set_ne (fun e => h e.symm), if_neg h]
/-- the program's exchange, the other node being there -/
theorem set_both {l : List Int} {i o : Nat} {t : Int} (hd : Dist l) (hi : i < l.length) (ho : o < l.length) (hot : at3 l o = t) (hne : at3 l i ≠ t) : (l.set o (at3 l i)).set i t = swpL l (at3 l i) t := by
  refine list_ext_at (by simp [swpL_length]) fun j hj => ?_
  have hj' : j < l.length := by simpa using hj
  rw [at_set (by simpa using hi), swpL_at hj']
  unfold swp
  by_cases e1 : j = i
  · subst e1; rw [if_pos rfl, if_pos rfl]
  · rw [if_neg e1, at_set ho, if_neg (fun e => e1 (hd j i hj' hi e))]
    by_cases e2 : j = o
    · subst e2; rw [if_pos rfl, if_pos hot]
    · rw [if_neg e2, if_neg (fun e => e2 (hd j o hj' ho (e.trans hot.symm)))]
/-- the program's exchange, the other node being nowhere -/
theorem set_one {l : List Int} {i : Nat} {t : Int} (hd : Dist l) (hi : i < l.length) (hno : hasTo l t l.length = false) : l.set i t = swpL l (at3 l i) t := by
  refine list_ext_at (by simp [swpL_length]) fun j hj => ?_
  have hj' : j < l.length := by simpa using hj
  rw [at_set hi, swpL_at hj']
  unfold swp
  by_cases e1 : j = i
  · subst e1; rw [if_pos rfl, if_pos rfl]
  · rw [if_neg e1, if_neg (fun e => e1 (hd j i hj' hi e)), if_neg]
    intro e
    have := hasTo_at (xs := l) (x := t) (k := j) (n := l.length) (by simpa using e) hj'
    rw [this] at hno
    cases hno
/-- the gates that restore: positions from i on -/
def rstL (to : List Int) : Nat → Nat → List Int → List Int
  | 0, _, _ => []
  | f + 1, i, at' => if at3 at' i = at3 to i then rstL to f (i + 1) at' else [11, at3 at' i, at3 to i] ++ rstL to f (i + 1) (swpL at' (at3 at' i) (at3 to i))
theorem rstL_len (to : List Int) : ∀ f i at', (rstL to f i at').length % 3 = 0 ∧ (rstL to f i at').length ≤ f * 3 := by
  intro f
  induction f with
  | zero => intro _ _; simp [rstL]
  | succ f ih =>
    intro i at'
    unfold rstL
    split
    · have := ih (i + 1) at'; omega
    · have := ih (i + 1) (swpL at' (at3 at' i) (at3 to i))
      simp only [List.length_append, List.length_cons, List.length_nil]
      omega

end Go.Proofs.Ytjeahopiejcopaa
