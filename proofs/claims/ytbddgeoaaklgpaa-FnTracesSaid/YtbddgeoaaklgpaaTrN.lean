/- Layers: what the reference and the program reckon (plain). -/
import Derived.Test.YtbddgeoaaklgpaaTrM
import Derived.Test.YtbddgeoaaklgpaaTrQ
namespace Go.Proofs.Ytbddgeoaaklgpaa
open Go.RowKit
set_option linter.unusedVariables false
set_option linter.unusedSimpArgs false

/-- the layer of gate j; the state ahead of it -/
def tS (xs : List Int) (j : Nat) : Nat → Nat := tst S0 (clG xs j)
def lyA (xs : List Int) (j : Nat) : Nat := tly (tS xs j) (gN xs j)
theorem tS_succ (xs : List Int) (j : Nat) : tS xs (j + 1) = tup (tS xs j) (gN xs j) := by
  unfold tS
  show tst S0 (clG xs j ++ [gN xs j]) = _
  rw [tst_app]
  rfl
theorem tpl_succ (xs : List Int) (j : Nat) : tpl S0 (clG xs (j + 1)) = tpl S0 (clG xs j) ++ [(lyA xs j, gN xs j)] := by
  show tpl S0 (clG xs j ++ [gN xs j]) = _
  rw [tpl_app]
  rfl
/-- all layers -/
def lyL (xs : List Int) : Nat → List Int
  | 0 => []
  | j + 1 => lyL xs j ++ [(lyA xs j : Int)]
theorem lyL_len (xs : List Int) : ∀ n, (lyL xs n).length = n
  | 0 => rfl
  | n + 1 => by
    show (lyL xs n ++ _).length = _
    rw [List.length_append, lyL_len xs n]
    rfl
theorem lyL_at {xs : List Int} : ∀ {n j : Nat}, j < n → at3 (lyL xs n) j = lyA xs j
  | n + 1, j, h => by
    show at3 (lyL xs n ++ [(lyA xs n : Int)]) j = _
    unfold at3
    rw [List.getD_eq_getElem?_getD]
    by_cases hj : j < n
    · rw [List.getElem?_append_left (by rw [lyL_len]; exact hj), ← List.getD_eq_getElem?_getD]
      exact lyL_at hj
    · obtain rfl : j = n := by omega
      rw [List.getElem?_append_right (by rw [lyL_len]; omega), lyL_len, Nat.sub_self]
      rfl
theorem tly_bd {S : Nat → Nat} {g : G3} {B : Nat} (h : ∀ q, S q ≤ B) : tly S g ≤ B + 1 := by
  unfold tly
  have h1 := h g.2.1
  have h2 := h g.2.2
  split
  · omega
  split
  · omega
  · omega
theorem tS_bd (xs : List Int) : ∀ j q, tS xs j q ≤ j
  | 0, q => Nat.le_refl _
  | j + 1, q => by
    rw [tS_succ]
    have ih := tS_bd xs j
    unfold tup
    split
    · exact tly_bd ih
    · have := ih q; omega
theorem lyA_bd (xs : List Int) (j : Nat) : lyA xs j ≤ j + 1 := tly_bd (tS_bd xs j)
/-- the most layers on a gate's qubits -/
def mqq (S : Nat → Nat) (g : G3) : Nat := if g.1 = 12 then 0 else if 9 ≤ g.1 ∧ g.1 ≤ 11 then max (S g.2.1) (S g.2.2) else S g.2.1
theorem tly_mqq (S : Nat → Nat) (g : G3) : tly S g = if g.1 = 12 then 0 else mqq S g + 1 := by
  unfold tly mqq
  split
  · rfl
  split
  · omega
  · rfl
def cmG (g h : G3) : Bool := (tq g).any fun q => (tq h).contains q
/-- what the reference's inner loop reckons -/
def mxA (xs : List Int) (i : Nat) : Nat → Nat
  | 0 => 0
  | j + 1 => if cmG (gN xs i) (gN xs j) then max (mxA xs i j) (lyA xs j) else mxA xs i j
theorem mqq_up {S : Nat → Nat} {g h : G3} : mqq (tup S h) g = if cmG g h then max (mqq S g) (tly S h) else mqq S g := by
  have key : ∀ q, tup S h q = if q ∈ tq h then tly S h else S q := fun q => rfl
  have hgt : ∀ q, q ∈ tq h → S q < tly S h := fun q hq => tly_gt hq
  obtain ⟨k, a, b⟩ := g
  by_cases h12 : k = 12
  · subst h12
    rfl
  by_cases h9 : 9 ≤ k ∧ k ≤ 11
  · have e1 : ∀ T : Nat → Nat, mqq T (k, a, b) = max (T a) (T b) := fun T => by
      show (if k = 12 then 0 else if 9 ≤ k ∧ k ≤ 11 then max (T a) (T b) else T a) = _
      rw [if_neg h12, if_pos h9]
    have e2 : cmG (k, a, b) h = (decide (a ∈ tq h) || decide (b ∈ tq h)) := by
      unfold cmG
      rw [tq_two h9]
      simp
    rw [e1, e1, e2, key, key]
    have ha := hgt a
    have hb := hgt b
    by_cases c1 : a ∈ tq h
    · have := ha c1
      by_cases c2 : b ∈ tq h
      · have := hb c2
        simp only [c1, c2, if_true, decide_true, Bool.or_self]
        omega
      · simp only [c1, c2, if_true, if_false, decide_true, decide_false, Bool.or_false]
        omega
    · by_cases c2 : b ∈ tq h
      · have := hb c2
        simp only [c1, c2, if_true, if_false, decide_true, decide_false, Bool.false_or]
        omega
      · simp only [c1, c2, if_false, decide_false, Bool.or_self, Bool.false_eq_true]
  · have e1 : ∀ T : Nat → Nat, mqq T (k, a, b) = T a := fun T => by
      show (if k = 12 then 0 else if 9 ≤ k ∧ k ≤ 11 then max (T a) (T b) else T a) = _
      rw [if_neg h12, if_neg h9]
    have e2 : cmG (k, a, b) h = decide (a ∈ tq h) := by
      unfold cmG
      rw [tq_one h12 h9]
      simp
    rw [e1, e1, e2, key]
    have ha := hgt a
    by_cases c1 : a ∈ tq h
    · have := ha c1
      simp only [c1, if_true, decide_true]
      omega
    · simp only [c1, if_false, decide_false, Bool.false_eq_true]
theorem mxA_eq (xs : List Int) (i : Nat) : ∀ j, mxA xs i j = mqq (tS xs j) (gN xs i)
  | 0 => by
    show 0 = mqq S0 (gN xs i)
    unfold mqq S0
    split
    · rfl
    split <;> rfl
  | j + 1 => by
    show (if cmG (gN xs i) (gN xs j) then max (mxA xs i j) (lyA xs j) else mxA xs i j) = _
    rw [tS_succ, mqq_up, mxA_eq xs i j]
    rfl
theorem lyA_mx (xs : List Int) (i : Nat) : lyA xs i = if (gN xs i).1 = 12 then 0 else mxA xs i i + 1 := by
  unfold lyA
  rw [tly_mqq, mxA_eq]
theorem mxA_bd (xs : List Int) (i : Nat) : ∀ j, mxA xs i j ≤ j
  | 0 => Nat.le_refl _
  | j + 1 => by
    have := mxA_bd xs i j
    have := lyA_bd xs j
    show (if cmG (gN xs i) (gN xs j) then max (mxA xs i j) (lyA xs j) else mxA xs i j) ≤ _
    split <;> omega
/-- a valid gate's qubits as cells -/
def ql3 (g : G3) : List Int := (tq g).map fun (q : Nat) => (q : Int)
theorem qL_ql3 {k a b : Int} (hk : 0 ≤ k) (ha : 0 ≤ a) (hb : 0 ≤ b) : qL k a b = ql3 (k.toNat, a.toNat, b.toNat) := by
  unfold ql3
  by_cases h12 : k = 12
  · subst h12
    rfl
  by_cases h9 : Wn k 9 11 = true
  · have := Wn_iff.1 h9
    rw [qL_two h9, tq_two (k := k.toNat) (by omega)]
    simp only [List.map_cons, List.map_nil]
    rw [Int.toNat_of_nonneg ha, Int.toNat_of_nonneg hb]
  · have h9' := mt Wn_iff.2 h9
    rw [qL_one h12 (by simpa using h9), tq_one (k := k.toNat) (by omega) (by omega)]
    simp only [List.map_cons, List.map_nil]
    rw [Int.toNat_of_nonneg ha]
theorem hasTo_map (l : List Nat) (x : Nat) : hasTo (l.map fun (q : Nat) => (q : Int)) x (l.map fun (q : Nat) => (q : Int)).length = l.contains x := by
  have key : ∀ m, m ≤ l.length → hasTo (l.map fun (q : Nat) => (q : Int)) x m = (l.take m).contains x := by
    intro m
    induction m with
    | zero => intro _; rfl
    | succ m ih =>
      intro hm
      rw [hasTo_succ, ih (by omega), List.take_add_one, List.getElem?_eq_getElem (show m < l.length by omega)]
      have e : at3 (l.map fun (q : Nat) => (q : Int)) m = (l[m]'(by omega) : Int) := by
        simp [at3, List.getD_eq_getElem?_getD, show m < l.length by omega]
      rw [e]
      have e2 : (((l[m]'(by omega) : Nat) : Int) == (x : Int)) = (l[m]'(by omega) == x) := by
        rw [Bool.eq_iff_iff]; simp; omega
      rw [e2, Option.toList_some, List.contains_append]
      congr 1
      simp only [List.contains_cons, List.contains_nil, Bool.or_false]
      rw [Bool.eq_iff_iff]; simp; omega
  rw [List.length_map, key _ (Nat.le_refl _), List.take_length]
theorem cmQ_map (l m : List Nat) : cmQ (l.map fun (q : Nat) => (q : Int)) (m.map fun (q : Nat) => (q : Int)) = l.any fun q => m.contains q := by
  have key : ∀ n, n ≤ l.length → allTo (fun j => !(hasTo (m.map fun (q : Nat) => (q : Int)) (at3 (l.map fun (q : Nat) => (q : Int)) j) (m.map fun (q : Nat) => (q : Int)).length)) n = !((l.take n).any fun q => m.contains q) := by
    intro n
    induction n with
    | zero => intro _; rfl
    | succ n ih =>
      intro hn
      have e : at3 (l.map fun (q : Nat) => (q : Int)) n = (l[n]'(by omega) : Int) := by
        simp [at3, List.getD_eq_getElem?_getD, show n < l.length by omega]
      rw [allTo_succ, ih (by omega), e, hasTo_map, List.take_add_one, List.getElem?_eq_getElem (show n < l.length by omega), Option.toList_some, List.any_append, Bool.not_or]
      simp only [List.any_cons, List.any_nil, Bool.or_false]
  have h := key l.length (Nat.le_refl _)
  rw [List.take_length] at h
  unfold cmQ
  rw [show (l.map fun (q : Nat) => (q : Int)).length = l.length from List.length_map _, h, Bool.not_not]
theorem cmQ_gN {q : Nat} {xs : List Int} {n i j : Nat} (hc : cOk q xs n = true) (hi : i < n) (hj : j < n) :
    cmQ (qL (at3 xs (i * 3)) (at3 xs (i * 3 + 1)) (at3 xs (i * 3 + 2))) (qL (at3 xs (j * 3)) (at3 xs (j * 3 + 1)) (at3 xs (j * 3 + 2))) = cmG (gN xs i) (gN xs j) := by
  have f := gOk_facts (cOk_gate hc hi) (cOk_q1 hc).1
  have g := gOk_facts (cOk_gate hc hj) (cOk_q1 hc).1
  rw [qL_ql3 (by omega) (by omega) (by omega), qL_ql3 (by omega) (by omega) (by omega)]
  exact cmQ_map _ _
/-- common qubits, the other way -/
theorem cmG_dj {g h : G3} : cmG g h = false ↔ Dj g h := by
  unfold cmG Dj
  rw [List.any_eq_false]
  simp

end Go.Proofs.Ytbddgeoaaklgpaa
