/- Replacements applied: the plain lists. -/
import Derived.Test.YtlbcjbeafampcaaLu
import Derived.Test.YtlbcjbeafampcaaRepl
import Derived.Test.YtlbcjbeafampcaaGateK
namespace Go.Proofs.Ytlbcjbeafampcaa
open Go.RowKit
set_option linter.unusedVariables false
set_option linter.unusedSimpArgs false

/-- the gates behind a replacement -/
def apX (xs : List Int) (t m : Nat) (zs : List Int) : List Int := xs.take (t * 3) ++ zs ++ xs.drop ((t + m) * 3)
/-- the part that is replaced is as it should be -/
def apE (xs : List Int) (t m : Nat) (ys : List Int) : Bool := eqG ((xs.drop (t * 3)).take (m * 3)) ys m
def apOk (q : Int) (xs : List Int) (n : Nat) (t : Int) (ys : List Int) (m : Nat) (zs : List Int) (l : Nat) : Bool :=
  cOk q xs n && (rOk q t ys m zs l && (decide (t + m ≤ n) && (decide ((n : Int) - m + l ≤ 400) && apE xs t.toNat m ys)))
def apL (q : Int) (xs : List Int) (n : Nat) (t : Int) (ys : List Int) (m : Nat) (zs : List Int) (l : Nat) : List Int := if apOk q xs n t ys m zs l then apX xs t.toNat m zs else []
def apN (q : Int) (xs : List Int) (n : Nat) (t : Int) (ys : List Int) (m : Nat) (zs : List Int) (l : Nat) : Nat := if apOk q xs n t ys m zs l then n - m + l else 0
def apQ (q : Int) (xs : List Int) (n : Nat) (t : Int) (ys : List Int) (m : Nat) (zs : List Int) (l : Nat) : Int := if apOk q xs n t ys m zs l then q else 0
theorem ap_no {q : Int} {xs : List Int} {n : Nat} {t : Int} {ys : List Int} {m : Nat} {zs : List Int} {l : Nat} (h : apOk q xs n t ys m zs l = false) : apL q xs n t ys m zs l = [] ∧ apN q xs n t ys m zs l = 0 ∧ apQ q xs n t ys m zs l = 0 := by
  unfold apL apN apQ; rw [h]; exact ⟨rfl, rfl, rfl⟩
theorem ap_yes {q : Int} {xs : List Int} {n : Nat} {t : Int} {ys : List Int} {m : Nat} {zs : List Int} {l : Nat} (h : apOk q xs n t ys m zs l = true) : apL q xs n t ys m zs l = apX xs t.toNat m zs ∧ apN q xs n t ys m zs l = n - m + l ∧ apQ q xs n t ys m zs l = q := by
  unfold apL apN apQ; rw [h]; exact ⟨rfl, rfl, rfl⟩
theorem apX_len {xs zs : List Int} {n t m l : Nat} (h1 : xs.length = n * 3) (h2 : zs.length = l * 3) (h : t + m ≤ n) : (apX xs t m zs).length = (n - m + l) * 3 := by
  unfold apX
  simp only [List.length_append, List.length_take, List.length_drop]
  omega

theorem at3_take {xs : List Int} {i k : Nat} (h : i < k) : at3 (xs.take k) i = at3 xs i := by
  simp [at3, List.getD_eq_getElem?_getD, List.getElem?_take, h]
theorem at3_drop (xs : List Int) (i k : Nat) : at3 (xs.drop k) i = at3 xs (k + i) := by
  simp [at3, List.getD_eq_getElem?_getD, List.getElem?_drop]
theorem at3_left {xs ys : List Int} {i : Nat} (h : i < xs.length) : at3 (xs ++ ys) i = at3 xs i := by
  simp [at3, List.getD_eq_getElem?_getD, List.getElem?_append_left h]
theorem at3_right {xs ys : List Int} {i : Nat} : at3 (xs ++ ys) (xs.length + i) = at3 ys i := by
  simp [at3, List.getD_eq_getElem?_getD, List.getElem?_append_right]

theorem gAll_iff {q : Int} {xs : List Int} {n : Nat} : gAll q xs n = true ↔ ∀ j, j < n → gOk q (at3 xs (j * 3)) (at3 xs (j * 3 + 1)) (at3 xs (j * 3 + 2)) = true := by
  constructor
  · intro h j hj; exact allTo_at (f := fun j => gOk q (at3 xs (j * 3)) (at3 xs (j * 3 + 1)) (at3 xs (j * 3 + 2))) h hj
  · intro h
    unfold gAll
    induction n with
    | zero => rfl
    | succ n ih => rw [allTo_succ, ih (fun j hj => h j (by omega)), h n (by omega)]; rfl
theorem gAll_append {q : Int} {xs ys : List Int} {n m : Nat} (hl : xs.length = n * 3) (h1 : gAll q xs n = true) (h2 : gAll q ys m = true) : gAll q (xs ++ ys) (n + m) = true := by
  rw [gAll_iff] at *
  intro j hj
  by_cases h : j < n
  · rw [at3_left (by omega), at3_left (by omega), at3_left (by omega)]
    exact h1 j h
  · obtain ⟨d, rfl⟩ : ∃ d, j = n + d := ⟨j - n, by omega⟩
    rw [show (n + d) * 3 = xs.length + d * 3 by omega, show xs.length + d * 3 + 1 = xs.length + (d * 3 + 1) by omega, show xs.length + d * 3 + 2 = xs.length + (d * 3 + 2) by omega, at3_right, at3_right, at3_right]
    exact h2 d (by omega)
theorem gAll_take {q : Int} {xs : List Int} {n k : Nat} (h1 : gAll q xs n = true) (hk : k ≤ n) : gAll q (xs.take (k * 3)) k = true := by
  rw [gAll_iff] at *
  intro j hj
  rw [at3_take (by omega), at3_take (by omega), at3_take (by omega)]
  exact h1 j (by omega)
theorem gAll_drop {q : Int} {xs : List Int} {n k m : Nat} (h1 : gAll q xs n = true) (hk : k + m ≤ n) : gAll q (xs.drop (k * 3)) m = true := by
  rw [gAll_iff] at *
  intro j hj
  rw [at3_drop, at3_drop, at3_drop, show k * 3 + j * 3 = (k + j) * 3 by omega, show k * 3 + (j * 3 + 1) = (k + j) * 3 + 1 by omega, show k * 3 + (j * 3 + 2) = (k + j) * 3 + 2 by omega]
  exact h1 (k + j) (by omega)
theorem apX_good {q : Int} {xs zs : List Int} {n t m l : Nat} (hx : xs.length = n * 3) (hz : zs.length = l * 3) (h : t + m ≤ n) (h1 : gAll q xs n = true) (h2 : gAll q zs l = true) : gAll q (apX xs t m zs) (n - m + l) = true := by
  unfold apX
  have e1 := gAll_append (n := t) (m := l) (by rw [List.length_take]; omega) (gAll_take h1 (by omega : t ≤ n)) h2
  have e2 := gAll_append (n := t + l) (m := n - (t + m)) (by rw [List.length_append, List.length_take]; omega) e1 (gAll_drop (k := t + m) (m := n - (t + m)) h1 (by omega))
  rwa [show t + l + (n - (t + m)) = n - m + l by omega] at e2
theorem ap_good {q : Int} {xs zs : List Int} {n t m l : Nat} (hx : xs.length = n * 3) (hz : zs.length = l * 3) (h : t + m ≤ n) (h1 : cOk q xs n = true) (h2 : gAll q zs l = true) : cOk q (apX xs t m zs) (n - m + l) = decide ((n : Int) - m + l ≤ 400) := by
  unfold cOk at h1
  simp only [Bool.and_eq_true] at h1
  unfold cOk
  rw [h1.1, apX_good hx hz h h1.2.2 h2, Bool.and_true, Bool.true_and, Bool.eq_iff_iff]
  simp only [decide_eq_true_eq]
  omega
theorem rOk_facts {q t : Int} {ys zs : List Int} {m l : Nat} (h : rOk q t ys m zs l = true) : 1 ≤ q ∧ q ≤ 5 ∧ 0 ≤ t ∧ t ≤ 400 ∧ m ≤ 40 ∧ l ≤ 40 ∧ gAll q zs l = true := by
  unfold rOk at h
  simp only [Bool.and_eq_true, decide_eq_true_eq] at h
  have h1 := Wn_iff.1 h.1
  have h2 := Wn_iff.1 h.2.1
  exact ⟨h1.1, h1.2, h2.1, h2.2, h.2.2.1, h.2.2.2.1, h.2.2.2.2.2⟩

end Go.Proofs.Ytlbcjbeafampcaa
