/- Inverses that cancel: plain lists. -/
import Derived.Test.YtlbcjbeafampcaaAppL
import Derived.Test.YtlbcjbeafampcaaQub
import Derived.Test.YtlbcjbeafampcaaUsd
import Derived.Test.YtlbcjbeafampcaaCgL
namespace Go.Proofs.Ytlbcjbeafampcaa
open Go.RowKit
set_option linter.unusedVariables false
set_option linter.unusedSimpArgs false

/-- the first from j on, at most d steps on -/
def fst (f : Nat → Bool) : Nat → Nat → Nat
  | 0, j => j
  | d + 1, j => if f j then j else fst f d (j + 1)
theorem fst_ge (f : Nat → Bool) : ∀ d j, j ≤ fst f d j
  | 0, j => Nat.le_refl _
  | d + 1, j => by
    unfold fst
    split
    · exact Nat.le_refl _
    · have := fst_ge f d (j + 1); omega
theorem fst_le (f : Nat → Bool) : ∀ d j, fst f d j ≤ j + d
  | 0, j => Nat.le_refl _
  | d + 1, j => by
    unfold fst
    split
    · omega
    · have := fst_le f d (j + 1); omega
theorem fst_yes {f : Nat → Bool} {d j : Nat} (h : f j = true) : fst f d j = j := by
  cases d with
  | zero => rfl
  | succ d => unfold fst; rw [if_pos h]
theorem fst_no {f : Nat → Bool} {d j : Nat} (hd : 0 < d) (h : f j = false) : fst f d j = fst f (d - 1) (j + 1) := by
  cases d with
  | zero => omega
  | succ d =>
    show (if f j then j else fst f d (j + 1)) = _
    rw [if_neg (by rw [h]; decide)]
    rfl
theorem fst_at (f : Nat → Bool) : ∀ d j, fst f d j < j + d → f (fst f d j) = true
  | 0, j, h => by simp [fst] at h
  | d + 1, j, h => by
    unfold fst at h ⊢
    by_cases e : f j = true
    · rw [if_pos e]; exact e
    · rw [if_neg e] at h ⊢
      exact fst_at f d (j + 1) (by omega)

/-- two gates have a common qubit -/
def mtB (k a b k' a' b' : Int) : Bool := touQ (qL k' a' b') (qL k' a' b').length k a b
theorem mt_in (k a b k' a' b' : Int) : inTo (qL k a b) (qL k' a' b') (qL k' a' b').length (qL k a b).length = mtB k a b k' a' b' := inTo_qL _ _ k a b
theorem use_cases (k a b : Int) : useJ [k, a, b] 1 = qL k a b ∨ (useJ [k, a, b] 1 = [b, a] ∧ qL k a b = [a, b]) ∨ (useJ [k, a, b] 1 = [a] ∧ qL k a b = [a, b] ∧ a = b) := by
  show useS [] k a b = _ ∨ (useS [] k a b = _ ∧ _) ∨ (useS [] k a b = _ ∧ _)
  by_cases h : k = 12
  · left; rw [qL_w h]; unfold useS; rw [if_pos h]
  by_cases h2 : Wn k 9 11 = true
  · rw [qL_two h2]
    unfold useS
    rw [if_neg h, if_pos h2]
    have e1 : putI [] a = [a] := rfl
    rw [e1]
    by_cases hab : a < b
    · left
      have := putI_new [a] b 1 (by simp) (fun j hj => by obtain rfl : j = 0 := (by omega); exact hab) (fun h => absurd h (by simp))
      rw [this]; rfl
    · by_cases hba : b < a
      · right; left
        have := putI_new [a] b 0 (by simp) (fun j hj => absurd hj (by omega)) (fun _ => hba)
        rw [this]; exact ⟨rfl, rfl⟩
      · obtain rfl : a = b := by omega
        right; right
        have := putI_same [a] a 0 (by simp) (fun j hj => absurd hj (by omega)) rfl
        rw [this]; exact ⟨rfl, rfl, rfl⟩
  · left
    have h2' : Wn k 9 11 = false := by simpa using h2
    rw [qL_one h h2']
    unfold useS
    rw [if_neg h, if_neg h2]
    rfl
theorem has2 (a b x : Int) : hasTo [b, a] x 2 = hasTo [a, b] x 2 := by
  simp only [hasTo, allTo, at3, List.getD_cons_zero, List.getD_cons_succ]
  cases (a == x) <;> cases (b == x) <;> rfl
theorem has1 (a x : Int) : hasTo [a] x 1 = hasTo [a, a] x 2 := by
  simp only [hasTo, allTo, at3, List.getD_cons_zero, List.getD_cons_succ]
  cases (a == x) <;> rfl
theorem use_has (k a b x : Int) : hasTo (useJ [k, a, b] 1) x (useJ [k, a, b] 1).length = hasTo (qL k a b) x (qL k a b).length := by
  rcases use_cases k a b with h | ⟨h, h2⟩ | ⟨h, h2, h3⟩
  · rw [h]
  · rw [h, h2]; exact has2 a b x
  · rw [h, h2]; subst h3; exact has1 a x
/-- some member of L is in f -/
def anyF (f : Int → Bool) (L : List Int) (n : Nat) : Bool := !(allTo (fun j => !(f (at3 L j))) n)
theorem use_any (k a b : Int) (f : Int → Bool) : anyF f (useJ [k, a, b] 1) (useJ [k, a, b] 1).length = anyF f (qL k a b) (qL k a b).length := by
  rcases use_cases k a b with h | ⟨h, h2⟩ | ⟨h, h2, h3⟩
  · rw [h]
  · rw [h, h2]
    simp only [anyF, allTo, at3, List.getD_cons_zero, List.getD_cons_succ, List.length_cons, List.length_nil]
    cases f a <;> cases f b <;> rfl
  · rw [h, h2]; subst h3
    simp only [anyF, allTo, at3, List.getD_cons_zero, List.getD_cons_succ, List.length_cons, List.length_nil]
    cases f a <;> rfl
theorem use_mt (k a b k' a' b' : Int) : anyF (fun x => hasTo (useJ [k', a', b'] 1) x (useJ [k', a', b'] 1).length) (useJ [k, a, b] 1) (useJ [k, a, b] 1).length = mtB k a b k' a' b' := by
  rw [use_any, ← mt_in]
  unfold anyF inTo
  congr 1
  exact allTo_congr fun j _ => congrArg (fun b => !b) (use_has k' a' b' _)

/-- the inverse's kind -/
def bkK (k : Int) : Int := if k = 5 then 6 else if k = 6 then 5 else if k = 7 then 8 else if k = 8 then 7 else k
def mtAt (xs : List Int) (i j : Nat) : Bool := mtB (at3 xs (i * 3)) (at3 xs (i * 3 + 1)) (at3 xs (i * 3 + 2)) (at3 xs (j * 3)) (at3 xs (j * 3 + 1)) (at3 xs (j * 3 + 2))
/-- the next gate on the qubits of gate i -/
def nxJ (xs : List Int) (n i : Nat) : Nat := fst (mtAt xs i) (n - (i + 1)) (i + 1)
def eqB (xs : List Int) (i j : Nat) : Bool := (at3 xs (j * 3) == bkK (at3 xs (i * 3))) && ((at3 xs (j * 3 + 1) == at3 xs (i * 3 + 1)) && (at3 xs (j * 3 + 2) == at3 xs (i * 3 + 2)))
/-- gate i and the next one cancel -/
def ccB (xs : List Int) (n i : Nat) : Bool := !(at3 xs (i * 3) == 12) && (decide (nxJ xs n i < n) && (decide (nxJ xs n i - i < 40) && eqB xs i (nxJ xs n i)))
def cI (xs : List Int) (n : Nat) : Nat := fst (ccB xs n) n 0
def cOkB (xs : List Int) (n : Nat) : Bool := decide (cI xs n < n)
/-- the replacement at i, j -/
def cRat (xs : List Int) (i j : Nat) : Rp := ⟨i, j - i + 1, (xs.drop (i * 3)).take ((j - i + 1) * 3), j - i - 1, (xs.drop ((i + 1) * 3)).take ((j - i - 1) * 3)⟩
def noP : Rp := ⟨0, 0, [], 0, []⟩
def cR (xs : List Int) (n : Nat) : Rp := if cOkB xs n then cRat xs (cI xs n) (nxJ xs n (cI xs n)) else noP
theorem cR_yes {xs : List Int} {n i : Nat} (h : cI xs n = i) (hi : i < n) : cR xs n = cRat xs i (nxJ xs n i) ∧ cOkB xs n = true := by
  have e : cOkB xs n = true := by unfold cOkB; rw [h]; exact decide_eq_true hi
  unfold cR
  rw [if_pos e, h]
  exact ⟨rfl, e⟩
theorem cR_no {xs : List Int} {n : Nat} (h : cI xs n = n) : cR xs n = noP ∧ cOkB xs n = false := by
  have e : cOkB xs n = false := by unfold cOkB; rw [h]; simp
  unfold cR
  rw [e]
  exact ⟨rfl, rfl⟩
/-- what holds where gates cancel -/
theorem cc_facts {xs : List Int} {n : Nat} (h : cOkB xs n = true) : cI xs n < n ∧ cI xs n < nxJ xs n (cI xs n) ∧ nxJ xs n (cI xs n) < n ∧ nxJ xs n (cI xs n) - cI xs n < 40 := by
  have h1 : cI xs n < n := by simpa [cOkB] using h
  have h2 : ccB xs n (cI xs n) = true := fst_at _ n 0 (by unfold cI at h1; omega)
  unfold ccB at h2
  simp only [Bool.and_eq_true, decide_eq_true_eq] at h2
  refine ⟨h1, ?_, h2.2.1, h2.2.2.1⟩
  have := fst_ge (mtAt xs (cI xs n)) (n - (cI xs n + 1)) (cI xs n + 1)
  unfold nxJ
  omega
theorem cR_len {xs : List Int} {n : Nat} (hl : xs.length = n * 3) : (cR xs n).xs.length = (cR xs n).m1 * 3 ∧ (cR xs n).ys.length = (cR xs n).m2 * 3 ∧ (cR xs n).m1 ≤ 40 ∧ (cR xs n).m2 ≤ 40 := by
  unfold cR
  split
  · rename_i h
    obtain ⟨h1, h2, h3, h4⟩ := cc_facts h
    generalize nxJ xs n (cI xs n) = j at *
    generalize cI xs n = i at *
    simp only [cRat, List.length_take, List.length_drop]
    refine ⟨by omega, by omega, by omega, by omega⟩
  · exact ⟨rfl, rfl, by decide, by decide⟩

/-- the circuit behind one replacement -/
def cuS (c : Nat × List Int) : Nat × List Int := (c.1 - (cR c.2 c.1).m1 + (cR c.2 c.1).m2, apX c.2 (cR c.2 c.1).t.toNat (cR c.2 c.1).m1 (cR c.2 c.1).ys)
def cu (xs : List Int) (n : Nat) : Nat → Nat × List Int
  | 0 => (n, xs)
  | k + 1 => cuS (cu xs n k)
theorem eqG_refl (xs : List Int) (m : Nat) : eqG xs xs m = true := by
  unfold eqG
  induction m with
  | zero => rfl
  | succ m ih => rw [allTo_succ, ih]; simp [eqAt]
theorem cu_ap {q : Int} {xs : List Int} {n : Nat} (hl : xs.length = n * 3) (hc : cOk q xs n = true) (h : cOkB xs n = true) :
    apOk q xs n (cR xs n).t (cR xs n).xs (cR xs n).m1 (cR xs n).ys (cR xs n).m2 = true ∧ (cuS (n, xs)).1 + 2 = n ∧ (cuS (n, xs)).2.length = (cuS (n, xs)).1 * 3 ∧ cOk q (cuS (n, xs)).2 (cuS (n, xs)).1 = true ∧
      apN q xs n (cR xs n).t (cR xs n).xs (cR xs n).m1 (cR xs n).ys (cR xs n).m2 = (cuS (n, xs)).1 ∧ apL q xs n (cR xs n).t (cR xs n).xs (cR xs n).m1 (cR xs n).ys (cR xs n).m2 = (cuS (n, xs)).2 ∧ apQ q xs n (cR xs n).t (cR xs n).xs (cR xs n).m1 (cR xs n).ys (cR xs n).m2 = q := by
  obtain ⟨h1, h2, h3, h4⟩ := cc_facts h
  have hc0 := hc
  unfold cOk at hc0
  simp only [Bool.and_eq_true, decide_eq_true_eq] at hc0
  obtain ⟨k1, k2, k3⟩ := hc0
  obtain ⟨e1, e2⟩ := cR_yes rfl h1
  rw [e1]
  unfold cuS
  simp only [e1]
  generalize nxJ xs n (cI xs n) = j at *
  generalize cI xs n = i at *
  have g1 : gAll q ((xs.drop (i * 3)).take ((j - i + 1) * 3)) (j - i + 1) = true := gAll_take (n := n - i) (gAll_drop (m := n - i) k3 (by omega)) (by omega)
  have g2 : gAll q ((xs.drop ((i + 1) * 3)).take ((j - i - 1) * 3)) (j - i - 1) = true := gAll_take (n := n - (i + 1)) (gAll_drop (m := n - (i + 1)) k3 (by omega)) (by omega)
  have l2 : ((xs.drop ((i + 1) * 3)).take ((j - i - 1) * 3)).length = (j - i - 1) * 3 := by simp only [List.length_take, List.length_drop]; omega
  have hok : apOk q xs n (cRat xs i j).t (cRat xs i j).xs (cRat xs i j).m1 (cRat xs i j).ys (cRat xs i j).m2 = true := by
    unfold apOk
    simp only [cRat]
    rw [hc]
    have r : rOk q (i : Int) ((xs.drop (i * 3)).take ((j - i + 1) * 3)) (j - i + 1) ((xs.drop ((i + 1) * 3)).take ((j - i - 1) * 3)) (j - i - 1) = true := by
      unfold rOk
      simp only [Bool.and_eq_true, decide_eq_true_eq]
      exact ⟨k1, (show Wn (i : Int) 0 400 = true from Wn_iff.2 ⟨by omega, by omega⟩), by omega, by omega, g1, g2⟩
    rw [r]
    simp only [Bool.true_and, Bool.and_eq_true, decide_eq_true_eq]
    exact ⟨decide_eq_true (by omega), decide_eq_true (by omega), eqG_refl _ _⟩
  obtain ⟨a1, a2, a3⟩ := ap_yes hok
  refine ⟨hok, ?_, ?_, ?_, a2, a1, a3⟩
  · simp only [cRat]; omega
  · exact apX_len hl l2 (by simp only [cRat]; show i + _ ≤ n; omega)
  · have := ap_good (q := q) (zs := (cRat xs i j).ys) (t := (cRat xs i j).t.toNat) (m := (cRat xs i j).m1) (l := (cRat xs i j).m2) hl l2 (by simp only [cRat]; show i + _ ≤ n; omega) hc g2
    refine this.trans ?_
    show decide ((n : Int) - (j - i + 1 : Nat) + (j - i - 1 : Nat) ≤ 400) = true
    rw [decide_eq_true_eq]
    omega
def stF (xs : List Int) (n k : Nat) : Bool := !(cOkB (cu xs n k).2 (cu xs n k).1)
/-- how many steps -/
def cK (xs : List Int) (n : Nat) : Nat := fst (stF xs n) n 0
def cRk (xs : List Int) (n k : Nat) : Rp := cR (cu xs n k).2 (cu xs n k).1
def cC (q : Int) (xs : List Int) (n : Nat) : Cv := if cOk q xs n then ⟨q, n, xs, cK xs n, cRk xs n, q, (cu xs n (cK xs n)).1, (cu xs n (cK xs n)).2⟩ else ⟨0, 0, [], 0, fun _ => noP, 0, 0, []⟩
theorem cu_inv {q : Int} {xs : List Int} {n : Nat} (hl : xs.length = n * 3) (hc : cOk q xs n = true) : ∀ k, (∀ j, j < k → stF xs n j = false) → (cu xs n k).1 + 2 * k = n ∧ (cu xs n k).2.length = (cu xs n k).1 * 3 ∧ cOk q (cu xs n k).2 (cu xs n k).1 = true := by
  intro k
  induction k with
  | zero => intro _; exact ⟨by show n + 2 * 0 = n; omega, hl, hc⟩
  | succ k ih =>
    intro h
    obtain ⟨h1, h2, h3⟩ := ih (fun j hj => h j (by omega))
    have h4 := h k (by omega)
    have h5 : cOkB (cu xs n k).2 (cu xs n k).1 = true := by simpa [stF] using h4
    have h6 := cu_ap h2 h3 h5
    have e : cu xs n (k + 1) = cuS ((cu xs n k).1, (cu xs n k).2) := rfl
    rw [e]
    refine ⟨by omega, h6.2.2.1, h6.2.2.2.1⟩
theorem fst_lt (f : Nat → Bool) : ∀ d j k, j ≤ k → k < fst f d j → f k = false
  | 0, j, k, h1, h2 => by simp [fst] at h2; omega
  | d + 1, j, k, h1, h2 => by
    unfold fst at h2
    by_cases e : f j = true
    · rw [if_pos e] at h2; omega
    · rw [if_neg e] at h2
      by_cases hk : k = j
      · subst hk; simpa using e
      · exact fst_lt f d (j + 1) k (by omega) h2
theorem cC_facts {q : Int} {xs : List Int} {n : Nat} (hl : xs.length = n * 3) : (cC q xs n).Ok ∧ (cC q xs n).tot ≤ 1048576 := by
  unfold cC
  split
  · rename_i hc
    have hn : n ≤ 400 := by
      unfold cOk at hc
      simp only [Bool.and_eq_true, decide_eq_true_eq] at hc
      exact hc.2.1
    have hlt := fun k (hk : k < cK xs n) => fst_lt (stF xs n) n 0 k (by omega) hk
    have hinv := fun k (hk : k ≤ cK xs n) => cu_inv hl hc k (fun j hj => hlt j (by omega))
    obtain ⟨i1, i2, i3⟩ := hinv (cK xs n) (Nat.le_refl _)
    have hlen := fun j (hj : j < cK xs n) => cR_len (hinv j (by omega)).2.1
    refine ⟨⟨hl, i2, fun j hj => ⟨(hlen j hj).1, (hlen j hj).2.1⟩⟩, ?_⟩
    have hg : ∀ k, k ≤ cK xs n → gsR (cRk xs n) k ≤ 80 * k := by
      intro k
      induction k with
      | zero => intro _; exact Nat.le_refl _
      | succ k ih =>
        intro hk
        have h1 := ih (by omega)
        have h2 := hlen k (by omega)
        show gsR (cRk xs n) k + ((cRk xs n k).m1 + (cRk xs n k).m2) ≤ _
        unfold cRk at h1 ⊢
        omega
    have := hg _ (Nat.le_refl _)
    show n + (cK xs n + gsR (cRk xs n) (cK xs n)) + (cu xs n (cK xs n)).1 ≤ _
    omega
  · exact ⟨⟨rfl, rfl, fun j hj => absurd hj (by simp)⟩, by decide⟩

theorem gOk_mono {q k a b : Int} (hq : q ≤ 5) (h : gOk q k a b = true) : gOk 5 k a b = true := by
  unfold gOk at h ⊢
  by_cases h1 : Wn k 1 8 = true
  · rw [if_pos h1] at h ⊢
    simp only [Bool.and_eq_true] at h ⊢
    exact ⟨Wn_iff.2 (by have := Wn_iff.1 h.1; omega), h.2⟩
  · rw [if_neg h1] at h ⊢
    by_cases h2 : Wn k 9 11 = true
    · rw [if_pos h2] at h ⊢
      simp only [Bool.and_eq_true] at h ⊢
      exact ⟨Wn_iff.2 (by have := Wn_iff.1 h.1; omega), Wn_iff.2 (by have := Wn_iff.1 h.2.1; omega), h.2.2⟩
    · rw [if_neg h2] at h ⊢
      exact h
theorem gOk_k {q k a b : Int} (h : gOk q k a b = true) : -1000000 ≤ k ∧ k ≤ 1000000 := by
  unfold gOk at h
  by_cases h1 : Wn k 1 8 = true
  · have := Wn_iff.1 h1; omega
  · rw [if_neg h1] at h
    by_cases h2 : Wn k 9 11 = true
    · have := Wn_iff.1 h2; omega
    · rw [if_neg h2] at h
      simp only [Bool.and_eq_true, beq_iff_eq] at h
      omega

end Go.Proofs.Ytlbcjbeafampcaa
