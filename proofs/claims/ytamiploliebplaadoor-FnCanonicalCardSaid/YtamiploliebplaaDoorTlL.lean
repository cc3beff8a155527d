/- Two-level matrices: the cells, and what the reference computes for them. -/
import Derived.Test.YtamiploliebplaaDoorCpL
import Derived.Test.YtamiploliebplaaDoorMo
import Derived.Test.YtamiploliebplaaDoorDyM
namespace Go.Proofs.YtamiploliebplaaDoor
open Go.RowKit Go.Lib
set_option linter.unusedVariables false
set_option linter.unusedSimpArgs false

def r4b (x y : R4) : Bool := x.a == y.a && (x.b == y.b && (x.c == y.c && x.d == y.d))
theorem r4b_eq {x y : R4} (h : r4b x y = true) : x = y := by
  obtain ⟨a, b, c, d⟩ := x
  obtain ⟨e, f, g, i⟩ := y
  simp only [r4b, Bool.and_eq_true, beq_iff_eq] at h
  obtain ⟨rfl, rfl, rfl, rfl⟩ := h
  rfl
/-- a power of omega -/
def om (M : Nat) : R4 := turns (M % 8) R4.one
/-- one or zero -/
def oz (b : Bool) : R4 := if b then R4.one else R4.zero
/-- the cell of the operator's matrix -/
def tlX (K : Int) (I J M : Nat) (i j : Nat) : R4 :=
  if K = 1 then (if i = I ∧ j = I then om M else oz (i == j))
  else if (i = I ∨ i = J) ∧ (j = I ∨ j = J) then
    (if K = 2 then oz (!(i == j)) else if j = I then R4.one else if i = I then om M else om (M + 4))
  else oz (i == j)
def tlE (K : Int) (I J M : Nat) (i j : Nat) : Nat :=
  if K = 1 then 0 else if (i = I ∨ i = J) ∧ (j = I ∨ j = J) then (if K = 2 then 0 else 1) else 0
/-- what the reference computes of a column -/
def syX (M : Nat) (b : Bool) : R4 := mvX (om M) 0 (oz b) 0
def syE (M : Nat) (b : Bool) : Nat := mvE (om M) 0 (oz b) 0
def saX (M : Nat) (a b : Bool) : R4 := dyX (oz a) 0 (syX M b) (syE M b)
def saE (M : Nat) (a b : Bool) : Nat := dyE (oz a) 0 (syX M b) (syE M b)
def sbX (M : Nat) (a b : Bool) : R4 := dyX (oz a) 0 (syX M b).neg (syE M b)
def sbE (M : Nat) (a b : Bool) : Nat := dyE (oz a) 0 (syX M b).neg (syE M b)

theorem om_rg : ∀ M, M < 12 → (om M).rg = true := by decide
theorem sy_val : ∀ M, M < 8 → ∀ b : Bool, (r4b (syX M b) (if b then om M else R4.zero) && (syE M b == 0 && (syX M b).rg)) = true := by decide
theorem sa_val : ∀ M, M < 8 → ∀ a b : Bool, (!(a && b)) = true → ((saX M a b).rg && (decide (saE M a b ≤ 60) && (r4b (mvX R4.one 1 (saX M a b) (saE M a b)) (if a then R4.one else if b then om M else R4.zero) && (mvE R4.one 1 (saX M a b) (saE M a b) == (if a || b then 1 else 0))))) = true := by decide
theorem sb_val : ∀ M, M < 8 → ∀ a b : Bool, (!(a && b)) = true → ((sbX M a b).rg && (decide (sbE M a b ≤ 60) && (r4b (mvX R4.one 1 (sbX M a b) (sbE M a b)) (if a then R4.one else if b then om (M + 4) else R4.zero) && (mvE R4.one 1 (sbX M a b) (sbE M a b) == (if a || b then 1 else 0))))) = true := by decide

/-- the values in a round for the column k -/
structure SVt (K : Int) (I J M k : Nat) : Prop where
  rP : (om M).rg = true
  rX : (oz (I == k)).rg = true
  rY : (oz (J == k)).rg = true
  w1 : K = 1 → mvX (om M) 0 (oz (I == k)) 0 = tlX K I J M I k ∧ mvE (om M) 0 (oz (I == k)) 0 = tlE K I J M I k
  x1 : K = 2 → M = 0 → I < J → syX M (J == k) = tlX K I J M I k ∧ syE M (J == k) = tlE K I J M I k
  x2 : K = 2 → I < J → oz (I == k) = tlX K I J M J k ∧ 0 = tlE K I J M J k
  sr : (syX M (J == k)).rg = true
  se : syE M (J == k) = 0
  ar : K = 3 → I < J → (saX M (I == k) (J == k)).rg = true ∧ saE M (I == k) (J == k) ≤ 60 ∧ (sbX M (I == k) (J == k)).rg = true ∧ sbE M (I == k) (J == k) ≤ 60
  h1 : K = 3 → I < J → mvX R4.one 1 (saX M (I == k) (J == k)) (saE M (I == k) (J == k)) = tlX K I J M I k ∧ mvE R4.one 1 (saX M (I == k) (J == k)) (saE M (I == k) (J == k)) = tlE K I J M I k
  h2 : K = 3 → I < J → mvX R4.one 1 (sbX M (I == k) (J == k)) (sbE M (I == k) (J == k)) = tlX K I J M J k ∧ mvE R4.one 1 (sbX M (I == k) (J == k)) (sbE M (I == k) (J == k)) = tlE K I J M J k
theorem sv_of (K : Int) (I J M k : Nat) (hM : M < 8) : SVt K I J M k := by
  have hs := sy_val M hM
  have ha := sa_val M hM
  have hb := sb_val M hM
  simp only [Bool.and_eq_true, beq_iff_eq, decide_eq_true_eq] at hs ha hb
  have hoz : ∀ b : Bool, (oz b).rg = true := by decide
  have hij : I < J → (!((I == k) && (J == k))) = true := fun h => by
    by_cases h1 : I = k <;> by_cases h2 : J = k <;> simp [h1, h2] <;> omega
  refine ⟨om_rg M (by omega), hoz _, hoz _, ?_, ?_, ?_, (hs _).2.2, (hs _).2.1, ?_, ?_, ?_⟩
  · intro hK
    have h := hs (I == k)
    refine ⟨(r4b_eq h.1).trans ?_, h.2.1.trans (by simp [tlE, hK])⟩
    by_cases h1 : I = k
    · subst h1; simp [tlX, hK]
    · have h2 : ¬ k = I := fun e => h1 e.symm
      simp [tlX, hK, h1, h2, oz]
  · intro hK h0 hlt
    have h := hs (J == k)
    refine ⟨(r4b_eq h.1).trans ?_, h.2.1.trans (by simp [tlE, hK])⟩
    subst h0
    by_cases h1 : I = k
    · subst h1
      have : ¬ J = I := by omega
      simp [tlX, hK, oz, this]
    · by_cases h2 : J = k
      · subst h2
        have : ¬ I = J := by omega
        simp [tlX, hK, oz, this, om, turns]
      · have h3 : ¬ k = I := fun e => h1 e.symm
        have h4 : ¬ k = J := fun e => h2 e.symm
        simp [tlX, hK, oz, h1, h2, h3, h4]
  · intro hK hlt
    refine ⟨?_, by simp [tlE, hK]⟩
    by_cases h1 : I = k
    · subst h1
      have : ¬ J = I := by omega
      simp [tlX, hK, oz, this]
    · by_cases h2 : J = k
      · subst h2
        simp [tlX, hK, oz, h1]
      · have h3 : ¬ k = I := fun e => h1 e.symm
        have h4 : ¬ k = J := fun e => h2 e.symm
        simp [tlX, hK, oz, h1, h2, h3, h4]
  · intro hK hlt
    exact ⟨(ha _ _ (hij hlt)).1, (ha _ _ (hij hlt)).2.1, (hb _ _ (hij hlt)).1, (hb _ _ (hij hlt)).2.1⟩
  · intro hK hlt
    have h := ha _ _ (hij hlt)
    refine ⟨(r4b_eq h.2.2.1).trans ?_, h.2.2.2.trans ?_⟩
    · by_cases h1 : I = k
      · subst h1; simp [tlX, hK]
      · by_cases h2 : J = k
        · subst h2
          have : ¬ J = I := by omega
          simp [tlX, hK, h1, this]
        · have h3 : ¬ k = I := fun e => h1 e.symm
          have h4 : ¬ k = J := fun e => h2 e.symm
          simp [tlX, hK, h1, h2, h3, h4, oz]
    · by_cases h1 : I = k
      · subst h1; simp [tlE, hK]
      · by_cases h2 : J = k
        · subst h2
          simp [tlE, hK]
        · have h3 : ¬ k = I := fun e => h1 e.symm
          have h4 : ¬ k = J := fun e => h2 e.symm
          simp [tlE, hK, h1, h2, h3, h4]
  · intro hK hlt
    have h := hb _ _ (hij hlt)
    refine ⟨(r4b_eq h.2.2.1).trans ?_, h.2.2.2.trans ?_⟩
    · by_cases h1 : I = k
      · subst h1
        have : ¬ J = I := by omega
        simp [tlX, hK]
      · by_cases h2 : J = k
        · subst h2
          have : ¬ J = I := by omega
          simp [tlX, hK, h1, this]
        · have h3 : ¬ k = I := fun e => h1 e.symm
          have h4 : ¬ k = J := fun e => h2 e.symm
          simp [tlX, hK, h1, h2, h3, h4, oz]
    · by_cases h1 : I = k
      · subst h1; simp [tlE, hK]
      · by_cases h2 : J = k
        · subst h2
          simp [tlE, hK]
        · have h3 : ¬ k = I := fun e => h1 e.symm
          have h4 : ¬ k = J := fun e => h2 e.symm
          simp [tlE, hK, h1, h2, h3, h4]

/-- the cells at the column k of the reference's loop -/
def lvX (K : Int) (I J M n k : Nat) (p : Nat) : R4 := if p % n < k then tlX K I J M (p / n) (p % n) else oz (p / n == p % n)
def lvE (K : Int) (I J M n k : Nat) (p : Nat) : Nat := if p % n < k then tlE K I J M (p / n) (p % n) else 0
/-- one cell set -/
def upX (X : Nat → R4) (p : Nat) (x : R4) : Nat → R4 := fun q => if q = p then x else X q
def upE (E : Nat → Int) (p : Nat) (e : Int) : Nat → Int := fun q => if q = p then e else E q
def S5 (zs : List Value) (p : Nat) (a b c d e : Value) : List Value := ((((zs.set (p * 5) a).set (p * 5 + 1) b).set (p * 5 + 2) c).set (p * 5 + 3) d).set (p * 5 + 4) e
theorem moL_at (X : Nat → R4) (E : Nat → Int) : ∀ {N p : Nat}, p < N → (IL (moL X E N))[p * 5]? = some (.int .i64 (X p).a) ∧ (IL (moL X E N))[p * 5 + 1]? = some (.int .i64 (X p).b) ∧ (IL (moL X E N))[p * 5 + 2]? = some (.int .i64 (X p).c) ∧ (IL (moL X E N))[p * 5 + 3]? = some (.int .i64 (X p).d) ∧ (IL (moL X E N))[p * 5 + 4]? = some (.int .i64 (E p))
  | N + 1, p, h => by
    rw [moL_succ]
    have hl : (IL (moL X E N)).length = N * 5 := by rw [il_length, moL_len]
    by_cases h1 : p = N
    · subst h1
      refine ⟨?_, ?_, ?_, ?_, ?_⟩ <;> rw [List.getElem?_append_right (by omega), hl]
      · rw [Nat.sub_self]; rfl
      · rw [Nat.add_sub_cancel_left]; rfl
      · rw [Nat.add_sub_cancel_left]; rfl
      · rw [Nat.add_sub_cancel_left]; rfl
      · rw [Nat.add_sub_cancel_left]; rfl
    · obtain ⟨e1, e2, e3, e4, e5⟩ := moL_at X E (N := N) (p := p) (by omega)
      refine ⟨?_, ?_, ?_, ?_, ?_⟩ <;> rw [List.getElem?_append_left (by omega)] <;> assumption
theorem moL_get (X : Nat → R4) (E : Nat → Int) {N q : Nat} (h : q < N * 5) : ∃ p r, p < N ∧ r < 5 ∧ q = p * 5 + r := ⟨q / 5, q % 5, by omega, by omega, by omega⟩
/-- five cells set are a cell set -/
theorem moL_up (X : Nat → R4) (E : Nat → Int) {N p : Nat} (hp : p < N) (x : R4) (e : Int) :
    S5 (IL (moL X E N)) p (.int .i64 x.a) (.int .i64 x.b) (.int .i64 x.c) (.int .i64 x.d) (.int .i64 e) = IL (moL (upX X p x) (upE E p e) N) := by
  have hl : (IL (moL X E N)).length = N * 5 := by rw [il_length, moL_len]
  have hl2 : (IL (moL (upX X p x) (upE E p e) N)).length = N * 5 := by rw [il_length, moL_len]
  refine List.ext_getElem? fun q => ?_
  by_cases hq : q < N * 5
  case neg =>
    rw [List.getElem?_eq_none (by simp only [S5, List.length_set]; omega), List.getElem?_eq_none (by omega)]
  obtain ⟨p', r, h1, h2, rfl⟩ := moL_get X E hq
  obtain ⟨a0, a1, a2, a3, a4⟩ := moL_at X E h1
  obtain ⟨b0, b1, b2, b3, b4⟩ := moL_at (upX X p x) (upE E p e) h1
  by_cases hpp : p' = p
  · subst hpp
    have u1 : upX X p' x p' = x := if_pos rfl
    have u2 : upE E p' e p' = e := if_pos rfl
    rw [u1] at b0 b1 b2 b3
    rw [u2] at b4
    unfold S5
    rcases (show r = 0 ∨ r = 1 ∨ r = 2 ∨ r = 3 ∨ r = 4 by omega) with rfl | rfl | rfl | rfl | rfl
    · rw [show p' * 5 + 0 = p' * 5 from rfl, b0, List.getElem?_set_ne (by omega), List.getElem?_set_ne (by omega), List.getElem?_set_ne (by omega), List.getElem?_set_ne (by omega), List.getElem?_set_self (by omega)]
    · rw [b1, List.getElem?_set_ne (by omega), List.getElem?_set_ne (by omega), List.getElem?_set_ne (by omega), List.getElem?_set_self (by simp only [List.length_set]; omega)]
    · rw [b2, List.getElem?_set_ne (by omega), List.getElem?_set_ne (by omega), List.getElem?_set_self (by simp only [List.length_set]; omega)]
    · rw [b3, List.getElem?_set_ne (by omega), List.getElem?_set_self (by simp only [List.length_set]; omega)]
    · rw [b4, List.getElem?_set_self (by simp only [List.length_set]; omega)]
  · have u1 : upX X p x p' = X p' := if_neg hpp
    have u2 : upE E p e p' = E p' := if_neg hpp
    rw [u1] at b0 b1 b2 b3
    rw [u2] at b4
    unfold S5
    rw [List.getElem?_set_ne (by omega), List.getElem?_set_ne (by omega), List.getElem?_set_ne (by omega), List.getElem?_set_ne (by omega), List.getElem?_set_ne (by omega)]
    rcases (show r = 0 ∨ r = 1 ∨ r = 2 ∨ r = 3 ∨ r = 4 by omega) with rfl | rfl | rfl | rfl | rfl
    · rw [show p' * 5 + 0 = p' * 5 from rfl, a0, b0]
    · rw [a1, b1]
    · rw [a2, b2]
    · rw [a3, b3]
    · rw [a4, b4]
theorem pair_dm {i j n : Nat} (hj : j < n) : (i * n + j) / n = i ∧ (i * n + j) % n = j := by
  rw [Nat.mul_comm i n]
  exact ⟨by rw [Nat.mul_add_div (by omega), Nat.div_eq_of_lt hj, Nat.add_zero], by rw [Nat.mul_add_mod, Nat.mod_eq_of_lt hj]⟩
/-- the rows that are not touched -/
theorem tl_far {K : Int} {I J M i j : Nat} (h1 : i ≠ I) (h2 : K = 1 ∨ i ≠ J) : tlX K I J M i j = oz (i == j) ∧ tlE K I J M i j = 0 := by
  unfold tlX tlE
  by_cases hK : K = 1
  · simp [hK, h1]
  · have h3 : i ≠ J := by rcases h2 with h | h; exact absurd h hK; exact h
    simp [hK, h1, h3]
/-- one column further: one row (kind 1) -/
theorem lv_step1 {I J M n k N : Nat} (hk : k < n) (hI : I < n) :
    moL (upX (lvX 1 I J M n k) (I * n + k) (tlX 1 I J M I k)) (upE (fun p => (lvE 1 I J M n k p : Int)) (I * n + k) (tlE 1 I J M I k : Int)) N = moL (lvX 1 I J M n (k + 1)) (fun p => (lvE 1 I J M n (k + 1) p : Int)) N := by
  refine moL_congr fun p _ => ?_
  have hp : p = p / n * n + p % n := by have := Nat.div_add_mod p n; rw [Nat.mul_comm] at this; omega
  have hlt := Nat.mod_lt p (show 0 < n by omega)
  obtain ⟨d1, d2⟩ := pair_dm (i := I) hk
  unfold upX upE lvX lvE
  dsimp only
  by_cases h1 : p = I * n + k
  · rw [if_pos h1, if_pos h1, h1, d1, d2]
    simp
  · rw [if_neg h1, if_neg h1]
    by_cases h2 : p % n < k
    · rw [if_pos h2, if_pos (show p % n < k + 1 by omega), if_pos h2, if_pos (show p % n < k + 1 by omega)]
      exact ⟨rfl, rfl⟩
    · rw [if_neg h2, if_neg h2]
      by_cases h3 : p % n = k
      · have hi : p / n ≠ I := fun e => h1 (by rw [hp, e, h3])
        obtain ⟨f1, f2⟩ := tl_far (K := 1) (I := I) (J := J) (M := M) (i := p / n) (j := p % n) hi (.inl rfl)
        rw [if_pos (show p % n < k + 1 by omega), if_pos (show p % n < k + 1 by omega), f1, f2]
        exact ⟨rfl, rfl⟩
      · rw [if_neg (show ¬ p % n < k + 1 by omega), if_neg (show ¬ p % n < k + 1 by omega)]
        exact ⟨rfl, rfl⟩
/-- one column further: two rows -/
theorem lv_step2 {K : Int} {I J M n k N : Nat} (hk : k < n) (hI : I < n) (hJ : J < n) (hIJ : I ≠ J) :
    moL (upX (upX (lvX K I J M n k) (I * n + k) (tlX K I J M I k)) (J * n + k) (tlX K I J M J k)) (upE (upE (fun p => (lvE K I J M n k p : Int)) (I * n + k) (tlE K I J M I k : Int)) (J * n + k) (tlE K I J M J k : Int)) N = moL (lvX K I J M n (k + 1)) (fun p => (lvE K I J M n (k + 1) p : Int)) N := by
  refine moL_congr fun p _ => ?_
  have hp : p = p / n * n + p % n := by have := Nat.div_add_mod p n; rw [Nat.mul_comm] at this; omega
  have hlt := Nat.mod_lt p (show 0 < n by omega)
  obtain ⟨d1, d2⟩ := pair_dm (i := I) hk
  obtain ⟨d3, d4⟩ := pair_dm (i := J) hk
  unfold upX upE lvX lvE
  dsimp only
  by_cases h0 : p = J * n + k
  · rw [if_pos h0, if_pos h0, h0, d3, d4]
    simp
  · rw [if_neg h0, if_neg h0]
    by_cases h1 : p = I * n + k
    · rw [if_pos h1, if_pos h1, h1, d1, d2]
      simp
    · rw [if_neg h1, if_neg h1]
      by_cases h2 : p % n < k
      · rw [if_pos h2, if_pos (show p % n < k + 1 by omega), if_pos h2, if_pos (show p % n < k + 1 by omega)]
        exact ⟨rfl, rfl⟩
      · rw [if_neg h2, if_neg h2]
        by_cases h3 : p % n = k
        · have hi : p / n ≠ I := fun e => h1 (by rw [hp, e, h3])
          have hj : p / n ≠ J := fun e => h0 (by rw [hp, e, h3])
          obtain ⟨f1, f2⟩ := tl_far (K := K) (I := I) (J := J) (M := M) (i := p / n) (j := p % n) hi (.inr hj)
          rw [if_pos (show p % n < k + 1 by omega), if_pos (show p % n < k + 1 by omega), f1, f2]
          exact ⟨rfl, rfl⟩
        · rw [if_neg (show ¬ p % n < k + 1 by omega), if_neg (show ¬ p % n < k + 1 by omega)]
          exact ⟨rfl, rfl⟩
end Go.Proofs.YtamiploliebplaaDoor
