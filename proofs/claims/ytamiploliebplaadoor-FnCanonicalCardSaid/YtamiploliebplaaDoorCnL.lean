/- Canonical phases: what is turned has the same canonical form (plain). -/
import Derived.Test.YtamiploliebplaaDoorStK
namespace Go.Proofs.YtamiploliebplaaDoor
open Go.RowKit
set_option linter.unusedVariables false
set_option linter.unusedSimpArgs false

theorem turns_add (x : R4) : ∀ a b, turns (a + b) x = turns a (turns b x)
  | 0, b => by rw [Nat.zero_add]; rfl
  | a + 1, b => by
    rw [show a + 1 + b = (a + b) + 1 by omega]
    show (turns (a + b) x).turn = (turns a (turns b x)).turn
    rw [turns_add x a b]
theorem turns_8 (x : R4) : turns 8 x = x := by
  obtain ⟨a, b, c, d⟩ := x
  simp [turns, R4.turn]
theorem turns_per (x : R4) (a : Nat) : ∀ m, turns (a + 8 * m) x = turns a x
  | 0 => rfl
  | m + 1 => by
    rw [show a + 8 * (m + 1) = (a + 8 * m) + 8 by omega, turns_add, turns_8, turns_per x a m]
theorem turns_mod (x : R4) (a : Nat) : turns a x = turns (a % 8) x := by
  conv => lhs; rw [show a = a % 8 + 8 * (a / 8) by omega]
  exact turns_per x _ _
theorem turns_fix {x : R4} {d : Nat} (hd : d < 8) (h : turns d x = x) (hx : x ≠ R4.zero) : d = 0 := by
  rcases Nat.eq_zero_or_pos d with h0 | h0
  · exact h0
  exfalso
  apply hx
  obtain ⟨a, b, c, e⟩ := x
  have : d = 1 ∨ d = 2 ∨ d = 3 ∨ d = 4 ∨ d = 5 ∨ d = 6 ∨ d = 7 := by omega
  simp only [R4.zero, R4.mk.injEq]
  rcases this with rfl | rfl | rfl | rfl | rfl | rfl | rfl <;> simp only [turns, R4.turn, R4.mk.injEq] at h <;> omega
theorem turns_inj {x : R4} {a b : Nat} (h : turns a x = turns b x) (hx : x ≠ R4.zero) : a % 8 = b % 8 := by
  have h1 : turns (8 - b % 8 + a) x = x := by
    rw [turns_add, h, ← turns_add, turns_mod, show (8 - b % 8 + b) % 8 = 0 by omega]
    rfl
  rw [turns_mod] at h1
  have := turns_fix (Nat.mod_lt _ (by omega)) h1 hx
  omega
theorem rLt_tri {x y : R4} (h1 : rLt x y = false) (h2 : rLt y x = false) : x = y := by
  obtain ⟨a, b, c, d⟩ := x
  obtain ⟨a', b', c', d'⟩ := y
  unfold rLt at h1 h2
  simp only [R4.mk.injEq] at *
  by_cases e1 : a = a'
  · subst e1
    by_cases e2 : b = b'
    · subst e2
      by_cases e3 : c = c'
      · subst e3
        simp at h1 h2
        omega
      · have e3' : ¬ c' = c := fun e => e3 e.symm
        simp [e3, e3'] at h1 h2
        omega
    · have e2' : ¬ b' = b := fun e => e2 e.symm
      simp [e2, e2'] at h1 h2
      omega
  · have e1' : ¬ a' = a := fun e => e1 e.symm
    simp [e1, e1'] at h1 h2
    omega
theorem rLt_iff (x y : R4) : rLt x y = true ↔ (x.a < y.a ∨ (x.a = y.a ∧ (x.b < y.b ∨ (x.b = y.b ∧ (x.c < y.c ∨ (x.c = y.c ∧ x.d < y.d)))))) := by
  unfold rLt
  by_cases e1 : x.a = y.a
  · by_cases e2 : x.b = y.b
    · by_cases e3 : x.c = y.c
      · simp [e1, e2, e3]
      · simp [e1, e2, e3]
    · simp [e1, e2]
  · simp [e1]
theorem rLt_trans {x y z : R4} (h1 : rLt x y = true) (h2 : rLt y z = true) : rLt x z = true := by
  rw [rLt_iff] at *
  omega
theorem rLt_irr (x : R4) : rLt x x = false := by
  cases h : rLt x x
  · rfl
  · rw [rLt_iff] at h
    omega
theorem cpB_max (x : R4) : ∀ n i, i ≤ n → rLt (turns (cpB x n) x) (turns i x) = false
  | 0, i, hi => by
    obtain rfl : i = 0 := by omega
    exact rLt_irr _
  | n + 1, i, hi => by
    unfold cpB
    cases hb : rLt (turns (cpB x n) x) (turns (n + 1) x)
    · simp only [Bool.false_eq_true, if_false]
      rcases Nat.lt_or_ge i (n + 1) with h | h
      · exact cpB_max x n i (by omega)
      · obtain rfl : i = n + 1 := by omega
        exact hb
    · simp only [if_true]
      rcases Nat.lt_or_ge i (n + 1) with h | h
      · cases h2 : rLt (turns (n + 1) x) (turns i x)
        · rfl
        · have := cpB_max x n i (by omega)
          rw [rLt_trans hb h2] at this
          cases this
      · obtain rfl : i = n + 1 := by omega
        exact rLt_irr _
theorem cpB_all (x : R4) (i : Nat) : rLt (turns (cpB x 7) x) (turns i x) = false := by
  rw [turns_mod x i]
  exact cpB_max x 7 _ (by omega)
/-- the best turn of a turned number gives the same number -/
theorem cpB_turn (x : R4) (j : Nat) : turns (cpB (turns j x) 7 + j) x = turns (cpB x 7) x := by
  have h1 := cpB_all x (cpB (turns j x) 7 + j)
  have h2 := cpB_all (turns j x) (cpB x 7 + 8 * j - j)
  rw [← turns_add, ← turns_add, show cpB x 7 + 8 * j - j + j = cpB x 7 + 8 * j by omega, turns_per] at h2
  exact rLt_tri h2 h1
theorem cpB_shift {x : R4} (hx : x ≠ R4.zero) (j : Nat) (y : R4) : turns (cpB (turns j x) 7) (turns j y) = turns (cpB x 7) y := by
  rw [← turns_add, turns_mod y, turns_inj (cpB_turn x j) hx, ← turns_mod]

theorem zero_turns (k : Nat) (x : R4) : turns k x = R4.zero ↔ x = R4.zero := by
  have h0 : ∀ k, turns k R4.zero = R4.zero := fun k => by
    induction k with
    | zero => rfl
    | succ k ih =>
      show (turns k R4.zero).turn = _
      rw [ih]
      rfl
  constructor
  · intro h
    have h1 : turns (8 * k - k) (turns k x) = x := by
      rw [← turns_add, show 8 * k - k + k = 0 + 8 * k by omega, turns_per]
      rfl
    rw [← h1, h, h0]
  · rintro rfl
    exact h0 k
theorem nz_iff {xs : List Int} {n j : Nat} (h : mOk xs n = true) (hj : j < n) : nzAt xs j = true ↔ dyAt xs j ≠ R4.zero := by
  have hg := GD_rg (mOk_at h hj)
  have he : dyAt xs j = R4.zero → exAt xs j = 0 := fun e => by
    rcases hg.2.2.2 with h4 | h4
    · exact h4
    · rw [e] at h4
      cases h4
  unfold nzAt
  unfold dyAt R4.zero at *
  unfold exAt at he
  simp only [Bool.not_eq_true', Bool.and_eq_false_iff, beq_eq_false_iff_ne, ne_eq, R4.mk.injEq] at *
  constructor
  · rintro (h1 | h1 | h1 | h1 | h1) e
    · exact h1 e.1
    · exact h1 e.2.1
    · exact h1 e.2.2.1
    · exact h1 e.2.2.2
    · exact h1 (he e)
  · intro h1
    by_cases e1 : at3 xs (j * 5) = 0
    · by_cases e2 : at3 xs (j * 5 + 1) = 0
      · by_cases e3 : at3 xs (j * 5 + 2) = 0
        · by_cases e4 : at3 xs (j * 5 + 3) = 0
          · exact absurd ⟨e1, e2, e3, e4⟩ h1
          · exact .inr (.inr (.inr (.inl e4)))
        · exact .inr (.inr (.inl e3))
      · exact .inr (.inl e2)
    · exact .inl e1
theorem nz_turn {xs : List Int} {n j : Nat} (h : mOk xs n = true) (hj : j < n) (k : Nat) : nzAt (cpM xs k n) j = nzAt xs j := by
  rw [Bool.eq_iff_iff, nz_iff (cpM_ok k h) hj, nz_iff h hj, (cpM_dy xs k hj).1, Ne, Ne, zero_turns]
theorem fz_turn {xs : List Int} {n : Nat} (h : mOk xs n = true) (k : Nat) : ∀ m, m ≤ n → fz (cpM xs k n) m = fz xs m
  | 0, _ => rfl
  | m + 1, hm => by
    have e : ∀ ys, fz ys (m + 1) = if fz ys m < 0 then (if nzAt ys m then (m : Int) else -1) else fz ys m := fun _ => rfl
    rw [e, e, fz_turn h k m (by omega), nz_turn h (by omega)]
theorem fz_nz {xs : List Int} : ∀ {n : Nat}, 0 ≤ fz xs n → nzAt xs (fz xs n).toNat = true
  | 0, h => absurd h (by show ¬ (0 : Int) ≤ -1; omega)
  | n + 1, h => by
    have e : fz xs (n + 1) = if fz xs n < 0 then (if nzAt xs n then (n : Int) else -1) else fz xs n := rfl
    rw [e] at h ⊢
    by_cases h1 : fz xs n < 0
    · rw [if_pos h1] at h ⊢
      by_cases h2 : nzAt xs n = true
      · rw [if_pos h2] at h ⊢
        simpa using h2
      · rw [if_neg h2] at h
        exact absurd h (by omega)
    · rw [if_neg h1] at h ⊢
      exact fz_nz (by omega)
theorem moL_congr' {X Y : Nat → R4} {E F : Nat → Int} : ∀ {n : Nat}, (∀ p, p < n → X p = Y p ∧ E p = F p) → moL X E n = moL Y F n
  | 0, _ => rfl
  | n + 1, h => by
    obtain ⟨h1, h2⟩ := h n (by omega)
    show moL X E n ++ _ = moL Y F n ++ _
    rw [moL_congr' fun p hp => h p (by omega), h1, h2]
/-- a turned matrix: good, and its canonical form is the same -/
theorem cp_turn {r c : Int} {n : Nat} {xs : List Int} (h : cpOk r c n xs = true) (k : Nat) : mGood r c n (cpM xs k n) = true ∧ cpOk r c n (cpM xs k n) = true ∧ cpM (cpM xs k n) (cpK n (cpM xs k n)) n = cpM xs (cpK n xs) n := by
  simp only [cpOk, Bool.and_eq_true, decide_eq_true_eq] at h
  obtain ⟨hg, hz⟩ := h
  obtain ⟨d1, d2, d3, hm⟩ := mGood_facts hg
  have hg' : mGood r c n (cpM xs k n) = true := by
    unfold mGood
    rw [d1, d2, cpM_ok k hm]
    simpa using d3
  have hf := fz_turn hm k n (Nat.le_refl _)
  have hb : (fz xs n).toNat < n := by
    rcases fz_bd xs n with h | h
    · omega
    · omega
  refine ⟨hg', ?_, ?_⟩
  · unfold cpOk
    rw [hg', hf]
    simpa using hz
  · have hx := (nz_iff hm hb).1 (fz_nz hz)
    have hk : ∀ y, turns (cpK n (cpM xs k n)) (turns k y) = turns (cpK n xs) y := fun y => by
      unfold cpK
      rw [hf, (cpM_dy xs k hb).1]
      exact cpB_shift hx k y
    refine moL_congr' fun p hp => ?_
    obtain ⟨e1, e2⟩ := cpM_dy xs k hp
    rw [e1, e2, hk]
    exact ⟨rfl, rfl⟩
theorem op_turn {r c : Int} {n : Nat} {xs : List Int} (h : cpOk r c n xs = true) (k : Nat) : opT r c n (cpM xs k n) = opT r c n xs := by
  obtain ⟨-, h2, h3⟩ := cp_turn h k
  unfold opT
  rw [h2, h, h3]

end Go.Proofs.YtamiploliebplaaDoor
