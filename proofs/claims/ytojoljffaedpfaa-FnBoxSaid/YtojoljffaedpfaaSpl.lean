/- Splitting a prime: the plain side: primes, whole roots, the first number that serves. -/
import Derived.Test.YtojoljffaedpfaaFac
import Derived.Test.YtojoljffaedpfaaQr
import Derived.Test.YtojoljffaedpfaaFlt
namespace Go.Proofs.Ytojoljffaedpfaa
open Go.RowKit
set_option linter.unusedVariables false

/-! ### A number whose factorisation is one prime is a prime -/
theorem facL_some : ∀ (f : Nat) (n p : Int), 1 < n → 2 ≤ p → facL f n p ≠ []
  | 0, n, p, h, _ => by unfold facL; rw [if_pos h]; simp
  | f + 1, n, p, h, hp => by
    unfold facL
    split
    · split
      · simp
      · exact facL_some f n (p + 1) h (by omega)
    · first | (rw [if_pos h]; simp; done) | simp
theorem facL_prime : ∀ (f : Nat) (n p : Int) (x : Int × Int), 2 ≤ p → 1 < n → n ≤ 1000000000 → 31624 ≤ f + p → facL f n p = [x] → x.2 = 1 → ∀ d : Int, p ≤ d → d * d ≤ n → n % d ≠ 0
  | 0, n, p, x, hp, h1, h2, hf, he, hx, d, hd, hdd => by
    have := Int.mul_le_mul (a := 31624) (b := 31624) (c := d) (d := d) (by omega) (by omega) (by omega) (by omega)
    omega
  | f + 1, n, p, x, hp, h1, h2, hf, he, hx, d, hd, hdd => by
    have hpd := Int.mul_le_mul (a := p) (b := p) (c := d) (d := d) hd hd (by omega) (by omega)
    have hpp : p * p ≤ n := by omega
    by_cases hm : n % p = 0
    · exfalso
      rw [facL_hit hpp hm] at he
      injection he with e1 e2
      have hdv := div_half (by omega) hp hm
      rw [← e1] at hx
      simp only at hx
      rw [strip_step hm] at hx e2
      simp only at hx e2
      have hz : (strip 63 (n / p) p).2 = 0 := by omega
      have hnm : n / p % p ≠ 0 := by
        intro e
        have e3 := strip_step (g := 62) (n := n / p) (p := p) e
        rw [e3] at hz
        simp only at hz
        have := strip_bd 62 (n / p / p) p (by have := div_half hdv.1 hp e; omega) hp
        omega
      rw [strip_end hnm] at e2
      simp only at e2
      have : ¬ 1 < n / p := fun h => facL_some f _ _ h (by omega) e2
      have h3 := Int.emod_add_mul_ediv n p
      rw [hm, show n / p = 1 by omega] at h3
      have := Int.mul_le_mul_of_nonneg_left (a := 2) (b := p) (c := p) (by omega) (by omega)
      omega
    · rw [facL_miss hpp hm] at he
      by_cases hdp : d = p
      · rw [hdp]; exact hm
      · exact facL_prime f n (p + 1) x (by omega) h1 h2 (by omega) he hx d (by omega) hdd
theorem prm_prime {n : Nat} (h1 : 2 ≤ n) (h2 : n ≤ 1000000000) (h : prm (n : Int) = true) : Q.Prm n := by
  unfold prm at h
  split at h
  · rename_i x hx
    have hf := facL_prime 40000 (n : Int) 2 x (by omega) (by omega) (by omega) (by omega) hx (by simpa using h)
    refine ⟨h1, fun d hd => ?_⟩
    obtain ⟨e, he⟩ := hd
    have key : ∀ a b : Nat, n = a * b → 2 ≤ a → a ≤ b → False := by
      intro a b hab ha hb
      have h3 := Nat.mul_le_mul_left a hb
      refine hf (a : Int) (by omega) ?_ ?_
      · have : ((a * a : Nat) : Int) ≤ (n : Int) := by omega
        rwa [Int.natCast_mul] at this
      · rw [hab, Int.natCast_mul]
        exact Int.mul_emod_right _ _
    rcases Nat.lt_or_ge d 2 with g | g
    · left
      rcases Nat.eq_zero_or_pos d with g2 | g2
      · subst g2; omega
      · omega
    · right
      rcases Nat.lt_or_ge e 2 with k | k
      · rcases Nat.eq_zero_or_pos e with g2 | g2
        · subst g2; omega
        · have : e = 1 := by omega
          subst this; omega
      · exfalso
        rcases Nat.le_total d e with l | l
        · exact key d e he g l
        · exact key e d (by rw [he, Nat.mul_comm]) k l
  · cases h

/-! ### The floor of a root -/
def fsq : Nat → Nat
  | 0 => 0
  | n + 1 => if (fsq n + 1) * (fsq n + 1) ≤ n + 1 then fsq n + 1 else fsq n
theorem fsq_spec : ∀ n, fsq n * fsq n ≤ n ∧ n < (fsq n + 1) * (fsq n + 1)
  | 0 => by decide
  | n + 1 => by
    obtain ⟨h1, h2⟩ := fsq_spec n
    unfold fsq
    split
    · rename_i h
      refine ⟨h, ?_⟩
      have : (fsq n + 1 + 1) * (fsq n + 1 + 1) = (fsq n + 1) * (fsq n + 1) + 2 * (fsq n + 1) + 1 := by grind
      omega
    · omega
/-- the floor of the root of an int -/
def fq (n : Int) : Int := (fsq n.toNat : Int)
theorem fq_eq {n r : Int} (hr : 0 ≤ r) (h1 : r * r ≤ n) (h2 : n < (r + 1) * (r + 1)) : fq n = r := by
  have h0 : 0 ≤ n := Int.le_trans (Q.sq0 r) h1
  obtain ⟨k1, k2⟩ := fsq_spec n.toNat
  unfold fq
  generalize fsq n.toNat = s at *
  have k1' : (s : Int) * s ≤ n := by
    have : ((s * s : Nat) : Int) ≤ ((n.toNat : Nat) : Int) := by omega
    rw [Int.natCast_mul] at this
    omega
  have k2' : n < ((s : Int) + 1) * (s + 1) := by
    have : ((n.toNat : Nat) : Int) < (((s + 1) * (s + 1) : Nat) : Int) := by omega
    rw [Int.natCast_mul, show ((s + 1 : Nat) : Int) = (s : Int) + 1 from rfl] at this
    omega
  rcases Int.lt_trichotomy (s : Int) r with g | g | g
  · have := Int.mul_le_mul (a := (s : Int) + 1) (b := (s : Int) + 1) (c := r) (d := r) (by omega) (by omega) (by omega) (by omega)
    omega
  · exact g
  · have := Int.mul_le_mul (a := r + 1) (b := r + 1) (c := (s : Int)) (d := (s : Int)) (by omega) (by omega) (by omega) (by omega)
    omega
theorem fq_of {n : Int} (h : 0 ≤ n) : 0 ≤ fq n ∧ fq n * fq n ≤ n ∧ n < (fq n + 1) * (fq n + 1) := by
  obtain ⟨k1, k2⟩ := fsq_spec n.toNat
  unfold fq
  generalize fsq n.toNat = s at *
  refine ⟨Int.natCast_nonneg _, ?_, ?_⟩
  · have : ((s * s : Nat) : Int) ≤ ((n.toNat : Nat) : Int) := by omega
    rw [Int.natCast_mul] at this
    omega
  · have : ((n.toNat : Nat) : Int) < (((s + 1) * (s + 1) : Nat) : Int) := by omega
    rw [Int.natCast_mul, show ((s + 1 : Nat) : Int) = (s : Int) + 1 from rfl] at this
    omega

/-! ### The first number that serves -/
def srv (p : Int) (q : Nat) : Bool := fq (p + 2 * q * q) * fq (p + 2 * q * q) == p + 2 * q * q
def spQ (p : Int) : Nat := ((List.range 31623).find? (srv p)).getD 0
def okSP (p : Int) : Bool := Wn p 2 1000000000 && prm p && (p == 2 || p % 8 == 1 || p % 8 == 7)
theorem spQ_spec {p : Int} (h : okSP p = true) : spQ p < 31623 ∧ srv p (spQ p) = true ∧ ∀ q, q < spQ p → srv p q = false := by
  simp only [okSP, Bool.and_eq_true, Bool.or_eq_true, beq_iff_eq] at h
  obtain ⟨⟨h1, h2⟩, h3⟩ := h
  have hb := Wn_iff.1 h1
  obtain ⟨n, rfl⟩ : ∃ n : Nat, p = n := ⟨p.toNat, by omega⟩
  have hex : ∃ q, q < 31623 ∧ srv n q = true := by
    have hp := prm_prime (n := n) (by omega) (by omega) h2
    have h4 : ∃ r q : Nat, r * r = n + 2 * (q * q) ∧ q * q < n ∨ (n = 2 ∧ q = 1 ∧ r = 2) := by
      rcases h3 with (h3 | h3) | h3
      · exact ⟨2, 1, .inr ⟨by omega, rfl, rfl⟩⟩
      · obtain ⟨r, q, k1, k2⟩ := Q.rep hp (.inl (by omega))
        exact ⟨r, q, .inl ⟨k1, k2⟩⟩
      · obtain ⟨r, q, k1, k2⟩ := Q.rep hp (.inr (by omega))
        exact ⟨r, q, .inl ⟨k1, k2⟩⟩
    obtain ⟨r, q, h5⟩ := h4
    have h6 : r * r = n + 2 * (q * q) ∧ q < 31623 := by
      rcases h5 with ⟨k1, k2⟩ | ⟨k1, k2, k3⟩
      · refine ⟨k1, ?_⟩
        rcases Nat.lt_or_ge q 31623 with g | g
        · exact g
        · have := Nat.mul_le_mul g g
          omega
      · subst k2; subst k3; omega
    refine ⟨q, h6.2, ?_⟩
    have e : (n : Int) + 2 * q * q = (r : Int) * r := by
      have : ((r * r : Nat) : Int) = ((n + 2 * (q * q) : Nat) : Int) := by rw [h6.1]
      rw [Int.natCast_add, Int.natCast_mul, Int.natCast_mul, Int.natCast_mul] at this
      rw [this, Int.mul_assoc]
      rfl
    have e2 : fq ((n : Int) + 2 * q * q) = r := by
      rw [e]
      refine fq_eq (by omega) (Int.le_refl _) ?_
      have : ((r : Int) + 1) * (r + 1) = r * r + 2 * r + 1 := by grind
      omega
    unfold srv
    rw [e2, e]
    simp
  obtain ⟨q, hq, hs⟩ := hex
  unfold spQ
  cases hf : (List.range 31623).find? (srv n) with
  | none =>
    rw [List.find?_range_eq_none] at hf
    have := hf q hq
    rw [hs] at this
    cases this
  | some i =>
    rw [List.find?_range_eq_some] at hf
    obtain ⟨k1, k2, k3⟩ := hf
    refine ⟨List.mem_range.1 k2, k1, fun j hj => ?_⟩
    have := k3 j hj
    simpa using this
def spR (p : Int) : Int := if okSP p then fq (p + 2 * spQ p * spQ p) else 0
def spK (p : Int) : Int := if okSP p then (spQ p : Int) else 0

end Go.Proofs.Ytojoljffaedpfaa
