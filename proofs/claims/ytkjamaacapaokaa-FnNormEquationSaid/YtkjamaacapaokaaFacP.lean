/- The prime factors: each is a prime, they rise, their powers multiply to the number. -/
import Derived.Test.YtkjamaacapaokaaSpl
namespace Go.Proofs.Ytkjamaacapaokaa
open Go.RowKit
set_option linter.unusedVariables false

/-- no divisor from 2 up to p - 1 -/
def ND (n p : Int) : Prop := ∀ d : Int, 2 ≤ d → d < p → n % d ≠ 0
theorem strip_pow : ∀ (g : Nat) (n p : Int), 1 ≤ n → 2 ≤ p → n < 2 ^ g → ∃ e : Nat, (strip g n p).2 = e ∧ n = p ^ e * (strip g n p).1 ∧ (strip g n p).1 % p ≠ 0
  | 0, n, p, h1, hp, hn => by simp at hn; omega
  | g + 1, n, p, h1, hp, hn => by
    by_cases hd : n % p = 0
    · rw [strip_step hd]
      have hv := div_half h1 hp hd
      rw [Int.pow_succ] at hn
      obtain ⟨e, e1, e2, e3⟩ := strip_pow g (n / p) p hv.1 hp (by omega)
      refine ⟨e + 1, by simp only; omega, ?_, e3⟩
      have := Int.emod_add_mul_ediv n p
      rw [hd] at this
      simp only
      rw [Int.pow_succ]
      generalize (strip g (n / p) p).1 = m at *
      rw [e2] at this
      grind
    · rw [strip_end hd]
      exact ⟨0, rfl, by simp, hd⟩
theorem pow_ge {p : Int} (hp : 2 ≤ p) : ∀ e : Nat, (2 : Int) ^ e ≤ p ^ e
  | 0 => by simp
  | e + 1 => by
    rw [Int.pow_succ, Int.pow_succ]
    exact Int.mul_le_mul (pow_ge hp e) hp (by omega) (Int.pow_nonneg (by omega))
theorem nd_miss : ∀ (f : Nat) (q p : Int), 2 ≤ p → 1 < q → q ≤ 1000000000 → 31624 ≤ f + p → (∀ d : Int, p ≤ d → d * d ≤ q → q % d ≠ 0) → facL f q p = [(q, 1)]
  | 0, q, p, hp, h1, h2, hf, h => by unfold facL; rw [if_pos h1]
  | f + 1, q, p, hp, h1, h2, hf, h => by
    by_cases hpp : p * p ≤ q
    · rw [facL_miss hpp (h p (Int.le_refl _) hpp)]
      exact nd_miss f q (p + 1) (by omega) h1 h2 (by omega) fun d hd => h d (by omega)
    · rw [facL_end hpp, if_pos h1]
theorem prm_of_nd {q : Int} (h1 : 1 < q) (h2 : q ≤ 1000000000) (h : ND q q) : prm q = true := by
  have : facs q = [(q, 1)] := nd_miss 40000 q 2 (by omega) h1 h2 (by omega) fun d hd hdd => h d hd (by
    rcases Int.lt_or_le d q with g | g
    · exact g
    · have := Int.mul_le_mul (a := 2) (b := q) (c := d) (d := d) hd g (by omega) (by omega)
      omega)
  rw [prm_one this]
  rfl
def prodL : List (Int × Int) → Int
  | [] => 1
  | x :: l => x.1 ^ x.2.toNat * prodL l
structure FP (p : Int) (x : Int × Int) : Prop where
  ge : p ≤ x.1
  le : x.1 ≤ 1000000000
  prime : prm x.1 = true
  e1 : 1 ≤ x.2
  e2 : x.2 ≤ 29
theorem facL_all : ∀ (f : Nat) (n p : Int), 2 ≤ p → 1 ≤ n → n ≤ 1000000000 → 31624 ≤ f + p → ND n p →
    (∀ x ∈ facL f n p, FP p x) ∧ (facL f n p).Pairwise (fun x y => x.1 < y.1) ∧ prodL (facL f n p) = n := by
  have last : ∀ (n p : Int), 2 ≤ p → 1 ≤ n → n ≤ 1000000000 → ¬ p * p ≤ n → ND n p →
      (∀ x ∈ (if 1 < n then [(n, (1 : Int))] else []), FP p x) ∧ (if 1 < n then [(n, (1 : Int))] else []).Pairwise (fun x y => x.1 < y.1) ∧ prodL (if 1 < n then [(n, (1 : Int))] else []) = n := by
    intro n p hp h1 h2 hpp hnd
    by_cases h : 1 < n
    · rw [if_pos h]
      refine ⟨fun x hx => ?_, by simp, by simp [prodL, Int.pow_succ]⟩
      rw [List.mem_singleton] at hx
      subst hx
      have hpn : p ≤ n := by
        rcases Int.lt_or_le n p with g | g
        · exact absurd (Int.emod_self) (hnd n (by omega) g)
        · exact g
      refine ⟨hpn, h2, prm_of_nd h h2 fun d hd hdn => ?_, by show (1 : Int) ≤ 1; omega, by show (1 : Int) ≤ 29; omega⟩
      rcases Int.lt_or_le d p with g | g
      · exact hnd d hd g
      · intro e
        have hq := div_half h1 hd e
        have h3 := Int.emod_add_mul_ediv n d
        rw [e] at h3
        have hc : n / d < p := by
          rcases Int.lt_or_le (n / d) p with k | k
          · exact k
          · have := Int.mul_le_mul (a := p) (b := p) (c := d) (d := n / d) g k (by omega) (by omega)
            omega
        have hc2 : 2 ≤ n / d := by
          rcases Int.lt_or_le (n / d) 2 with k | k
          · have : n / d = 1 := by omega
            rw [this] at h3
            omega
          · exact k
        refine hnd (n / d) hc2 hc ?_
        rw [show n = d * (n / d) by omega]
        conv => lhs; arg 1; rw [Int.mul_comm]
        rw [show d * (n / d) = n by omega]
        exact Int.mul_emod_right _ _
    · rw [if_neg h]
      exact ⟨by simp, by simp, by simp [prodL]; omega⟩
  intro f
  induction f with
  | zero =>
    intro n p hp h1 h2 hf hnd
    have hpp : ¬ p * p ≤ n := by
      have := Int.mul_le_mul (a := 31624) (b := 31624) (c := p) (d := p) (by omega) (by omega) (by omega) (by omega)
      omega
    exact last n p hp h1 h2 hpp hnd
  | succ f ih =>
    intro n p hp h1 h2 hf hnd
    by_cases hpp : p * p ≤ n
    · by_cases hm : n % p = 0
      · rw [facL_hit hpp hm]
        have hlt : n < 2 ^ 64 := by rw [show (2 : Int) ^ 64 = 18446744073709551616 by decide]; omega
        obtain ⟨e, e1, e2, e3⟩ := strip_pow 64 n p h1 hp hlt
        have hb := strip_bd 64 n p h1 hp
        have hpos := strip_pos h1 hp hm
        generalize (strip 64 n p).2 = s at *
        generalize (strip 64 n p).1 = m at *
        subst e1
        have hnd2 : ND m (p + 1) := by
          intro d hd hdp hmd
          rcases Int.lt_or_le d p with g | g
          · refine hnd d hd g ?_
            rw [e2]
            have h3 := Int.emod_add_mul_ediv m d
            rw [hmd] at h3
            rw [← h3, Int.zero_add, ← Int.mul_assoc, Int.mul_comm (p ^ e) d, Int.mul_assoc]
            exact Int.mul_emod_right _ _
          · have : d = p := by omega
            subst this
            exact e3 hmd
        obtain ⟨k1, k2, k3⟩ := ih m (p + 1) (by omega) (by omega) (by omega) (by omega) hnd2
        have hpe : p ^ e ≤ n := by
          have := Int.mul_le_mul_of_nonneg_left (a := 1) (b := m) (c := p ^ e) (by omega) (Int.pow_nonneg (by omega))
          omega
        have he29 : e ≤ 29 := by
          rcases Nat.lt_or_ge e 30 with g | g
          · omega
          · have h4 := pow_ge hp e
            have h5 : (2 : Int) ^ 30 ≤ 2 ^ e := by
              have := Nat.pow_le_pow_right (n := 2) (by omega) g
              exact_mod_cast this
            rw [show (2 : Int) ^ 30 = 1073741824 by decide] at h5
            omega
        refine ⟨fun x hx => ?_, ?_, ?_⟩
        · rcases List.mem_cons.1 hx with rfl | hx
          · refine ⟨Int.le_refl _, by have := Int.mul_le_mul_of_nonneg_left (a := 1) (b := p) (c := p) (by omega) (by omega); simp only; omega, ?_, hpos, by simp only; omega⟩
            refine prm_of_nd (by simp only; omega) (by have := Int.mul_le_mul_of_nonneg_left (a := 1) (b := p) (c := p) (by omega) (by omega); simp only; omega) fun d hd hdp hpd => ?_
            refine hnd d hd hdp ?_
            have h3 := Int.emod_add_mul_ediv p d
            simp only at hpd
            rw [hpd] at h3
            have h4 := Int.emod_add_mul_ediv n p
            rw [hm] at h4
            rw [← h4, Int.zero_add]
            conv => lhs; arg 1; arg 1; rw [← h3]
            rw [Int.zero_add, Int.mul_assoc]
            exact Int.mul_emod_right _ _
          · have := k1 x hx
            exact ⟨by have := this.ge; omega, this.le, this.prime, this.e1, this.e2⟩
        · refine List.pairwise_cons.2 ⟨fun x hx => ?_, k2⟩
          have := (k1 x hx).ge
          simp only
          omega
        · unfold prodL
          rw [k3, Int.toNat_natCast]
          exact e2.symm
      · rw [facL_miss hpp hm]
        have hnd2 : ND n (p + 1) := by
          intro d hd hdp
          rcases Int.lt_or_le d p with g | g
          · exact hnd d hd g
          · have : d = p := by omega
            rw [this]
            exact hm
        obtain ⟨k1, k2, k3⟩ := ih n (p + 1) (by omega) h1 h2 (by omega) hnd2
        refine ⟨fun x hx => ?_, k2, k3⟩
        have := k1 x hx
        exact ⟨by have := this.ge; omega, this.le, this.prime, this.e1, this.e2⟩
    · rw [facL_end hpp]
      exact last n p hp h1 h2 hpp hnd
theorem facs_all {n : Int} (h1 : 1 ≤ n) (h2 : n ≤ 1000000000) : (∀ x ∈ facs n, FP 2 x) ∧ (facs n).Pairwise (fun x y => x.1 < y.1) ∧ prodL (facs n) = n :=
  facL_all 40000 n 2 (by omega) h1 h2 (by omega) (fun d hd hd2 => by omega)

end Go.Proofs.Ytkjamaacapaokaa
