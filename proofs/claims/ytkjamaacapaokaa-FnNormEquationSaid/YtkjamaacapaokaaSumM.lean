/- Sums of two squares of absolute values: the plain law on the exponents of primes. -/
import Derived.Test.YtkjamaacapaokaaFac
namespace Go.Proofs.Ytkjamaacapaokaa
open Go.RowKit

theorem strip_uniq : ∀ (e g : Nat) (K p : Int), 2 ≤ p → K % p ≠ 0 → e ≤ g → strip g (K * p ^ e) p = (K, (e : Int)) := by
  intro e
  induction e with
  | zero => intro g K p _ hK _; rw [Int.pow_zero, Int.mul_one]; exact strip_end hK
  | succ e ih =>
    intro g K p hp hK hg
    obtain ⟨g, rfl⟩ : ∃ g', g = g' + 1 := ⟨g - 1, by omega⟩
    have e1 : K * p ^ (e + 1) = K * p ^ e * p := by rw [Int.pow_succ, Int.mul_assoc]
    have e2 : K * p ^ (e + 1) / p = K * p ^ e := by rw [e1]; exact Int.mul_ediv_cancel _ (by omega)
    rw [strip_step (by rw [e1]; exact Int.mul_emod_left _ _), e2, ih g K p hp hK (by omega)]
    simp
theorem strip_ex : ∀ (g : Nat) (n p : Int), 1 ≤ n → 2 ≤ p → n < 2 ^ g → ∃ (K : Int) (e : Nat), n = K * p ^ e ∧ K % p ≠ 0 ∧ 1 ≤ K ∧ e ≤ g ∧ strip g n p = (K, (e : Int)) := by
  intro g
  induction g with
  | zero => intro n p h1 _ h3; simp at h3; omega
  | succ g ih =>
    intro n p h1 hp h3
    by_cases hd : n % p = 0
    · have hv := div_half h1 hp hd
      rw [Int.pow_succ] at h3
      obtain ⟨K, e, i1, i2, i3, i4, i5⟩ := ih (n / p) p hv.1 hp (by omega)
      refine ⟨K, e + 1, ?_, i2, i3, by omega, ?_⟩
      · rw [Int.pow_succ, ← Int.mul_assoc, ← i1, Int.ediv_mul_cancel (Int.dvd_of_emod_eq_zero hd)]
      · rw [strip_step hd, i5]; simp
    · exact ⟨n, 0, by simp, hd, h1, by omega, by rw [strip_end hd]; rfl⟩

theorem gcd_small {m p q : Nat} (hq : 2 ≤ q) (hqp : q < p) (hA : ∀ d, 2 ≤ d → d < p → ¬ d ∣ m) {x : Nat} (hx : x ∣ m) : Nat.gcd x q = 1 := by
  have h1 : Nat.gcd x q ∣ m := Nat.dvd_trans (Nat.gcd_dvd_left _ _) hx
  have h2 : Nat.gcd x q ≤ q := Nat.le_of_dvd (by omega) (Nat.gcd_dvd_right _ _)
  have h3 : 0 < Nat.gcd x q := Nat.gcd_pos_of_pos_right _ (by omega)
  by_cases h : 2 ≤ Nat.gcd x q
  · exact absurd h1 (hA _ h (by omega))
  · omega

theorem facL_exp : ∀ (f : Nat) (m r p n0 : Nat), n0 = m * r → 1 ≤ m → 1 ≤ r → 2 ≤ p → n0 ≤ 1000000000 → (∀ d, 2 ≤ d → d < p → ¬ d ∣ m) → (∀ d, (∀ q, 2 ≤ q → q < p → Nat.gcd d q = 1) → Nat.gcd d r = 1) →
    ∀ x ∈ facL f (m : Int) (p : Int), 2 ≤ x.1 ∧ x.1 ≤ (n0 : Int) ∧ x.2 = (strip 64 (n0 : Int) x.1).2 := by
  have hend : ∀ (m r p n0 : Nat), n0 = m * r → 1 ≤ r → n0 ≤ 1000000000 → (∀ d, 2 ≤ d → d < p → ¬ d ∣ m) → (∀ d, (∀ q, 2 ≤ q → q < p → Nat.gcd d q = 1) → Nat.gcd d r = 1) →
      ∀ x ∈ (if 1 < (m : Int) then [((m : Int), (1 : Int))] else []), 2 ≤ x.1 ∧ x.1 ≤ (n0 : Int) ∧ x.2 = (strip 64 (n0 : Int) x.1).2 := by
    intro m r p n0 hn hr hlt hA hB x hx
    split at hx
    · rename_i h1
      rw [List.mem_singleton] at hx
      subst hx
      have hg : Nat.gcd m r = 1 := hB m fun q h2 h3 => gcd_small h2 h3 hA (Nat.dvd_refl m)
      have hm : ¬ m ∣ r := fun h => by
        rw [Nat.gcd_eq_left h] at hg
        omega
      have hle : m ≤ n0 := by rw [hn]; exact Nat.le_mul_of_pos_right _ hr
      have hu := strip_uniq 1 64 (r : Int) (m : Int) (by omega) (fun h => hm (by
        have := Int.dvd_of_emod_eq_zero h
        exact Int.natCast_dvd_natCast.1 this)) (by omega)
      rw [Int.pow_one, show (r : Int) * (m : Int) = (n0 : Int) by rw [hn]; push_cast; exact Int.mul_comm _ _] at hu
      refine ⟨?_, ?_, ?_⟩
      · show 2 ≤ (m : Int); omega
      · show (m : Int) ≤ n0; omega
      · show (1 : Int) = (strip 64 (n0 : Int) (m : Int)).2; rw [hu]; rfl
    · simp at hx
  intro f
  induction f with
  | zero =>
    intro m r p n0 hn hm hr hp hlt hA hB x hx
    unfold facL at hx
    exact hend m r p n0 hn hr hlt hA hB x hx
  | succ f ih =>
    intro m r p n0 hn hm hr hp hlt hA hB x hx
    by_cases hle : (p : Int) * p ≤ m
    · by_cases hd : (m : Int) % p = 0
      · rw [facL_hit hle hd] at hx
        have hpm : p ∣ m := Int.natCast_dvd_natCast.1 (Int.dvd_of_emod_eq_zero hd)
        have hmn : m ≤ n0 := by rw [hn]; exact Nat.le_mul_of_pos_right _ hr
        obtain ⟨K, e, i1, i2, i3, i4, i5⟩ := strip_ex 64 (m : Int) (p : Int) (by omega) (by omega) (by rw [show (2 : Int) ^ 64 = 18446744073709551616 by decide]; omega)
        obtain ⟨k, rfl⟩ : ∃ k : Nat, K = k := ⟨K.toNat, by omega⟩
        have j1 : m = k * p ^ e := by exact_mod_cast i1
        have hpk : ¬ p ∣ k := fun h => i2 (Int.emod_eq_zero_of_dvd (Int.natCast_dvd_natCast.2 h))
        have hgr : Nat.gcd p r = 1 := hB p fun q h2 h3 => gcd_small h2 h3 hA hpm
        have hpkr : ¬ p ∣ k * r := fun h => hpk (Nat.Coprime.dvd_of_dvd_mul_right hgr h)
        have hn' : n0 = k * (p ^ e * r) := by rw [hn, j1, Nat.mul_assoc]
        have hu := strip_uniq e 64 ((k * r : Nat) : Int) (p : Int) (by omega) (fun h => hpkr (Int.natCast_dvd_natCast.1 (Int.dvd_of_emod_eq_zero h))) (by omega)
        have hn'' : ((k * r : Nat) : Int) * (p : Int) ^ e = (n0 : Int) := by rw [hn']; push_cast; rw [Int.mul_assoc, Int.mul_comm (r : Int)]
        rw [hn''] at hu
        rw [i5] at hx
        rcases List.mem_cons.1 hx with rfl | hx
        · have hpn : p ≤ m := Nat.le_of_dvd (by omega) hpm
          refine ⟨?_, ?_, ?_⟩
          · show 2 ≤ (p : Int); omega
          · show (p : Int) ≤ n0; omega
          · show (e : Int) = (strip 64 (n0 : Int) (p : Int)).2; rw [hu]
        · have hkm : k ∣ m := ⟨p ^ e, j1⟩
          have hkle : k ≤ m := Nat.le_of_dvd (by omega) hkm
          refine ih k (p ^ e * r) (p + 1) n0 hn' (by omega) (Nat.mul_pos (Nat.pow_pos (by omega)) hr) (by omega) hlt ?_ ?_ x hx
          · intro d h2 h3 hdk
            by_cases h4 : d = p
            · exact hpk (h4 ▸ hdk)
            · exact hA d h2 (by omega) (Nat.dvd_trans hdk hkm)
          · intro d hq
            have h5 : Nat.Coprime d p := hq p hp (by omega)
            have h6 : Nat.Coprime d r := hB d fun q h2 h3 => hq q h2 (by omega)
            exact Nat.Coprime.mul_right (Nat.Coprime.pow_right e h5) h6
      · rw [facL_miss hle hd] at hx
        refine ih m r (p + 1) n0 hn hm hr (by omega) hlt ?_ (fun d hq => hB d fun q h2 h3 => hq q h2 (by omega)) x hx
        intro d h2 h3 hdm
        by_cases h4 : d = p
        · subst h4
          exact hd (Int.emod_eq_zero_of_dvd (Int.natCast_dvd_natCast.2 hdm))
        · exact hA d h2 (by omega) hdm
    · rw [facL_end hle] at hx
      exact hend m r p n0 hn hr hlt hA hB x hx
theorem facs_exp {n : Int} (h1 : 1 ≤ n) (h2 : n ≤ 1000000000) : ∀ x ∈ facs n, 2 ≤ x.1 ∧ x.1 ≤ n ∧ x.2 = (strip 64 n x.1).2 := by
  obtain ⟨m, rfl⟩ : ∃ m : Nat, n = m := ⟨n.toNat, by omega⟩
  exact facL_exp 40000 m 1 2 m (by simp) (by omega) (by omega) (by omega) (by omega) (fun d h2 h3 => absurd h2 (by omega)) (fun d _ => Nat.gcd_one_right d)

/-- a number is divided by p as long as both parts can be -/
def dv : Nat → Int → Int → Int → Int × Int × Int
  | 0, P, Q, _ => (P, Q, 0)
  | g + 1, P, Q, p => if P % p = 0 ∧ Int.tmod Q p = 0 then ((dv g (P / p) (Int.tdiv Q p) p).1, (dv g (P / p) (Int.tdiv Q p) p).2.1, (dv g (P / p) (Int.tdiv Q p) p).2.2 + 1) else (P, Q, 0)
theorem dv_end {g : Nat} {P Q p : Int} (h : ¬ (P % p = 0 ∧ Int.tmod Q p = 0)) : dv g P Q p = (P, Q, 0) := by
  cases g with
  | zero => rfl
  | succ g => unfold dv; rw [if_neg h]
theorem dv_step {g : Nat} {P Q p : Int} (h : P % p = 0 ∧ Int.tmod Q p = 0) : dv (g + 1) P Q p = ((dv g (P / p) (Int.tdiv Q p) p).1, (dv g (P / p) (Int.tdiv Q p) p).2.1, (dv g (P / p) (Int.tdiv Q p) p).2.2 + 1) := by
  conv => lhs; unfold dv
  rw [if_pos h]
def nm (P Q : Int) : Int := P * P - 2 * Q * Q
theorem nm_div {P Q p : Int} (h : P % p = 0 ∧ Int.tmod Q p = 0) : nm P Q = nm (P / p) (Int.tdiv Q p) * p ^ 2 := by
  have e1 : P = p * (P / p) := (Int.mul_ediv_cancel' (Int.dvd_of_emod_eq_zero h.1)).symm
  have e2 : Q = p * Int.tdiv Q p := (Int.mul_tdiv_cancel' (Int.dvd_of_tmod_eq_zero h.2)).symm
  generalize P / p = A at *
  generalize Int.tdiv Q p = B at *
  subst e1
  rw [e2]
  unfold nm
  rw [show p ^ 2 = p * p by rw [Int.pow_succ, Int.pow_succ, Int.pow_zero, Int.one_mul]]
  rw [Int.sub_mul]
  congr 1
  · ac_rfl
  · ac_rfl
theorem dv_all : ∀ (g : Nat) (P Q p : Int), 1 ≤ P → 2 ≤ p → 1 ≤ nm P Q → ∃ J : Nat, (dv g P Q p).2.2 = J ∧ J ≤ g ∧ nm P Q = nm (dv g P Q p).1 (dv g P Q p).2.1 * p ^ (2 * J) ∧ 1 ≤ (dv g P Q p).1 ∧ (dv g P Q p).1 ≤ P ∧ 1 ≤ nm (dv g P Q p).1 (dv g P Q p).2.1 := by
  intro g
  induction g with
  | zero => intro P Q p h1 _ h3; exact ⟨0, rfl, by omega, by simp [dv], h1, Int.le_refl _, h3⟩
  | succ g ih =>
    intro P Q p h1 hp h3
    by_cases h : P % p = 0 ∧ Int.tmod Q p = 0
    · have hv := div_half h1 hp h.1
      have e := nm_div h
      have h4 : 1 ≤ nm (P / p) (Int.tdiv Q p) := by
        by_cases h5 : 0 < nm (P / p) (Int.tdiv Q p)
        · omega
        · have hp2 : 0 < p ^ 2 := Int.pow_pos (by omega)
          have := Int.mul_nonneg (a := -nm (P / p) (Int.tdiv Q p)) (b := p ^ 2) (by omega) (by omega)
          rw [Int.neg_mul] at this
          omega
      obtain ⟨J, i1, i2, i3, i4, i5, i6⟩ := ih (P / p) (Int.tdiv Q p) p hv.1 hp h4
      rw [dv_step h]
      refine ⟨J + 1, by simp only [i1]; push_cast; rfl, by omega, ?_, i4, by simp only []; omega, i6⟩
      simp only []
      rw [e, i3, show 2 * (J + 1) = 2 * J + 2 by omega, Int.pow_add, Int.mul_assoc]
    · rw [dv_end h]
      exact ⟨0, rfl, by omega, by simp, h1, Int.le_refl _, h3⟩

/-- the condition for a prime -/
def evn (P Q p : Int) : Bool := ((dv 64 P Q p).2.2 % 2 == 0) && ((strip 64 (nm (dv 64 P Q p).1 (dv 64 P Q p).2.1) p).2 % 2 == 0)
theorem two_pow_le {p : Int} (hp : 2 ≤ p) : ∀ k : Nat, 1 ≤ p ^ k ∧ (2 : Int) ^ k ≤ p ^ k := by
  intro k
  induction k with
  | zero => simp
  | succ k ih =>
    rw [Int.pow_succ, Int.pow_succ]
    have := Int.mul_le_mul (a := (2 : Int) ^ k) (b := 2) (c := p ^ k) (d := p) ih.2 hp (by omega) (by omega)
    have := Int.mul_le_mul (a := 1) (b := 2) (c := p ^ k) (d := p) ih.1 hp (by omega) (by omega)
    omega
theorem exp_eq {P Q p : Int} (hP : 1 ≤ P) (hp : 2 ≤ p) (h1 : 1 ≤ nm P Q) (h2 : nm P Q ≤ 1000000000) :
    (strip 64 (nm P Q) p).2 = 2 * (dv 64 P Q p).2.2 + (strip 64 (nm (dv 64 P Q p).1 (dv 64 P Q p).2.1) p).2 := by
  obtain ⟨J, i1, i2, i3, i4, i5, i6⟩ := dv_all 64 P Q p hP hp h1
  generalize hn : nm (dv 64 P Q p).1 (dv 64 P Q p).2.1 = n at *
  have hpp : 1 ≤ p ^ (2 * J) := Int.pow_pos (by omega)
  have hle : n ≤ nm P Q := by
    rw [i3]
    have := Int.mul_le_mul_of_nonneg_left hpp (show 0 ≤ n by omega)
    omega
  obtain ⟨K, e, k1, k2, k3, k4, k5⟩ := strip_ex 64 n p i6 hp (by rw [show (2 : Int) ^ 64 = 18446744073709551616 by decide]; omega)
  have hK : nm P Q = K * p ^ (e + 2 * J) := by rw [i3, k1, Int.pow_add, Int.mul_assoc]
  have hbig : e + 2 * J ≤ 64 := by
    by_cases hc : e + 2 * J ≤ 64
    · exact hc
    · exfalso
      have h3 : (2 : Int) ^ 64 ≤ p ^ (e + 2 * J) := by
        obtain ⟨d, hd⟩ : ∃ d, e + 2 * J = 64 + d := ⟨e + 2 * J - 64, by omega⟩
        rw [hd, Int.pow_add]
        have a1 := (two_pow_le hp 64).2
        have a2 := (two_pow_le hp d).1
        have := Int.mul_le_mul (a := (2 : Int) ^ 64) (b := 1) (c := p ^ 64) (d := p ^ d) a1 a2 (by omega) (by omega)
        omega
      rw [show (2 : Int) ^ 64 = 18446744073709551616 by decide] at h3
      have := Int.mul_le_mul_of_nonneg_right k3 (show 0 ≤ p ^ (e + 2 * J) by omega)
      omega
  rw [hK, strip_uniq (e + 2 * J) 64 K p hp k2 hbig, k5, i1]
  simp only []
  omega

end Go.Proofs.Ytkjamaacapaokaa
