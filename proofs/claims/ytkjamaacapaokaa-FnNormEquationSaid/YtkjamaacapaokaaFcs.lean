/- The factors one by one: what a law reads. -/
import Derived.Test.YtkjamaacapaokaaFacP
import Derived.Test.YtkjamaacapaokaaFactor
namespace Go.Proofs.Ytkjamaacapaokaa
open Go.RowKit
set_option linter.unusedVariables false

theorem fl2_get : ∀ (L : List (Int × Int)) (j : Nat) (x : Int × Int), L[j]? = some x → (IL (fl2 L))[j * 2]? = some (.int .i64 x.1) ∧ (IL (fl2 L))[j * 2 + 1]? = some (.int .i64 x.2)
  | [], j, x, h => by simp at h
  | y :: L, 0, x, h => by
    simp only [List.getElem?_cons_zero, Option.some.injEq] at h
    subst h
    exact ⟨rfl, rfl⟩
  | y :: L, j + 1, x, h => by
    rw [List.getElem?_cons_succ] at h
    have := fl2_get L j x h
    rw [show (j + 1) * 2 = j * 2 + 1 + 1 by omega, show IL (fl2 (y :: L)) = .int .i64 y.1 :: .int .i64 y.2 :: IL (fl2 L) by rfl]
    simpa using this
theorem prodL_append : ∀ (a b : List (Int × Int)), prodL (a ++ b) = prodL a * prodL b
  | [], b => by simp [prodL]
  | x :: a, b => by
    show x.1 ^ x.2.toNat * prodL (a ++ b) = x.1 ^ x.2.toNat * prodL a * prodL b
    rw [prodL_append a b, Int.mul_assoc]
theorem pow_one_le {p : Int} (h : 2 ≤ p) (e : Nat) : 1 ≤ p ^ e := by
  have h1 := pow_ge h e
  have h2 : (0 : Int) < 2 ^ e := Int.pow_pos (by omega)
  omega
theorem mul_one_le {a b : Int} (ha : 1 ≤ a) (hb : 1 ≤ b) : 1 ≤ a * b ∧ a ≤ a * b := by
  have h1 := Int.mul_le_mul_of_nonneg_left (c := a) hb (by omega)
  rw [Int.mul_one] at h1
  exact ⟨by omega, h1⟩
theorem prodL_one : ∀ (a : List (Int × Int)), (∀ x ∈ a, 2 ≤ x.1) → 1 ≤ prodL a
  | [], _ => by simp [prodL]
  | x :: a, h => by
    unfold prodL
    exact (mul_one_le (pow_one_le (h x (by simp)) _) (prodL_one a fun y hy => h y (by simp [hy]))).1

/-- what a law reads of the factors of n -/
structure FW (n : Int) (L : List (Int × Int)) (M : Nat → Int) : Prop where
  m0 : M 0 = 1
  mN : M L.length = n
  step : ∀ j p e, L[j]? = some (p, e) → 2 ≤ p ∧ p ≤ 1000000000 ∧ 1 ≤ e ∧ e ≤ 29 ∧ prm p = true ∧ (∀ q, L[j + 1]? = some q → p < q.1) ∧
    ∃ G : Nat → Int, G 0 = M j ∧ G e.toNat = M (j + 1) ∧ ∀ k, k < e.toNat → G (k + 1) = G k * p ∧ 1 ≤ G k ∧ G k ≤ n ∧ G (k + 1) ≤ n ∧ 1 ≤ G (k + 1)
theorem fac_walk {n : Int} (hn : okF n = true) : FW n (facR n) fun j => prodL ((facR n).take j) := by
  have hb := Wn_iff.1 hn
  have hR : facR n = facs n := by unfold facR; rw [hn]; rfl
  rw [hR]
  obtain ⟨f1, f2, f3⟩ := facs_all hb.1 hb.2
  generalize facs n = L at *
  have ge2 : ∀ x ∈ L, 2 ≤ x.1 := fun x hx => (f1 x hx).ge
  refine ⟨rfl, by simpa using f3, fun j p e hj => ?_⟩
  have hmem := List.mem_of_getElem? hj
  have hp := f1 _ hmem
  have hlt : ∀ i, prodL (L.take i) ≤ n := by
    intro i
    have h1 : prodL (L.take i ++ L.drop i) = n := by rw [List.take_append_drop]; exact f3
    rw [prodL_append] at h1
    have := mul_one_le (prodL_one (L.take i) fun x hx => ge2 x (List.mem_of_mem_take hx)) (prodL_one (L.drop i) fun x hx => ge2 x (List.mem_of_mem_drop hx))
    omega
  have hj1 : prodL (L.take (j + 1)) = prodL (L.take j) * p ^ e.toNat := by
    rw [List.take_add_one, hj, prodL_append]
    simp [prodL]
  have hM := prodL_one (L.take j) fun x hx => ge2 x (List.mem_of_mem_take hx)
  have hup := hlt (j + 1)
  refine ⟨hp.ge, hp.le, hp.e1, hp.e2, hp.prime, ?_, fun k => prodL (L.take j) * p ^ k, by simp, hj1.symm, ?_⟩
  · intro q hq
    have := List.pairwise_iff_getElem.1 f2 j (j + 1) (List.getElem?_eq_some_iff.1 hj).1 (List.getElem?_eq_some_iff.1 hq).1 (by omega)
    rw [(List.getElem?_eq_some_iff.1 hj).2, (List.getElem?_eq_some_iff.1 hq).2] at this
    exact this
  · have key : ∀ k, k ≤ e.toNat → 1 ≤ prodL (L.take j) * p ^ k ∧ prodL (L.take j) * p ^ k ≤ n := by
      intro k hk
      obtain ⟨d, hd⟩ := Nat.le.dest hk
      have h1 := mul_one_le hM (pow_one_le hp.ge k)
      have h2 := mul_one_le h1.1 (pow_one_le hp.ge d)
      rw [Int.mul_assoc, ← Int.pow_add, hd, ← hj1] at h2
      exact ⟨h1.1, Int.le_trans h2.2 hup⟩
    intro k hk
    refine ⟨by simp only []; rw [Int.pow_succ, Int.mul_assoc], (key k (by omega)).1, (key k (by omega)).2, (key (k + 1) (by omega)).2, (key (k + 1) (by omega)).1⟩

theorem sp_bounds' {q : Nat} (h : q ≤ 31623) : 0 ≤ 2 * (q : Int) * q ∧ 2 * (q : Int) * q ≤ 2000028258 := by
  have := Int.mul_le_mul (a := (q : Int)) (b := (q : Int)) (c := 31623) (d := 31623) (by omega) (by omega) (by omega) (by omega)
  have h0 := Q.sq0 (q : Int)
  rw [Int.mul_assoc]
  omega
/-- the norm of what splits p -/
theorem sp_norm {p : Int} (h : okSP p = true) : normN (spR p) (spK p) = p ∧ R2 (spR p) (spK p) = true := by
  obtain ⟨h1, h2, _⟩ := spQ_spec h
  have hp : 2 ≤ p ∧ p ≤ 1000000000 := by
    simp only [okSP, Bool.and_eq_true] at h
    exact Wn_iff.1 h.1.1
  have hb := sp_bounds' (q := spQ p) (by omega)
  have hf := fq_of (n := p + 2 * spQ p * spQ p) (by omega)
  have hr : fq (p + 2 * spQ p * spQ p) ≤ 54773 := by
    by_cases hc : 54774 ≤ fq (p + 2 * spQ p * spQ p)
    · have := Int.mul_le_mul (a := 54774) (b := 54774) (c := fq (p + 2 * spQ p * spQ p)) (d := fq (p + 2 * spQ p * spQ p)) hc hc (by omega) (by omega)
      omega
    · omega
  have hR : spR p = fq (p + 2 * spQ p * spQ p) := if_pos h
  have hK : spK p = (spQ p : Int) := if_pos h
  have hs : fq (p + 2 * spQ p * spQ p) * fq (p + 2 * spQ p * spQ p) = p + 2 * spQ p * spQ p := by simpa [srv] using h2
  have hR2 : R2 (spR p) (spK p) = true := by
    unfold R2 Lim
    rw [hR, hK, Bool.and_eq_true]
    exact ⟨Wn_iff.2 (by omega), Wn_iff.2 (by omega)⟩
  refine ⟨?_, hR2⟩
  unfold normN
  rw [if_pos hR2, hR, hK, hs]
  grind

end Go.Proofs.Ytkjamaacapaokaa
