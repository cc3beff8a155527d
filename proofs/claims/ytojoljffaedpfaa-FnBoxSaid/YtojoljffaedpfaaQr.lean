/- Primes that leave 1 or 7 modulo 8 are r * r - 2 * q * q: plain number theory. -/
import Derived.WalkKit
namespace Go.Proofs.Ytojoljffaedpfaa.Q

/-- n leaves the same as m modulo p -/
def Md (p : Nat) (a b : Int) : Prop := (p : Int) ∣ a - b
theorem Md.refl (p : Nat) (a : Int) : Md p a a := ⟨0, by omega⟩
theorem Md.symm {p : Nat} {a b : Int} (h : Md p a b) : Md p b a := by
  obtain ⟨k, hk⟩ := h
  exact ⟨-k, by rw [Int.mul_neg]; omega⟩
theorem Md.trans {p : Nat} {a b c : Int} (h : Md p a b) (g : Md p b c) : Md p a c := by
  obtain ⟨k, hk⟩ := h
  obtain ⟨l, hl⟩ := g
  exact ⟨k + l, by rw [Int.mul_add]; omega⟩
theorem Md.mul {p : Nat} {a b c d : Int} (h : Md p a b) (g : Md p c d) : Md p (a * c) (b * d) := by
  obtain ⟨k, hk⟩ := h
  obtain ⟨l, hl⟩ := g
  refine ⟨k * c + b * l, ?_⟩
  have e1 : a = b + p * k := by omega
  have e2 : c = d + p * l := by omega
  rw [e1, e2]
  grind
theorem Md.add {p : Nat} {a b c d : Int} (h : Md p a b) (g : Md p c d) : Md p (a + c) (b + d) := by
  obtain ⟨k, hk⟩ := h
  obtain ⟨l, hl⟩ := g
  exact ⟨k + l, by rw [Int.mul_add]; omega⟩

theorem sq0 (x : Int) : 0 ≤ x * x := by
  rcases Int.le_total 0 x with h | h
  · exact Int.mul_nonneg h h
  · have := Int.mul_nonneg (a := -x) (b := -x) (by omega) (by omega)
    rwa [Int.neg_mul_neg] at this
theorem sqle {a k : Int} (h1 : -k ≤ a) (h2 : a ≤ k) : a * a ≤ k * k := by
  have := Int.mul_nonneg (a := k - a) (b := k + a) (by omega) (by omega)
  have e : (k - a) * (k + a) = k * k - a * a := by grind
  omega

/-- the only divisors are 1 and p -/
structure Prm (p : Nat) : Prop where
  two : 2 ≤ p
  div : ∀ d : Nat, d ∣ p → d = 1 ∨ d = p

theorem Prm.cop {p : Nat} (h : Prm p) {a : Nat} (ha : ¬ p ∣ a) : Nat.gcd p a = 1 := by
  rcases h.div _ (Nat.gcd_dvd_left p a) with h1 | h1
  · exact h1
  · exact absurd (h1 ▸ Nat.gcd_dvd_right p a) ha
theorem Prm.mul {p : Nat} (h : Prm p) {a b : Nat} (hd : p ∣ a * b) : p ∣ a ∨ p ∣ b := by
  by_cases ha : p ∣ a
  · exact .inl ha
  · exact .inr (Nat.Coprime.dvd_of_dvd_mul_left (h.cop ha) hd)
theorem Prm.imul {p : Nat} (h : Prm p) {a b : Int} (hd : (p : Int) ∣ a * b) : (p : Int) ∣ a ∨ (p : Int) ∣ b := by
  have h1 : p ∣ a.natAbs * b.natAbs := by
    have := Int.ofNat_dvd_left.1 hd
    rwa [Int.natAbs_mul] at this
  rcases h.mul h1 with h2 | h2
  · exact .inl (Int.ofNat_dvd_left.2 h2)
  · exact .inr (Int.ofNat_dvd_left.2 h2)

/-- m + 1 values below m: two are the same -/
theorem pigeon : ∀ (m : Nat) (f : Nat → Nat), (∀ i, i ≤ m → f i < m) → ∃ i j, i < j ∧ j ≤ m ∧ f i = f j := by
  intro m
  induction m with
  | zero => intro f h; have := h 0 (Nat.le_refl _); omega
  | succ m ih =>
    intro f h
    by_cases hc : ∃ i, i ≤ m ∧ f i = f (m + 1)
    · obtain ⟨i, hi, he⟩ := hc
      exact ⟨i, m + 1, by omega, Nat.le_refl _, he⟩
    · have hne : ∀ i, i ≤ m → f i ≠ f (m + 1) := fun i hi e => hc ⟨i, hi, e⟩
      obtain ⟨i, j, hij, hj, he⟩ := ih (fun i => if f i = m then f (m + 1) else f i) (fun i hi => by
        have h1 := h i (by omega)
        have h2 := h (m + 1) (Nat.le_refl _)
        have h3 := hne i hi
        split <;> omega)
      refine ⟨i, j, hij, by omega, ?_⟩
      have h1 := hne i (by omega)
      have h2 := hne j hj
      split at he <;> split at he <;> omega

/-- division modulo a prime -/
theorem Prm.quo {p : Nat} (h : Prm p) {x a : Nat} (hx : ¬ p ∣ x) : ∃ y, y < p ∧ x * y % p = a % p := by
  apply Classical.byContradiction
  intro hno
  have hno' : ∀ y, y < p → x * y % p ≠ a % p := fun y hy e => hno ⟨y, hy, e⟩
  have hp : 0 < p := by have := h.two; omega
  obtain ⟨i, j, hij, hj, he⟩ := pigeon (p - 1) (fun i => if x * i % p = p - 1 then a % p else x * i % p) (fun i hi => by
    have h1 := hno' i (by omega)
    have h2 := Nat.mod_lt (x * i) hp
    have h3 := Nat.mod_lt a hp
    split <;> omega)
  have h1 := hno' i (by omega)
  have h2 := hno' j (by omega)
  have he' : x * i % p = x * j % p := by
    split at he <;> split at he <;> omega
  have hd : p ∣ x * (j - i) := by
    rw [Nat.mul_sub]
    exact Nat.dvd_of_mod_eq_zero (Nat.sub_mod_eq_zero_of_mod_eq he'.symm)
  rcases h.mul hd with h3 | h3
  · exact hx h3
  · have := Nat.le_of_dvd (by omega) h3
    omega

def prod : List Nat → Int
  | [] => 1
  | x :: l => (x : Int) * prod l
theorem prod_cons (x : Nat) (l : List Nat) : prod (x :: l) = x * prod l := rfl
theorem prod_perm {l m : List Nat} (h : l.Perm m) : prod l = prod m := by
  induction h with
  | nil => rfl
  | cons x _ ih => rw [prod_cons, prod_cons, ih]
  | swap x y l => simp only [prod_cons]; rw [← Int.mul_assoc, ← Int.mul_assoc, Int.mul_comm (y : Int) x]
  | trans _ _ ih1 ih2 => exact ih1.trans ih2

/-- what is paired, each pair with the product a -/
theorem pairs {p : Nat} (a : Int) (s : Nat → Nat) : ∀ (n : Nat) (l : List Nat), l.length = n → l.Nodup → (∀ x ∈ l, s x ∈ l ∧ s x ≠ x ∧ s (s x) = x ∧ Md p ((x : Int) * s x) a) →
    ∃ k, l.length = 2 * k ∧ Md p (prod l) (a ^ k) := by
  intro n
  induction n using Nat.strongRecOn with
  | _ n ih =>
    intro l hl hn h
    match l, hl with
    | [], _ => exact ⟨0, rfl, by rw [Int.pow_zero]; exact Md.refl _ _⟩
    | x :: t, hl =>
      obtain ⟨h1, h2, h3, h4⟩ := h x (by simp)
      have hst : s x ∈ t := by
        rcases List.mem_cons.1 h1 with e | e
        · exact absurd e h2
        · exact e
      have hnt := (List.nodup_cons.1 hn).2
      have hxt := (List.nodup_cons.1 hn).1
      have hlen : (t.erase (s x)).length = t.length - 1 := by rw [List.length_erase_of_mem hst]
      have htpos : 0 < t.length := List.length_pos_of_mem hst
      obtain ⟨k, hk, hm⟩ := ih (t.erase (s x)).length (by simp at hl; omega) (t.erase (s x)) rfl (hnt.erase _) (fun y hy => by
        have hy2 := (hnt.mem_erase_iff).1 hy
        obtain ⟨g1, g2, g3, g4⟩ := h y (by simp [hy2.2])
        refine ⟨(hnt.mem_erase_iff).2 ⟨?_, ?_⟩, g2, g3, g4⟩
        · intro e
          have : y = x := by rw [← g3, e, h3]
          rw [this] at hy2
          exact hxt hy2.2
        · rcases List.mem_cons.1 g1 with e | e
          · exfalso
            apply hy2.1
            rw [← g3, e]
          · exact e)
      refine ⟨k + 1, by simp; omega, ?_⟩
      have e1 : prod (x :: t) = ((x : Int) * s x) * prod (t.erase (s x)) := by
        rw [prod_cons, prod_perm (List.perm_cons_erase hst), prod_cons, Int.mul_assoc]
      rw [e1, Int.pow_succ, Int.mul_comm (a ^ k)]
      exact h4.mul hm

theorem Prm.sur {p : Nat} (h : Prm p) {a : Nat} (ha : ¬ p ∣ a) : ∃ s : Nat → Nat, ∀ x, 0 < x → x < p → 0 < s x ∧ s x < p ∧ s (s x) = x ∧ Md p ((x : Int) * s x) a := by
  have hp : 0 < p := by have := h.two; omega
  have hx : ∀ x, 0 < x → x < p → ¬ p ∣ x := fun x h1 h2 hd => by have := Nat.le_of_dvd h1 hd; omega
  have hex : ∀ x : Nat, ∃ y, (0 < x ∧ x < p) → y < p ∧ x * y % p = a % p := fun x => by
    by_cases hd : 0 < x ∧ x < p
    · obtain ⟨y, h1, h2⟩ := h.quo (a := a) (hx x hd.1 hd.2)
      exact ⟨y, fun _ => ⟨h1, h2⟩⟩
    · exact ⟨0, fun e => absurd e hd⟩
  obtain ⟨s, hs⟩ := Classical.axiomOfChoice hex
  have key : ∀ x, 0 < x → x < p → 0 < s x := by
    intro x h1 h2
    obtain ⟨g1, g2⟩ := hs x ⟨h1, h2⟩
    rcases Nat.eq_zero_or_pos (s x) with e | e
    · rw [e, Nat.mul_zero, Nat.zero_mod] at g2
      exact absurd (Nat.dvd_of_mod_eq_zero g2.symm) ha
    · exact e
  refine ⟨s, fun x h1 h2 => ?_⟩
  have k1 := key x h1 h2
  obtain ⟨k2, k3⟩ := hs x ⟨h1, h2⟩
  obtain ⟨l2, l3⟩ := hs (s x) ⟨k1, k2⟩
  refine ⟨k1, k2, ?_, ?_⟩
  · have e : s x * s (s x) % p = s x * x % p := by rw [l3, Nat.mul_comm (s x) x, k3]
    rcases Nat.lt_trichotomy (s (s x)) x with g | g | g
    · exfalso
      have hd : p ∣ s x * (x - s (s x)) := by rw [Nat.mul_sub]; exact Nat.dvd_of_mod_eq_zero (Nat.sub_mod_eq_zero_of_mod_eq e.symm)
      rcases h.mul hd with h3 | h3
      · exact hx _ k1 k2 h3
      · have := Nat.le_of_dvd (by omega) h3; omega
    · exact g
    · exfalso
      have hd : p ∣ s x * (s (s x) - x) := by rw [Nat.mul_sub]; exact Nat.dvd_of_mod_eq_zero (Nat.sub_mod_eq_zero_of_mod_eq e)
      rcases h.mul hd with h3 | h3
      · exact hx _ k1 k2 h3
      · have := Nat.le_of_dvd (by omega) h3; omega
  · have e : ((x * s x : Nat) : Int) % (p : Int) = ((a : Nat) : Int) % (p : Int) := by rw [← Int.natCast_emod, ← Int.natCast_emod, k3]
    have e2 := Int.emod_eq_emod_iff_emod_sub_eq_zero.1 e
    rw [Int.natCast_mul] at e2
    exact Int.dvd_of_emod_eq_zero e2

theorem prod_append (l m : List Nat) : prod (l ++ m) = prod l * prod m := by
  induction l with
  | nil => simp [prod]
  | cons x l ih => rw [List.cons_append, prod_cons, prod_cons, ih, Int.mul_assoc]
theorem Md.neg1 (p : Nat) (hp : 1 ≤ p) : Md p ((p - 1 : Nat) : Int) (-1) := ⟨1, by omega⟩

/-- the product of all is -1 -/
theorem wilson {p : Nat} (h : Prm p) (h3 : 3 ≤ p) : Md p (prod (List.range' 1 (p - 1))) (-1) := by
  have hn1 : ¬ p ∣ 1 := fun hd => by have := Nat.le_of_dvd (by omega) hd; omega
  obtain ⟨s, hs⟩ := h.sur hn1
  have e : List.range' 1 (p - 1) = 1 :: (List.range' 2 (p - 3) ++ [p - 1]) := by
    obtain ⟨n, rfl⟩ : ∃ n, p = n + 3 := ⟨p - 3, by omega⟩
    rw [show n + 3 - 1 = (n + 1) + 1 by omega, List.range'_succ, show n + 3 - 3 = n by omega, List.range'_concat]
    simp
    omega
  have hmem : ∀ x, x ∈ List.range' 2 (p - 3) ↔ 2 ≤ x ∧ x < p - 1 := fun x => by rw [List.mem_range'_1]; omega
  have inv1 : ∀ x, 0 < x → x < p → Md p ((x : Int) * x) 1 → x = 1 ∨ x = p - 1 := by
    intro x h1 h2 hm
    have hd : (p : Int) ∣ ((x : Int) - 1) * (x + 1) := by
      obtain ⟨k, hk⟩ := hm
      exact ⟨k, by rw [← hk]; grind⟩
    rcases h.imul hd with ⟨k, hk⟩ | ⟨k, hk⟩
    · left
      have : k = 0 := by
        rcases Int.lt_trichotomy k 0 with g | g | g
        · have := Int.mul_le_mul_of_nonneg_left (a := k) (b := -1) (c := (p : Int)) (by omega) (by omega); omega
        · exact g
        · have := Int.mul_le_mul_of_nonneg_left (a := 1) (b := k) (c := (p : Int)) (by omega) (by omega); omega
      subst this
      omega
    · right
      have : k = 1 := by
        rcases Int.lt_trichotomy k 1 with g | g | g
        · have := Int.mul_le_mul_of_nonneg_left (a := k) (b := 0) (c := (p : Int)) (by omega) (by omega); omega
        · exact g
        · have := Int.mul_le_mul_of_nonneg_left (a := 2) (b := k) (c := (p : Int)) (by omega) (by omega); omega
      subst this
      omega
  have one : ∀ x, 0 < x → x < p → Md p (x : Int) 1 → x = 1 := by
    rintro x h1 h2 ⟨k, hk⟩
    have : k = 0 := by
      rcases Int.lt_trichotomy k 0 with g | g | g
      · have := Int.mul_le_mul_of_nonneg_left (a := k) (b := -1) (c := (p : Int)) (by omega) (by omega); omega
      · exact g
      · have := Int.mul_le_mul_of_nonneg_left (a := 1) (b := k) (c := (p : Int)) (by omega) (by omega); omega
    subst this
    omega
  obtain ⟨k, hk, hm⟩ := pairs (p := p) 1 s _ (List.range' 2 (p - 3)) rfl List.nodup_range' (fun x hx => by
    have hx2 := (hmem x).1 hx
    obtain ⟨g1, g2, g3, g4⟩ := hs x (by omega) (by omega)
    refine ⟨(hmem _).2 ⟨?_, ?_⟩, ?_, g3, by simpa using g4⟩
    · rcases Nat.lt_or_ge (s x) 2 with c | c
      · exfalso
        have e1 : s x = 1 := by omega
        rw [e1] at g4
        have := one x (by omega) (by omega) (by simpa using g4)
        omega
      · exact c
    · rcases Nat.lt_or_ge (s x) (p - 1) with c | c
      · exact c
      · exfalso
        have e1 : s x = p - 1 := by omega
        rw [e1] at g4
        have g5 : Md p ((x : Int) * (-1)) 1 := ((Md.refl p (x : Int)).mul (Md.neg1 p (by omega)).symm).trans (by simpa using g4)
        have g6 := g5.mul (Md.refl p (-1 : Int))
        have g7 : Md p (x : Int) (-1) := by simpa using g6
        obtain ⟨k, hk⟩ := g7
        have : k = 1 := by
          rcases Int.lt_trichotomy k 1 with g | g | g
          · have := Int.mul_le_mul_of_nonneg_left (a := k) (b := 0) (c := (p : Int)) (by omega) (by omega); omega
          · exact g
          · have := Int.mul_le_mul_of_nonneg_left (a := 2) (b := k) (c := (p : Int)) (by omega) (by omega); omega
        subst this
        omega
    · intro c
      rw [c] at g4
      rcases inv1 x (by omega) (by omega) (by simpa using g4) with c2 | c2 <;> omega)
  rw [Int.one_pow] at hm
  rw [e, prod_cons, prod_append]
  have h9 : prod [p - 1] = ((p - 1 : Nat) : Int) := by simp [prod]
  rw [h9]
  have := (Md.refl p ((1 : Nat) : Int)).mul (hm.mul (Md.neg1 p (by omega)))
  simpa using this

/-- a number that is no square: half the power is the product of all -/
theorem nonsq {p : Nat} (h : Prm p) {a : Nat} (ha : ¬ p ∣ a) (hns : ∀ x : Nat, ¬ Md p ((x : Int) * x) a) : ∃ k, p - 1 = 2 * k ∧ Md p (prod (List.range' 1 (p - 1))) ((a : Int) ^ k) := by
  obtain ⟨s, hs⟩ := h.sur ha
  have h2 := h.two
  have hmem : ∀ x, x ∈ List.range' 1 (p - 1) ↔ 1 ≤ x ∧ x < p := fun x => by rw [List.mem_range'_1]; omega
  obtain ⟨k, hk, hm⟩ := pairs (p := p) (a : Int) s _ (List.range' 1 (p - 1)) rfl List.nodup_range' (fun x hx => by
    have hx2 := (hmem x).1 hx
    obtain ⟨g1, g2, g3, g4⟩ := hs x (by omega) (by omega)
    refine ⟨(hmem _).2 ⟨g1, g2⟩, ?_, g3, g4⟩
    intro c
    rw [c] at g4
    exact hns x g4)
  exact ⟨k, by simpa using hk, hm⟩

def fact : Nat → Int
  | 0 => 1
  | n + 1 => fact n * (n + 1)
def evens : Nat → Int
  | 0 => 1
  | n + 1 => evens n * (2 * (n + 1))
def odds : Nat → Int
  | 0 => 1
  | n + 1 => odds n * (2 * n + 1)
theorem dfact : ∀ t, evens t * odds t = fact (2 * t)
  | 0 => rfl
  | t + 1 => by
    have := dfact t
    rw [show 2 * (t + 1) = 2 * t + 1 + 1 by omega]
    unfold fact fact evens odds
    rw [← this]
    push_cast
    grind
theorem dfact1 (t : Nat) : evens t * odds (t + 1) = fact (2 * t + 1) := by
  have := dfact t
  unfold fact odds
  rw [← this]
  push_cast
  grind
theorem evens_pow : ∀ n, evens n = 2 ^ n * fact n
  | 0 => rfl
  | n + 1 => by
    unfold evens fact
    rw [evens_pow n, Int.pow_succ]
    grind
/-- the b greatest even ones up to 2 n -/
def gd (n : Nat) : Nat → Int
  | 0 => 1
  | b + 1 => gd n b * (2 * ((n : Int) - b))
theorem evens_gd (n : Nat) : ∀ b, b ≤ n → evens n = evens (n - b) * gd n b
  | 0, _ => by simp [gd]
  | b + 1, h => by
    have h1 := evens_gd n b (by omega)
    have e1 : evens (n - b) = evens (n - (b + 1)) * (2 * ((n : Int) - b)) := by
      have e : n - b = (n - (b + 1)) + 1 := by omega
      have e2 : evens ((n - (b + 1)) + 1) = evens (n - (b + 1)) * (2 * (((n - (b + 1) : Nat) : Int) + 1)) := rfl
      rw [e, e2, show ((n - (b + 1) : Nat) : Int) + 1 = (n : Int) - b by omega]
    have e3 : gd n (b + 1) = gd n b * (2 * ((n : Int) - b)) := rfl
    rw [h1, e1, e3]
    generalize evens (n - (b + 1)) = A
    generalize gd n b = B
    generalize (n : Int) - b = C
    grind
theorem gd_odds {p n : Nat} (hp : p = 2 * n + 1) : ∀ b, Md p (gd n b) ((-1) ^ b * odds b)
  | 0 => Md.refl _ _
  | b + 1 => by
    unfold gd odds
    rw [Int.pow_succ]
    have h1 : Md p (2 * ((n : Int) - b)) (-(2 * b + 1)) := ⟨1, by omega⟩
    have h2 := (gd_odds hp b).mul h1
    have e : (-1 : Int) ^ b * odds b * -(2 * b + 1) = (-1) ^ b * -1 * (odds b * (2 * b + 1)) := by grind
    rw [e] at h2
    exact h2
theorem fact_ndvd {p : Nat} (h : Prm p) : ∀ n, n < p → ¬ (p : Int) ∣ fact n
  | 0, _ => fun ⟨k, hk⟩ => by
    have h2 := h.two
    unfold fact at hk
    have : (p : Int) ∣ 1 := ⟨k, hk⟩
    have := Int.le_of_dvd (by omega) this
    omega
  | n + 1, hn => fun hd => by
    unfold fact at hd
    rcases h.imul hd with g | g
    · exact fact_ndvd h n (by omega) g
    · have := Int.le_of_dvd (by omega) g
      omega
/-- the half power of 2 is 1 -/
theorem two_pow {p : Nat} (h : Prm p) {n a b : Nat} (hp : p = 2 * n + 1) (hab : a + b = n) (hb : ∃ c, b = 2 * c) (hf : evens a * odds b = fact n) : Md p (2 ^ n) 1 := by
  have e1 := evens_gd n b (by omega)
  rw [show n - b = a by omega, evens_pow] at e1
  have h1 := (Md.refl p (evens a)).mul (gd_odds hp b)
  obtain ⟨c, rfl⟩ := hb
  have e2 : ((-1 : Int)) ^ (2 * c) = 1 := by rw [Int.pow_mul, show (-1 : Int) ^ 2 = 1 by decide, Int.one_pow]
  rw [← e1, e2, Int.one_mul, hf] at h1
  have hd : (p : Int) ∣ (2 ^ n - 1) * fact n := by
    obtain ⟨k, hk⟩ := h1
    exact ⟨k, by rw [← hk]; grind⟩
  rcases h.imul hd with g | g
  · exact g
  · exact absurd g (fact_ndvd h n (by omega))
/-- 2 is a square -/
theorem two_sq {p : Nat} (h : Prm p) (h8 : p % 8 = 1 ∨ p % 8 = 7) : ∃ s : Nat, Md p ((s : Int) * s) 2 := by
  apply Classical.byContradiction
  intro hno
  have h2 := h.two
  have h3 : 3 ≤ p := by omega
  have hnd : ¬ p ∣ 2 := fun hd => by have := Nat.le_of_dvd (by omega) hd; omega
  obtain ⟨k, hk, hm⟩ := nonsq h (a := 2) hnd (fun x hx => hno ⟨x, hx⟩)
  have hw := wilson h h3
  have hp1 : Md p (2 ^ k) 1 := by
    rcases h8 with h8 | h8
    · obtain ⟨m, hm⟩ : ∃ m, p = 8 * m + 1 := ⟨p / 8, by omega⟩
      exact two_pow h (n := k) (a := 2 * m) (b := 2 * m) (by omega) (by omega) ⟨m, rfl⟩ (by rw [dfact]; congr 1; omega)
    · obtain ⟨m, hm⟩ : ∃ m, p = 8 * m + 7 := ⟨p / 8, by omega⟩
      exact two_pow h (n := k) (a := 2 * m + 1) (b := 2 * m + 2) (by omega) (by omega) ⟨m + 1, by omega⟩ (by rw [show 2 * m + 2 = (2 * m + 1) + 1 by omega, dfact1]; congr 1; omega)
  have := (hw.symm.trans hm).trans hp1
  obtain ⟨c, hc⟩ := this
  have hd : (p : Int) ∣ 2 := ⟨-c, by rw [Int.mul_neg]; omega⟩
  have := Int.le_of_dvd (by omega) hd
  omega

theorem irr : ∀ (n x y : Nat), x ≤ n → x * x = 2 * (y * y) → x = 0 := by
  intro n
  induction n using Nat.strongRecOn with
  | _ n ih =>
    intro x y hx he
    rcases Nat.eq_zero_or_pos x with h0 | h0
    · exact h0
    · have h2 : x % 2 = 0 := by
        rcases Nat.mod_two_eq_zero_or_one x with h | h
        · exact h
        · have := Nat.mul_mod x x 2
          rw [h, he] at this
          omega
      obtain ⟨u, rfl⟩ : ∃ u, x = 2 * u := ⟨x / 2, by omega⟩
      have e2 : y * y = 2 * (u * u) := by
        have : 2 * u * (2 * u) = 2 * (2 * (u * u)) := by grind
        omega
      have hyx : y < 2 * u := by
        rcases Nat.lt_or_ge y (2 * u) with h | h
        · exact h
        · have := Nat.mul_le_mul h h
          have : 2 * u * (2 * u) = 2 * (2 * (u * u)) := by grind
          have : 0 < u * u := Nat.mul_pos (by omega) (by omega)
          omega
      have hy := ih y (by omega) y u (Nat.le_refl _) e2
      subst hy
      have : u * u = 0 := by omega
      rcases Nat.mul_eq_zero.1 this with h | h <;> omega

/-- two small numbers in the ratio s -/
theorem thue {p s : Nat} (h : Prm p) : ∃ x y : Int, Md p x (s * y) ∧ x * x < p ∧ y * y < p ∧ ¬ (x = 0 ∧ y = 0) := by
  have hp := h.two
  obtain ⟨k, hk1, hk2⟩ : ∃ k : Nat, k * k ≤ p ∧ p < (k + 1) * (k + 1) := by
    have : ∀ n : Nat, ∃ k : Nat, k * k ≤ n ∧ n < (k + 1) * (k + 1) := by
      intro n
      induction n with
      | zero => exact ⟨0, by omega, by omega⟩
      | succ n ih =>
        obtain ⟨k, h1, h2⟩ := ih
        by_cases hc : n + 1 < (k + 1) * (k + 1)
        · exact ⟨k, by omega, hc⟩
        · refine ⟨k + 1, by omega, ?_⟩
          have : (k + 1 + 1) * (k + 1 + 1) = (k + 1) * (k + 1) + 2 * (k + 1) + 1 := by grind
          omega
    exact this p
  have hne : k * k ≠ p := by
    intro e
    have hd : k ∣ p := ⟨k, e.symm⟩
    rcases h.div k hd with h1 | h1
    · subst h1; omega
    · rw [h1] at e
      have := Nat.mul_le_mul_left p hp
      omega
  obtain ⟨i, j, hij, hj, he⟩ := pigeon p (fun i => (i % (k + 1) + s * (p - 1) % p * (i / (k + 1))) % p) (fun i _ => Nat.mod_lt _ (by omega))
  have hi2 : i / (k + 1) ≤ k := by
    have : i / (k + 1) < k + 1 := Nat.div_lt_of_lt_mul (by omega)
    omega
  have hj2 : j / (k + 1) ≤ k := by
    have : j / (k + 1) < k + 1 := Nat.div_lt_of_lt_mul (by omega)
    omega
  have hi1 : i % (k + 1) < k + 1 := Nat.mod_lt _ (by omega)
  have hj1 : j % (k + 1) < k + 1 := Nat.mod_lt _ (by omega)
  have di := Nat.div_add_mod i (k + 1)
  have dj := Nat.div_add_mod j (k + 1)
  have hnot : ¬ (i % (k + 1) = j % (k + 1) ∧ i / (k + 1) = j / (k + 1)) := fun e => by
    rw [e.1, e.2] at di
    omega
  generalize i % (k + 1) = a1 at *
  generalize i / (k + 1) = b1 at *
  generalize j % (k + 1) = a2 at *
  generalize j / (k + 1) = b2 at *
  refine ⟨(a1 : Int) - a2, (b1 : Int) - b2, ?_, ?_, ?_, ?_⟩
  · have e1 : (((a1 + s * (p - 1) % p * b1 : Nat) : Int)) % (p : Int) = ((a2 + s * (p - 1) % p * b2 : Nat) : Int) % (p : Int) := by
      rw [← Int.natCast_emod, ← Int.natCast_emod, he]
    have e2 := Int.dvd_of_emod_eq_zero (Int.emod_eq_emod_iff_emod_sub_eq_zero.1 e1)
    obtain ⟨q, hq⟩ : ∃ q : Int, ((s * (p - 1) % p : Nat) : Int) = -s + p * q := by
      have := Nat.div_add_mod (s * (p - 1)) p
      refine ⟨(s : Int) - ((s * (p - 1) / p : Nat) : Int), ?_⟩
      have e3 : ((s * (p - 1) % p : Nat) : Int) = ((s * (p - 1) : Nat) : Int) - (p : Int) * ((s * (p - 1) / p : Nat) : Int) := by
        have : ((p * (s * (p - 1) / p) + s * (p - 1) % p : Nat) : Int) = ((s * (p - 1) : Nat) : Int) := by rw [this]
        rw [Int.natCast_add, Int.natCast_mul] at this
        omega
      have e4 : ((s * (p - 1) : Nat) : Int) = (s : Int) * ((p : Int) - 1) := by rw [Int.natCast_mul, Int.natCast_sub (by omega)]; rfl
      rw [e3, e4]
      grind
    obtain ⟨c, hc⟩ := e2
    refine ⟨c - q * (b1 - b2), ?_⟩
    rw [Int.natCast_add, Int.natCast_add, Int.natCast_mul, Int.natCast_mul, hq] at hc
    grind
  · have : ((a1 : Int) - a2) * (a1 - a2) ≤ k * k := sqle (by omega) (by omega)
    have : ((k * k : Nat) : Int) < p := by omega
    rw [Int.natCast_mul] at this
    omega
  · have : ((b1 : Int) - b2) * (b1 - b2) ≤ k * k := sqle (by omega) (by omega)
    have : ((k * k : Nat) : Int) < p := by omega
    rw [Int.natCast_mul] at this
    omega
  · rintro ⟨e1, e2⟩
    exact hnot ⟨by omega, by omega⟩

/-- a prime that leaves 1 or 7 modulo 8 is r * r - 2 * q * q -/
theorem rep {p : Nat} (h : Prm p) (h8 : p % 8 = 1 ∨ p % 8 = 7) : ∃ r q : Nat, r * r = p + 2 * (q * q) ∧ q * q < p := by
  obtain ⟨s, hs⟩ := two_sq h h8
  obtain ⟨x, y, hm, hx, hy, hn⟩ := thue (s := s) h
  have h1 := hm.mul hm
  have h2 : Md p (x * x) (2 * (y * y)) := by
    refine h1.trans ?_
    have := hs.mul (Md.refl p (y * y))
    have e : (s : Int) * y * (s * y) = s * s * (y * y) := by grind
    rw [e]
    exact this
  obtain ⟨c, hc⟩ := h2
  have hx0 : 0 ≤ x * x := sq0 x
  have hy0 : 0 ≤ y * y := sq0 y
  have hpp : 0 < (p : Int) := by have := h.two; omega
  have hc1 : -2 < c := by
    rcases Int.lt_or_le (-2) c with g | g
    · exact g
    · have := Int.mul_le_mul_of_nonneg_left g (show (0 : Int) ≤ p by omega)
      omega
  have hc2 : c < 1 := by
    rcases Int.lt_or_le c 1 with g | g
    · exact g
    · have := Int.mul_le_mul_of_nonneg_left g (show (0 : Int) ≤ p by omega)
      omega
  have hc0 : c ≠ 0 := by
    intro e
    subst e
    have e1 : x.natAbs * x.natAbs = 2 * (y.natAbs * y.natAbs) := by
      have : ((x.natAbs * x.natAbs : Nat) : Int) = ((2 * (y.natAbs * y.natAbs) : Nat) : Int) := by
        rw [Int.natCast_mul, Int.natCast_mul, Int.natCast_mul, Int.natAbs_mul_self', Int.natAbs_mul_self']
        omega
      exact_mod_cast this
    have e2 := irr x.natAbs x.natAbs y.natAbs (Nat.le_refl _) e1
    rw [e2] at e1
    have e3 : y.natAbs * y.natAbs = 0 := by omega
    have e4 : y.natAbs = 0 := by rcases Nat.mul_eq_zero.1 e3 with g | g <;> exact g
    exact hn ⟨by omega, by omega⟩
  obtain rfl : c = -1 := by omega
  have key : ∀ a b : Int, a * a = x * x → b * b = y * y → 0 ≤ a → 0 ≤ b → ∃ r q : Nat, r * r = p + 2 * (q * q) ∧ q * q < p := by
    intro a b ha hb ha0 hb0
    refine ⟨(2 * b - a).natAbs, (b - a).natAbs, ?_, ?_⟩
    · have : (((2 * b - a).natAbs * (2 * b - a).natAbs : Nat) : Int) = ((p + 2 * ((b - a).natAbs * (b - a).natAbs) : Nat) : Int) := by
        rw [Int.natCast_add, Int.natCast_mul, Int.natCast_mul, Int.natCast_mul, Int.natAbs_mul_self', Int.natAbs_mul_self']
        have : (2 * b - a) * (2 * b - a) = 2 * ((b - a) * (b - a)) + (2 * (b * b) - a * a) := by grind
        omega
      exact_mod_cast this
    · have : (((b - a).natAbs * (b - a).natAbs : Nat) : Int) < ((p : Nat) : Int) := by
        rw [Int.natCast_mul, Int.natAbs_mul_self']
        rcases Int.le_total a b with g | g
        · have := sqle (a := b - a) (k := b) (by omega) (by omega)
          omega
        · have := sqle (a := b - a) (k := a) (by omega) (by omega)
          omega
      exact_mod_cast this
  exact key x.natAbs y.natAbs (Int.natAbs_mul_self' x) (Int.natAbs_mul_self' y) (by omega) (by omega)

end Go.Proofs.Ytojoljffaedpfaa.Q
