/- Floating point: how far a result lies from the exact one. -/
import Derived.Laws.FloatArith
namespace Go.Proofs.Ytojoljffaedpfaa.Fp
set_option linter.unusedVariables false
set_option linter.unusedSimpArgs false

/-- m * 2^p, in units of 2^-3000 -/
def mg (m : Nat) (p : Int) : Nat := m * 2 ^ (p + 3000).toNat
def sgn (s : Bool) (n : Nat) : Int := if s then -(n : Int) else n
def vd : Ieee.Datum → Int
  | .number s m p => sgn s (mg m p)
  | _ => 0
def V (x : Nat) : Int := vd (Ieee.double.read x)
/-- a finite number -/
def Num (x : Nat) : Prop := ∃ s m p, Ieee.double.read x = .number s m p ∧ -1074 ≤ p ∧ p ≤ 971 ∧ m < 9007199254740992

/-- twice the error that rounding makes at most -/
def epx : Nat := 2969
def ep : Nat := 2 ^ epx
def e3000 : Nat := 3000
/-- the number 1 -/
def one : Nat := 2 ^ e3000
/-- 2^22 -/
def big : Nat := 4194304 * one
theorem one_pos : 0 < one := Nat.two_pow_pos _
theorem big_eq : big = 2 ^ (22 + e3000) := by unfold big one; rw [Nat.pow_add]
theorem vd_number (s : Bool) (m : Nat) (p : Int) : vd (.number s m p) = sgn s (mg m p) := rfl
theorem sgn_zero (s : Bool) : sgn s 0 = 0 := by cases s <;> rfl

theorem cut_err (s : Bool) (n b : Nat) : 2 * (Ieee.Toward.even.cut s n b * 2 ^ b) ≤ 2 * n + 2 ^ b ∧ 2 * n ≤ 2 * (Ieee.Toward.even.cut s n b * 2 ^ b) + 2 ^ b := by
  unfold Ieee.Toward.cut
  simp only
  rcases Nat.lt_or_ge (n.log2 + 2) b with h | h
  · rw [Nat.min_eq_right (by omega), Nat.shiftLeft_eq, Nat.one_mul]
    have h1 : n < 2 ^ (n.log2 + 1) := Nat.lt_log2_self
    have h2 : 2 ^ (n.log2 + 2) = 2 * 2 ^ (n.log2 + 1) := by rw [Nat.pow_succ]; omega
    have h3 : 2 ^ (n.log2 + 2) ≤ 2 ^ b := Nat.pow_le_pow_right (by omega) (by omega)
    generalize 2 ^ (n.log2 + 2) = G at *
    rw [Nat.div_eq_of_lt (by omega), Nat.mod_eq_of_lt (by omega)]
    have e1 : decide (G < 2 * n) = false := by simp; omega
    have e2 : (G == 2 * n) = false := by rw [beq_eq_false_iff_ne]; omega
    simp only [e1, e2, Bool.false_and, Bool.or_false, Bool.toNat_false]
    omega
  · rw [Nat.min_eq_left (by omega), Nat.shiftLeft_eq, Nat.one_mul]
    have hp : 0 < 2 ^ b := Nat.two_pow_pos _
    generalize 2 ^ b = G at *
    have h1 := Nat.div_add_mod n G
    have h2 := Nat.mod_lt n hp
    generalize n / G = q at *
    generalize n % G = r at *
    have h3 : (q + 1) * G = G * q + G := by rw [Nat.add_mul, Nat.one_mul, Nat.mul_comm]
    have h4 : (q + 0) * G = G * q := by rw [Nat.add_zero, Nat.mul_comm]
    cases hb : (decide (G < 2 * r) || G == 2 * r && q % 2 == 1)
    · simp only [Bool.toNat_false, h4]
      simp only [Bool.or_eq_false_iff, decide_eq_false_iff_not] at hb
      omega
    · simp only [Bool.toNat_true, h3]
      simp only [Bool.or_eq_true, decide_eq_true_eq, Bool.and_eq_true, beq_iff_eq] at hb
      omega
theorem cut_zero (w : Ieee.Toward) (s : Bool) (n : Nat) : w.cut s n 0 = n := by
  unfold Ieee.Toward.cut
  simp only [Nat.zero_min, Nat.shiftLeft_zero, Nat.div_one, Nat.mod_one]
  cases w <;> simp
theorem log_lt {M k : Nat} (hM : 0 < M) (h : M < 2 ^ k) : M.log2 < k := (Nat.log2_lt (by omega)).2 h
theorem pow_split {a b c : Nat} (h : c = a + b) : 2 ^ c = 2 ^ a * 2 ^ b := by rw [h, Nat.pow_add]

/-- the place of the last digit -/
theorem log_place {M : Nat} {place : Int} {k : Nat} (hM : 0 < M) (h1 : -3000 ≤ place) (h : mg M place < 2 ^ k) : place + M.log2 + 3000 < k := by
  have h2 := Nat.log2_self_le (show M ≠ 0 by omega)
  have h3 : 2 ^ (M.log2 + (place + 3000).toNat) < 2 ^ k := by
    rw [Nat.pow_add]
    exact Nat.lt_of_le_of_lt (Nat.mul_le_mul_right _ h2) h
  have := (Nat.pow_lt_pow_iff_right (by omega : 1 < 2)).1 h3
  omega

set_option maxRecDepth 100000 in
theorem near (s : Bool) {M : Nat} {place : Int} (hM : 0 < M) (h1 : -3000 ≤ place) (h2 : place + M.log2 < 22) :
    ∃ m p, Ieee.double.read (Ieee.double.nearest s M place) = .number s m p ∧ -1074 ≤ p ∧ p ≤ 971 ∧ m < 9007199254740992 ∧
      2 * mg m p ≤ 2 * mg M place + ep ∧ 2 * mg M place ≤ 2 * mg m p + ep ∧ (-1074 ≤ place → M < 9007199254740992 → mg m p = mg M place) := by
  have e1 : Ieee.double.leastPlace = -1074 := by decide
  have e2 : (Ieee.double.fractionBits : Int) = 52 := rfl
  have e3 : Ieee.double.binade = 4503599627370496 := by decide
  have e4 : Ieee.double.infRung = 2047 * 4503599627370496 := by decide
  have e5 : Ieee.double.signWeight = 9223372036854775808 := by decide
  obtain ⟨last, hlast⟩ : ∃ last : Int, max (place + (M.log2 : Int) - 52) (-1074) = last := ⟨_, rfl⟩
  obtain ⟨a, ha⟩ : ∃ a : Nat, (place - last).toNat = a := ⟨_, rfl⟩
  obtain ⟨b, hb⟩ : ∃ b : Nat, (last - place).toNat = b := ⟨_, rfl⟩
  have hl1 : -1074 ≤ last := by omega
  have hl2 : last ≤ -31 := by omega
  obtain ⟨K, hK⟩ : ∃ K : Nat, Ieee.Toward.even.cut s (M <<< a) b = K := ⟨_, rfl⟩
  obtain ⟨L, hL⟩ : ∃ L : Nat, (last + 1074).toNat = L := ⟨_, rfl⟩
  have hlL : last = (L : Int) - 1074 := by omega
  have hk := cut_err s (M <<< a) b
  rw [hK, Nat.shiftLeft_eq] at hk
  -- the digits
  have hlo := Nat.log2_self_le (show M ≠ 0 by omega)
  have hhi := Nat.lt_log2_self (n := M)
  have hp2 : 0 < 2 ^ b := Nat.two_pow_pos _
  have hK53 : K ≤ 9007199254740992 := by
    have h3 : M * 2 ^ a < 2 ^ (M.log2 + 1 + a) := by rw [Nat.pow_add]; exact Nat.mul_lt_mul_of_pos_right hhi (Nat.two_pow_pos _)
    have h4 : 2 ^ (M.log2 + 1 + a) ≤ 2 ^ (53 + b) := Nat.pow_le_pow_right (by omega) (by omega)
    have h5 : 2 ^ (53 + b) = 9007199254740992 * 2 ^ b := by rw [Nat.pow_add]
    rcases Nat.lt_or_ge 9007199254740992 K with h | h
    · have := Nat.mul_le_mul_right (2 ^ b) (show 9007199254740993 ≤ K from h)
      omega
    · exact h
  have hK52 : 0 < L → 4503599627370496 ≤ K := by
    intro hL0
    have h3 : 2 ^ (M.log2 + a) ≤ M * 2 ^ a := by rw [Nat.pow_add]; exact Nat.mul_le_mul_right _ hlo
    have h4 : M.log2 + a = 52 + b := by omega
    have h5 : 2 ^ (52 + b) = 4503599627370496 * 2 ^ b := by rw [Nat.pow_add]
    rw [h4, h5] at h3
    rcases Nat.lt_or_ge K 4503599627370496 with h | h
    · have := Nat.mul_le_mul_right (2 ^ b) (show K ≤ 4503599627370495 by omega)
      omega
    · exact h
  -- the value
  have hval : 2 * (K * 2 ^ (last + 3000).toNat) ≤ 2 * mg M place + ep ∧ 2 * mg M place ≤ 2 * (K * 2 ^ (last + 3000).toNat) + ep ∧ (-1074 ≤ place → M < 9007199254740992 → K * 2 ^ (last + 3000).toNat = mg M place) := by
    unfold mg
    rcases Int.le_total last place with g | g
    · have hb0 : b = 0 := by omega
      subst hb0
      have hKe : K = M * 2 ^ a := by rw [← hK, cut_zero, Nat.shiftLeft_eq]
      have : K * 2 ^ (last + 3000).toNat = M * 2 ^ (place + 3000).toNat := by
        rw [hKe, Nat.mul_assoc, ← Nat.pow_add]
        congr 2
        omega
      rw [this]
      omega
    · have ha0 : a = 0 := by omega
      subst ha0
      rw [Nat.pow_zero, Nat.mul_one] at hk
      have e6 : 2 ^ (last + 3000).toNat = 2 ^ b * 2 ^ (place + 3000).toNat := pow_split (by omega)
      have e7 : 2 ^ (last + 3000).toNat ≤ ep := by
        have h9 : (last + 3000).toNat ≤ epx := by unfold epx; omega
        exact Nat.pow_le_pow_right (by decide) h9
      have q1 := Nat.mul_le_mul_right (2 ^ (place + 3000).toNat) hk.1
      have q2 := Nat.mul_le_mul_right (2 ^ (place + 3000).toNat) hk.2
      have e8 : K * 2 ^ (last + 3000).toNat = K * 2 ^ b * 2 ^ (place + 3000).toNat := by rw [e6, Nat.mul_assoc]
      rw [Nat.add_mul, Nat.mul_assoc 2, Nat.mul_assoc 2, ← e8, ← e6] at q1
      rw [Nat.add_mul, Nat.mul_assoc 2, Nat.mul_assoc 2, ← e8, ← e6] at q2
      refine ⟨by omega, by omega, fun k1 k2 => ?_⟩
      have hm : M.log2 < 53 := log_lt hM k2
      have hb0 : b = 0 := by omega
      subst hb0
      have hKe : K = M := by rw [← hK, cut_zero, Nat.shiftLeft_zero]
      rw [hKe]
      congr 2
      omega
  -- the word
  have hword : Ieee.double.nearest s M place = (if s then 9223372036854775808 else 0) + (L * 4503599627370496 + K) := by
    unfold Ieee.Format.nearest
    rw [if_neg (by omega)]
    simp only [e1, e2, e3, e4]
    rw [hlast, ha, hb, hK, show (last - -1074).toNat = L by omega, Nat.min_eq_left (by omega)]
    unfold Ieee.Format.word
    rw [e5]
    cases s
    · simp
    · simp
  have hread : ∀ r, r < 9218868437227405312 → Ieee.double.read ((if s then 9223372036854775808 else 0) + r) = if r < 4503599627370496 then .number s r (-1074) else .number s (4503599627370496 + r % 4503599627370496) (-1074 + (r / 4503599627370496 - 1 : Nat)) := by
    intro r hr
    unfold Ieee.Format.read
    simp only [e1, e3, e4, e5]
    have k1 : (((if s = true then 9223372036854775808 else 0) + r) / 9223372036854775808 % 2 == 1) = s := by
      cases s
      · rw [show ((if false = true then 9223372036854775808 else 0) + r) / 9223372036854775808 = 0 by simp; omega]; rfl
      · rw [show ((if true = true then 9223372036854775808 else 0) + r) / 9223372036854775808 = 1 by simp; omega]; rfl
    have k2 : ((if s = true then 9223372036854775808 else 0) + r) % 9223372036854775808 = r := by
      cases s
      · simp; omega
      · simp; omega
    rw [k1, k2]
    by_cases hr2 : r < 4503599627370496
    · rw [if_pos hr2, if_pos hr2]
    · rw [if_neg hr2, if_neg hr2, if_pos (by omega)]
  rw [hword, hread _ (by omega)]
  have hle : (last + 3000).toNat = L + 1926 := by omega
  rw [hle] at hval
  split
  · rename_i hlt
    have hL0 : L = 0 := by omega
    have hK1 : L * 4503599627370496 + K = K := by rw [hL0, Nat.zero_mul, Nat.zero_add]
    rw [hK1]
    refine ⟨K, -1074, rfl, by decide, by decide, by omega, ?_⟩
    have k3 : mg K (-1074) = K * 2 ^ (L + 1926) := by
      unfold mg
      rw [hL0, show (-1074 + 3000 : Int).toNat = 0 + 1926 from rfl]
    rw [k3]
    exact hval
  · rename_i hge
    rcases Nat.lt_or_ge K 9007199254740992 with g | g
    · have k1 : (L * 4503599627370496 + K) / 4503599627370496 = L + 1 := by omega
      have k2 : (L * 4503599627370496 + K) % 4503599627370496 = K - 4503599627370496 := by omega
      rw [k1, k2]
      refine ⟨_, _, rfl, by omega, by omega, by omega, ?_⟩
      have k3 : mg (4503599627370496 + (K - 4503599627370496)) (-1074 + ((L + 1 - 1 : Nat) : Int)) = K * 2 ^ (L + 1926) := by
        unfold mg
        rw [show 4503599627370496 + (K - 4503599627370496) = K by omega, show (-1074 + ((L + 1 - 1 : Nat) : Int) + 3000).toNat = L + 1926 by omega]
      rw [k3]
      exact hval
    · have hKe : K = 9007199254740992 := by omega
      have k1 : (L * 4503599627370496 + K) / 4503599627370496 = L + 2 := by omega
      have k2 : (L * 4503599627370496 + K) % 4503599627370496 = 0 := by omega
      rw [k1, k2]
      refine ⟨_, _, rfl, by omega, by omega, by omega, ?_⟩
      have k3 : mg (4503599627370496 + 0) (-1074 + ((L + 2 - 1 : Nat) : Int)) = K * 2 ^ (L + 1926) := by
        unfold mg
        rw [hKe, show (-1074 + ((L + 2 - 1 : Nat) : Int) + 3000).toNat = L + 1926 + 1 by omega, Nat.pow_succ]
        generalize 2 ^ (L + 1926) = z
        omega
      rw [k3]
      exact hval

/-- what is written, read again -/
theorem written {s : Bool} {M : Nat} {place : Int} (h1 : -3000 ≤ place) (h2 : mg M place < big) :
    Num (Ieee.double.nearest s M place) ∧ 2 * V (Ieee.double.nearest s M place) ≤ 2 * sgn s (mg M place) + ep ∧ 2 * sgn s (mg M place) ≤ 2 * V (Ieee.double.nearest s M place) + ep ∧
      (-1074 ≤ place → M < 9007199254740992 → V (Ieee.double.nearest s M place) = sgn s (mg M place)) := by
  rcases Nat.eq_zero_or_pos M with h | h
  · subst h
    have hr : Ieee.double.read (Ieee.double.nearest s 0 place) = .number s 0 (-1074) := by
      unfold Ieee.Format.nearest
      rw [if_pos rfl]
      cases s <;> decide
    refine ⟨⟨s, 0, -1074, hr, by omega, by omega, by omega⟩, ?_⟩
    unfold V
    rw [hr, vd_number]
    unfold mg
    rw [Nat.zero_mul, Nat.zero_mul, sgn_zero]
    omega
  · have h3 := log_place (k := 22 + e3000) h h1 (by rw [← big_eq]; exact h2)
    have h3 : place + M.log2 < 22 := by unfold e3000 at h3; omega
    obtain ⟨m, p, hr, a1, a2, a3, a4, a5, a6⟩ := near s h h1 h3
    refine ⟨⟨s, m, p, hr, a1, a2, a3⟩, ?_⟩
    unfold V
    rw [hr, vd_number]
    have hsg : ∀ n, sgn s n = if s then -(n : Int) else n := fun n => rfl
    rw [hsg, hsg]
    cases s
    · simp only [Bool.false_eq_true, if_false]
      exact ⟨by omega, by omega, fun k1 k2 => by rw [a6 k1 k2]⟩
    · simp only [if_true]
      exact ⟨by omega, by omega, fun k1 k2 => by rw [a6 k1 k2]⟩

theorem sgn_bd (s : Bool) (n : Nat) (k : Int) (h1 : -k < sgn s n) (h2 : sgn s n < k) : (n : Int) < k := by
  unfold sgn at h1 h2
  cases s <;> simp at h1 h2 <;> omega
theorem sgn_mul (s t : Bool) (m n : Nat) : sgn (s ^^ t) (m * n) = sgn s m * sgn t n := by
  unfold sgn
  cases s <;> cases t <;> simp [Int.neg_mul, Int.mul_neg]
theorem sgn_scale (s : Bool) (m n : Nat) : sgn s (m * n) = sgn s m * n := by
  unfold sgn
  cases s <;> simp [Int.neg_mul]
theorem signed_eq (s : Bool) (m up : Nat) : Ieee.signed s m up = sgn s m * ((2 ^ up : Nat) : Int) := by
  unfold Ieee.signed sgn
  cases s <;> simp [Nat.shiftLeft_eq, Int.neg_mul]
theorem mg_eq (m : Nat) (p : Int) (k : Int) (h1 : -3000 ≤ k) (h2 : k ≤ p) : mg m p = m * 2 ^ (p - k).toNat * 2 ^ (k + 3000).toNat := by
  unfold mg
  rw [Nat.mul_assoc, ← Nat.pow_add]
  congr 2
  omega
theorem V_of {x : Nat} {s : Bool} {m : Nat} {p : Int} (h : Ieee.double.read x = .number s m p) : V x = sgn s (mg m p) := by
  unfold V
  rw [h, vd_number]

/-- 'float64(n)' -/
theorem fl_int {n : Int} (h1 : -4194304 < n) (h2 : n < 4194304) : Num (floatOfInt .f64 n) ∧ V (floatOfInt .f64 n) = n * (one : Int) := by
  have hx : floatOfInt .f64 n = Ieee.double.nearest (decide (n < 0)) n.natAbs 0 := rfl
  rw [hx]
  have e : mg n.natAbs 0 = n.natAbs * one := by
    unfold mg one
    rw [show (0 + 3000 : Int).toNat = e3000 from rfl]
  have h3 : mg n.natAbs 0 < big := by
    rw [e]
    exact Nat.mul_lt_mul_of_pos_right (by omega) one_pos
  obtain ⟨a1, _, _, a4⟩ := written (s := decide (n < 0)) (M := n.natAbs) (place := 0) (by omega) h3
  refine ⟨a1, ?_⟩
  have k : sgn (decide (n < 0)) n.natAbs = n := by
    unfold sgn
    by_cases h : n < 0
    · simp only [h, decide_true, if_true]; omega
    · simp only [h, decide_false, Bool.false_eq_true, if_false]; omega
  rw [a4 (by omega) (by omega), e, sgn_scale, k]

/-- '-' -/
theorem fl_sub {x y : Nat} (hx : Num x) (hy : Num y) (h1 : -(big : Int) < V x - V y) (h2 : V x - V y < (big : Int)) :
    ∃ r, Ieee.double.sub x y = some r ∧ Num r ∧ 2 * V r ≤ 2 * (V x - V y) + ep ∧ 2 * (V x - V y) ≤ 2 * V r + ep := by
  obtain ⟨s, m, i, hrx, i1, i2, i3⟩ := hx
  obtain ⟨t, n, j, hry, j1, j2, j3⟩ := hy
  obtain ⟨k, hk⟩ : ∃ k : Int, min i j = k := ⟨_, rfl⟩
  obtain ⟨T, hT⟩ : ∃ T : Int, Ieee.signed s m (i - k).toNat + Ieee.signed (!t) n (j - k).toNat = T := ⟨_, rfl⟩
  have hV : V x - V y = T * ((2 ^ (k + 3000).toNat : Nat) : Int) := by
    rw [V_of hrx, V_of hry, ← hT, signed_eq, signed_eq, mg_eq m i k (by omega) (by omega), mg_eq n j k (by omega) (by omega), sgn_scale, sgn_scale s m, sgn_scale t, sgn_scale t n, Int.add_mul]
    have : sgn (!t) n = - sgn t n := by unfold sgn; cases t <;> simp
    rw [this, Int.neg_mul, Int.neg_mul, Int.sub_eq_add_neg]
  obtain ⟨S, hS⟩ : ∃ S : Bool, (if T = 0 then s && !t else decide (T < 0)) = S := ⟨_, rfl⟩
  have hTs : sgn S T.natAbs = T := by
    unfold sgn
    by_cases h : T = 0
    · subst h; cases S <;> rfl
    · rw [if_neg h] at hS
      by_cases h' : T < 0
      · rw [decide_eq_true h'] at hS
        subst hS
        simp only [if_true]; omega
      · rw [decide_eq_false h'] at hS
        subst hS
        simp only [Bool.false_eq_true, if_false]; omega
  have hw : Ieee.double.sub x y = some (Ieee.double.nearest S T.natAbs k) := by
    unfold Ieee.Format.sub
    rw [hrx, hry]
    unfold Ieee.Datum.opposite Ieee.Datum.sum
    simp only [hk, hT, hS]
    rfl
  have hm : sgn S (mg T.natAbs k) = V x - V y := by
    unfold mg
    rw [sgn_scale, hTs, hV]
  have hlt : mg T.natAbs k < big := by
    have := sgn_bd S (mg T.natAbs k) _ (by rw [hm]; exact h1) (by rw [hm]; exact h2)
    exact Int.ofNat_lt.1 this
  obtain ⟨a1, a2, a3, _⟩ := written (s := S) (M := T.natAbs) (place := k) (by omega) hlt
  rw [hm] at a2 a3
  exact ⟨_, hw, a1, a2, a3⟩

/-- '*' -/
theorem fl_mul {x y : Nat} (hx : Num x) (hy : Num y) (h1 : -(big : Int) * (one : Int) < V x * V y) (h2 : V x * V y < (big : Int) * (one : Int)) :
    ∃ r, Ieee.double.mul x y = some r ∧ Num r ∧ 2 * (V r * (one : Int)) ≤ 2 * (V x * V y) + ep * (one : Int) ∧ 2 * (V x * V y) ≤ 2 * (V r * (one : Int)) + ep * (one : Int) := by
  obtain ⟨s, m, i, hrx, i1, i2, i3⟩ := hx
  obtain ⟨t, n, j, hry, j1, j2, j3⟩ := hy
  have hw : Ieee.double.mul x y = some (Ieee.double.nearest (s ^^ t) (m * n) (i + j)) := by
    unfold Ieee.Format.mul
    rw [hrx, hry]
    rfl
  have hm : mg (m * n) (i + j) * one = mg m i * mg n j := by
    unfold mg one
    have : 2 ^ (i + j + 3000).toNat * 2 ^ e3000 = 2 ^ (i + 3000).toNat * 2 ^ (j + 3000).toNat := by
      rw [← Nat.pow_add, ← Nat.pow_add]
      congr 1
      unfold e3000
      omega
    rw [Nat.mul_assoc, this]
    ac_rfl
  have hV : sgn (s ^^ t) (mg (m * n) (i + j)) * (one : Int) = V x * V y := by
    rw [← sgn_scale, hm, sgn_mul, V_of hrx, V_of hry]
  have hp : (0 : Int) < (one : Int) := Int.ofNat_lt.2 one_pos
  rw [← hV] at h1 h2 ⊢
  have g1 := Int.lt_of_mul_lt_mul_right h1 (Int.le_of_lt hp)
  have g2 := Int.lt_of_mul_lt_mul_right h2 (Int.le_of_lt hp)
  have hlt : mg (m * n) (i + j) < big := Int.ofNat_lt.1 (sgn_bd _ _ _ g1 g2)
  obtain ⟨a1, a2, a3, _⟩ := written (s := s ^^ t) (M := m * n) (place := i + j) (by omega) hlt
  refine ⟨_, hw, a1, ?_, ?_⟩
  · have := Int.mul_le_mul_of_nonneg_right a2 (Int.le_of_lt hp)
    rw [Int.add_mul, Int.mul_assoc, Int.mul_assoc] at this
    exact this
  · have := Int.mul_le_mul_of_nonneg_right a3 (Int.le_of_lt hp)
    rw [Int.add_mul, Int.mul_assoc, Int.mul_assoc] at this
    exact this

theorem ep_eq : 2147483648 * ep = one := by
  unfold ep one
  rw [show e3000 = 31 + epx from rfl, Nat.pow_add]
theorem sgn_le {s : Bool} {a b c : Nat} (h1 : a ≤ b + c) (h2 : b ≤ a + c) : sgn s a ≤ sgn s b + c ∧ sgn s b ≤ sgn s a + c := by
  unfold sgn
  cases s
  · simp only [Bool.false_eq_true, if_false]; omega
  · simp only [if_true]; omega

/-- '/' by a positive number -/
theorem fl_div {x y : Nat} (hx : Num x) (hy : Num y) (hy0 : 0 < V y) (h1 : -(2097152 * V y) < V x) (h2 : V x < 2097152 * V y) :
    ∃ r, Ieee.double.div x y = some r ∧ Num r ∧ V r * V y ≤ V x * (one : Int) + ep * V y ∧ V x * (one : Int) ≤ V r * V y + ep * V y := by
  obtain ⟨s, m, i, hrx, i1, i2, i3⟩ := hx
  obtain ⟨t, n, j, hry, j1, j2, j3⟩ := hy
  rw [V_of hry] at hy0 h1 h2
  have ht : t = false := by
    cases t
    · rfl
    · unfold sgn at hy0; simp only [if_true] at hy0; omega
  subst ht
  have hn : n ≠ 0 := by
    intro e
    subst e
    unfold mg at hy0
    rw [Nat.zero_mul, sgn_zero] at hy0
    omega
  obtain ⟨k, hk⟩ : ∃ k : Nat, Ieee.double.fractionBits + 2 + n.log2 - m.log2 = k := ⟨_, rfl⟩
  have hfb : Ieee.double.fractionBits = 52 := rfl
  have hk2 : k ≤ 106 := by
    have := log_lt (M := n) (k := 53) (by omega) j3
    omega
  obtain ⟨place, hpl⟩ : ∃ place : Int, i - j - (k : Nat) - 1 = place := ⟨_, rfl⟩
  obtain ⟨M, hM⟩ : ∃ M : Nat, 2 * (m <<< k / n) + (m <<< k % n != 0).toNat = M := ⟨_, rfl⟩
  have hw : Ieee.double.div x y = some (Ieee.double.nearest s M place) := by
    unfold Ieee.Format.div
    rw [hrx, hry]
    unfold Ieee.Datum.quotient
    simp only [hk, hM, hpl]
    rw [if_neg hn, Bool.xor_false]
    rfl
  have hMn : M * n ≤ 2 * (m * 2 ^ k) + n ∧ 2 * (m * 2 ^ k) ≤ M * n + n := by
    rw [Nat.shiftLeft_eq] at hM
    have d1 := Nat.div_add_mod (m * 2 ^ k) n
    have d2 := Nat.mod_lt (m * 2 ^ k) (show 0 < n by omega)
    generalize m * 2 ^ k = D at *
    generalize D / n = q at *
    generalize D % n = r at *
    have e : 2 * q * n = 2 * (n * q) := by rw [Nat.mul_assoc, Nat.mul_comm q n]
    rw [← hM, Nat.add_mul, e]
    cases hb : (r != 0)
    · simp only [Bool.toNat_false, Nat.zero_mul]
      rw [bne_eq_false_iff_eq] at hb
      omega
    · simp only [Bool.toNat_true, Nat.one_mul]
      rw [bne_iff_ne] at hb
      omega
  obtain ⟨er, her⟩ : ∃ er : Nat, 2 ^ (place + 3000).toNat = er := ⟨_, rfl⟩
  have hmM : mg M place = M * er := by unfold mg; rw [her]
  have hX : 2 * (m * 2 ^ k) * er * 2 ^ (j + 3000).toNat = mg m i * one := by
    unfold mg one
    rw [← her]
    have : 2 * 2 ^ k * 2 ^ (place + 3000).toNat * 2 ^ (j + 3000).toNat = 2 ^ (i + 3000).toNat * 2 ^ e3000 := by
      rw [show (2 : Nat) * 2 ^ k = 2 ^ (k + 1) by rw [Nat.pow_succ, Nat.mul_comm], ← Nat.pow_add, ← Nat.pow_add, ← Nat.pow_add]
      congr 1
      unfold e3000
      omega
    rw [Nat.mul_assoc m, ← this]
    ac_rfl
  have hB : mg M place * mg n j ≤ mg m i * one + er * mg n j ∧ mg m i * one ≤ mg M place * mg n j + er * mg n j := by
    have q1 := Nat.mul_le_mul_right (er * 2 ^ (j + 3000).toNat) hMn.1
    have q2 := Nat.mul_le_mul_right (er * 2 ^ (j + 3000).toNat) hMn.2
    rw [Nat.add_mul] at q1 q2
    rw [← hX, hmM]
    have e1 : M * er * mg n j = M * n * (er * 2 ^ (j + 3000).toNat) := by unfold mg; ac_rfl
    have e2 : er * mg n j = n * (er * 2 ^ (j + 3000).toNat) := by unfold mg; ac_rfl
    have e3 : 2 * (m * 2 ^ k) * er * 2 ^ (j + 3000).toNat = 2 * (m * 2 ^ k) * (er * 2 ^ (j + 3000).toNat) := by ac_rfl
    rw [e1, e2, e3]
    exact ⟨q1, q2⟩
  have hYp : 0 < mg n j := by unfold mg; exact Nat.mul_pos (by omega) (Nat.two_pow_pos _)
  have hYv : sgn false (mg n j) = (mg n j : Int) := rfl
  rw [hYv] at h1 h2
  have hXs : mg m i < 2097152 * mg n j := by
    have := sgn_bd s (mg m i) (2097152 * (mg n j : Int)) (by rw [← V_of hrx]; exact h1) (by rw [← V_of hrx]; exact h2)
    omega
  have her2 : mg M place < big ∧ (m = 0 ∨ 2 * er ≤ ep) := by
    rcases Nat.eq_zero_or_pos m with h | h
    · subst h
      have : M = 0 := by rw [← hM]; simp
      rw [this]
      unfold mg
      rw [Nat.zero_mul]
      exact ⟨by rw [big_eq]; exact Nat.two_pow_pos _, .inl rfl⟩
    · have g1 := Nat.log2_self_le (show m ≠ 0 by omega)
      have g2 := Nat.lt_log2_self (n := n)
      have g3 : 2 ^ (m.log2 + k) ≤ m * 2 ^ k := by rw [Nat.pow_add]; exact Nat.mul_le_mul_right _ g1
      have g4 : m.log2 + k = 53 + (n.log2 + 1) := by
        have := log_lt (M := m) (k := 53) h i3
        omega
      rw [g4, Nat.pow_add] at g3
      have g5 : 2 ^ 53 * n ≤ m * 2 ^ k := Nat.le_trans (Nat.mul_le_mul_left _ (Nat.le_of_lt g2)) g3
      have g6 : 18014398509481983 ≤ M := by
        rcases Nat.lt_or_ge M 18014398509481983 with g | g
        · have := Nat.mul_le_mul_right n (show M ≤ 18014398509481982 by omega)
          have e : (2 : Nat) ^ 53 = 9007199254740992 := by decide
          rw [e] at g5
          omega
        · exact g
      have g7 : M * er * mg n j < (2097152 * one + er) * mg n j := by
        have a1 := hB.1
        rw [hmM] at a1
        have a2 := Nat.mul_lt_mul_of_pos_right hXs one_pos
        rw [Nat.add_mul]
        have e : 2097152 * mg n j * one = 2097152 * one * mg n j := Nat.mul_right_comm _ _ _
        omega
      have g8 := Nat.lt_of_mul_lt_mul_right g7
      have g9 := Nat.mul_le_mul_right er g6
      have ge := ep_eq
      rw [hmM]
      unfold big
      constructor
      · omega
      · right; omega
  obtain ⟨a1, a2, a3, _⟩ := written (s := s) (M := M) (place := place) (by omega) her2.1
  refine ⟨_, hw, a1, ?_⟩
  rw [V_of hry, V_of hrx, hYv]
  generalize V (Ieee.double.nearest s M place) = R at *
  have hYp' : (0 : Int) ≤ (mg n j : Int) := by omega
  have b1 := Int.mul_le_mul_of_nonneg_right a2 hYp'
  have b2 := Int.mul_le_mul_of_nonneg_right a3 hYp'
  rw [Int.add_mul, Int.mul_assoc, Int.mul_assoc, ← sgn_scale] at b1 b2
  have b3 := sgn_le (s := s) hB.1 hB.2
  rw [sgn_scale s (mg m i)] at b3
  rcases her2.2 with h | h
  · subst h
    have hM0 : M = 0 := by rw [← hM]; simp
    rw [hM0] at b1 b2
    unfold mg at b1 b2 ⊢
    rw [Nat.zero_mul, Nat.zero_mul, sgn_zero] at b1 b2
    rw [Nat.zero_mul, sgn_zero]
    have h0 : (0 : Int) ≤ ep * (n * 2 ^ (j + 3000).toNat : Nat) := by
      rw [← Int.natCast_mul]
      exact Int.natCast_nonneg _
    constructor <;> omega
  · have b4 := Nat.mul_le_mul_right (mg n j) h
    rw [Nat.mul_assoc] at b4
    have b5 : ((er * mg n j : Nat) : Int) = er * mg n j := Int.natCast_mul _ _
    have b6 : ((ep * mg n j : Nat) : Int) = ep * mg n j := Int.natCast_mul _ _
    constructor <;> omega

/-! ### Whole numbers -/
theorem cut_gap (w : Ieee.Toward) (hw : w ≠ .even) (s : Bool) (m d : Nat) : w.cut s m d = m / 2 ^ d + (match w with | .even => false | .down => s && m % 2 ^ d != 0 | .up => !s && m % 2 ^ d != 0 | .zero => false).toNat := by
  have key : m / (1 <<< min d (m.log2 + 2)) = m / 2 ^ d ∧ (m % (1 <<< min d (m.log2 + 2)) != 0) = (m % 2 ^ d != 0) := by
    rw [Nat.shiftLeft_eq, Nat.one_mul]
    rcases Nat.le_total d (m.log2 + 2) with h | h
    · rw [Nat.min_eq_left h]; exact ⟨rfl, rfl⟩
    · rw [Nat.min_eq_right h]
      have h1 : m < 2 ^ (m.log2 + 1) := Nat.lt_log2_self
      have h2 : 2 ^ (m.log2 + 1) ≤ 2 ^ (m.log2 + 2) := Nat.pow_le_pow_right (by omega) (by omega)
      have h3 : 2 ^ (m.log2 + 2) ≤ 2 ^ d := Nat.pow_le_pow_right (by omega) h
      rw [Nat.div_eq_of_lt (by omega), Nat.div_eq_of_lt (by omega), Nat.mod_eq_of_lt (by omega), Nat.mod_eq_of_lt (by omega)]
      exact ⟨rfl, rfl⟩
  unfold Ieee.Toward.cut
  simp only
  rw [key.1]
  cases w
  · exact absurd rfl hw
  · simp only [key.2]
  · simp only [key.2]
  · rfl

theorem V_frac {s : Bool} {m : Nat} {p : Int} (h1 : -3000 ≤ p) (d : Nat) (h2 : (-p).toNat = d) : mg m p = m <<< p.toNat * 2 ^ (3000 - d) ∧ one = 2 ^ d * 2 ^ (3000 - d) := by
  unfold mg one
  rw [Nat.shiftLeft_eq, Nat.mul_assoc, ← Nat.pow_add, ← Nat.pow_add]
  constructor
  · congr 2; omega
  · congr 1; unfold e3000; omega

/-- a whole number, as an int -/
theorem fl_toInt {x : Nat} {n : Int} (hx : Num x) (h : V x = n * (one : Int)) : (Ieee.double.read x).toInt .zero = some n := by
  obtain ⟨s, m, p, hr, p1, p2, p3⟩ := hx
  rw [V_of hr] at h
  rw [hr]
  unfold Ieee.Datum.toInt Ieee.Datum.integral
  simp only
  rw [signed_eq, cut_gap _ (by decide)]
  simp only [Bool.toNat_false, Nat.add_zero, Nat.pow_zero]
  obtain ⟨d, hd⟩ : ∃ d : Nat, (-p).toNat = d := ⟨_, rfl⟩
  obtain ⟨e1, e2⟩ := V_frac (s := s) (m := m) (by omega) d hd
  rw [hd]
  generalize m <<< p.toNat = A at *
  generalize hE : 2 ^ (3000 - d) = E at *
  have hEp : 0 < E := by rw [← hE]; exact Nat.two_pow_pos _
  have hDp : 0 < 2 ^ d := Nat.two_pow_pos _
  generalize 2 ^ d = D at *
  rw [e1, e2, sgn_scale, Int.natCast_mul, ← Int.mul_assoc] at h
  have h3 : sgn s A = n * D := Int.eq_of_mul_eq_mul_right (by omega) h
  have h4 : A = n.natAbs * D := by
    have := congrArg Int.natAbs h3
    rw [Int.natAbs_mul, Int.natAbs_natCast] at this
    rw [← this]
    unfold sgn
    cases s <;> simp
  have h5 : A / D = n.natAbs := by rw [h4]; exact Nat.mul_div_cancel _ hDp
  rw [h5]
  have h6 : sgn s n.natAbs = n := by
    rw [h4, sgn_scale] at h3
    exact Int.eq_of_mul_eq_mul_right (by omega) h3
  rw [h6]
  simp

theorem whole_of {s : Bool} {F : Nat} (h : F < 4194304) : Num (Ieee.double.nearest s F 0) ∧ V (Ieee.double.nearest s F 0) = sgn s F * (one : Int) := by
  have e : mg F 0 = F * one := by
    unfold mg one
    rw [show (0 + 3000 : Int).toNat = e3000 from rfl]
  have h3 : mg F 0 < big := by
    rw [e]
    exact Nat.mul_lt_mul_of_pos_right h one_pos
  obtain ⟨a1, _, _, a4⟩ := written (s := s) (M := F) (place := 0) (by omega) h3
  refine ⟨a1, ?_⟩
  rw [a4 (by omega) (by omega), e, sgn_scale]

/-- math.Floor -/
theorem fl_floor {x : Nat} (hx : Num x) (h1 : -(2097152 * (one : Int)) < V x) (h2 : V x < 2097152 * (one : Int)) :
    ∃ n : Int, Num (Ieee.double.write ((Ieee.double.read x).integral .down)) ∧ V (Ieee.double.write ((Ieee.double.read x).integral .down)) = n * (one : Int) ∧ n * (one : Int) ≤ V x ∧ V x < (n + 1) * (one : Int) := by
  obtain ⟨s, m, p, hr, p1, p2, p3⟩ := hx
  rw [V_of hr] at h1 h2 ⊢
  have hmb := sgn_bd s _ _ h1 h2
  rw [hr]
  unfold Ieee.Datum.integral
  simp only
  rw [cut_gap _ (by decide)]
  obtain ⟨d, hd⟩ : ∃ d : Nat, (-p).toNat = d := ⟨_, rfl⟩
  obtain ⟨e1, e2⟩ := V_frac (s := s) (m := m) (by omega) d hd
  rw [hd]
  simp only
  generalize m <<< p.toNat = A at *
  generalize hE : 2 ^ (3000 - d) = E at *
  have hEp : 0 < E := by rw [← hE]; exact Nat.two_pow_pos _
  have hDp : 0 < 2 ^ d := Nat.two_pow_pos _
  generalize 2 ^ d = D at *
  have hAD : A < 2097152 * D := by
    rw [e1, e2] at hmb
    have : A * E < 2097152 * D * E := by rw [Nat.mul_assoc]; omega
    exact Nat.lt_of_mul_lt_mul_right this
  have d1 := Nat.div_add_mod A D
  have d2 := Nat.mod_lt A hDp
  have d3 : A / D < 2097152 := (Nat.div_lt_iff_lt_mul hDp).2 hAD
  obtain ⟨F, hF⟩ : ∃ F, A / D + (s && A % D != 0).toNat = F := ⟨_, rfl⟩
  have hF2 : F < 4194304 := by
    rw [← hF]
    have : (s && A % D != 0).toNat ≤ 1 := by cases (s && A % D != 0) <;> decide
    omega
  rw [hF]
  obtain ⟨a1, a2⟩ := whole_of (s := s) hF2
  have a3 : Ieee.double.write (.number s F 0) = Ieee.double.nearest s F 0 := rfl
  rw [a3]
  refine ⟨sgn s F, a1, a2, ?_⟩
  have key : sgn s F * (D : Int) ≤ sgn s A ∧ sgn s A < (sgn s F + 1) * (D : Int) := by
    rw [Int.add_mul, Int.one_mul, ← sgn_scale]
    generalize A / D = q at *
    generalize A % D = r at *
    unfold sgn
    cases s
    · simp only [Bool.false_and, Bool.toNat_false, Nat.add_zero] at hF
      subst hF
      simp only [Bool.false_eq_true, if_false]
      have : q * D = D * q := Nat.mul_comm _ _
      omega
    · simp only [Bool.true_and] at hF
      simp only [if_true]
      have e3 : (q + 1) * D = D * q + D := by rw [Nat.add_mul, Nat.one_mul, Nat.mul_comm]
      have e4 : (q + 0) * D = D * q := by rw [Nat.add_zero, Nat.mul_comm]
      cases hb : (r != 0)
      · rw [hb] at hF
        simp only [Bool.toNat_false] at hF
        subst hF
        rw [bne_eq_false_iff_eq] at hb
        rw [e4]
        omega
      · rw [hb] at hF
        simp only [Bool.toNat_true] at hF
        subst hF
        rw [bne_iff_ne] at hb
        rw [e3]
        omega
  rw [e1, e2, sgn_scale s A E, Int.natCast_mul, ← Int.mul_assoc, ← Int.mul_assoc]
  have hE0 : (0 : Int) < E := by omega
  exact ⟨Int.mul_le_mul_of_nonneg_right key.1 (by omega), Int.mul_lt_mul_of_pos_right key.2 hE0⟩

/-- math.Ceil -/
theorem fl_ceil {x : Nat} (hx : Num x) (h1 : -(2097152 * (one : Int)) < V x) (h2 : V x < 2097152 * (one : Int)) :
    ∃ n : Int, Num (Ieee.double.write ((Ieee.double.read x).integral .up)) ∧ V (Ieee.double.write ((Ieee.double.read x).integral .up)) = n * (one : Int) ∧ V x ≤ n * (one : Int) ∧ (n - 1) * (one : Int) < V x := by
  obtain ⟨s, m, p, hr, p1, p2, p3⟩ := hx
  rw [V_of hr] at h1 h2 ⊢
  have hmb := sgn_bd s _ _ h1 h2
  rw [hr]
  unfold Ieee.Datum.integral
  simp only
  rw [cut_gap _ (by decide)]
  obtain ⟨d, hd⟩ : ∃ d : Nat, (-p).toNat = d := ⟨_, rfl⟩
  obtain ⟨e1, e2⟩ := V_frac (s := s) (m := m) (by omega) d hd
  rw [hd]
  simp only
  generalize m <<< p.toNat = A at *
  generalize hE : 2 ^ (3000 - d) = E at *
  have hEp : 0 < E := by rw [← hE]; exact Nat.two_pow_pos _
  have hDp : 0 < 2 ^ d := Nat.two_pow_pos _
  generalize 2 ^ d = D at *
  have hAD : A < 2097152 * D := by
    rw [e1, e2] at hmb
    have : A * E < 2097152 * D * E := by rw [Nat.mul_assoc]; omega
    exact Nat.lt_of_mul_lt_mul_right this
  have d1 := Nat.div_add_mod A D
  have d2 := Nat.mod_lt A hDp
  have d3 : A / D < 2097152 := (Nat.div_lt_iff_lt_mul hDp).2 hAD
  obtain ⟨F, hF⟩ : ∃ F, A / D + (!s && A % D != 0).toNat = F := ⟨_, rfl⟩
  have hF2 : F < 4194304 := by
    rw [← hF]
    have : (!s && A % D != 0).toNat ≤ 1 := by cases (!s && A % D != 0) <;> decide
    omega
  rw [hF]
  obtain ⟨a1, a2⟩ := whole_of (s := s) hF2
  have a3 : Ieee.double.write (.number s F 0) = Ieee.double.nearest s F 0 := rfl
  rw [a3]
  refine ⟨sgn s F, a1, a2, ?_⟩
  have key : sgn s A ≤ sgn s F * (D : Int) ∧ (sgn s F - 1) * (D : Int) < sgn s A := by
    rw [Int.sub_mul, Int.one_mul, ← sgn_scale]
    generalize A / D = q at *
    generalize A % D = r at *
    unfold sgn
    have e3 : (q + 1) * D = D * q + D := by rw [Nat.add_mul, Nat.one_mul, Nat.mul_comm]
    have e4 : (q + 0) * D = D * q := by rw [Nat.add_zero, Nat.mul_comm]
    cases s
    · simp only [Bool.not_false, Bool.true_and] at hF
      simp only [Bool.false_eq_true, if_false]
      cases hb : (r != 0)
      · rw [hb] at hF
        simp only [Bool.toNat_false] at hF
        subst hF
        rw [bne_eq_false_iff_eq] at hb
        rw [e4]
        omega
      · rw [hb] at hF
        simp only [Bool.toNat_true] at hF
        subst hF
        rw [bne_iff_ne] at hb
        rw [e3]
        omega
    · simp only [Bool.not_true, Bool.false_and, Bool.toNat_false, Nat.add_zero] at hF
      subst hF
      simp only [if_true]
      have : q * D = D * q := Nat.mul_comm _ _
      omega
  rw [e1, e2, sgn_scale s A E, Int.natCast_mul, ← Int.mul_assoc, ← Int.mul_assoc]
  have hE0 : (0 : Int) < E := by omega
  exact ⟨Int.mul_le_mul_of_nonneg_right key.1 (by omega), Int.mul_lt_mul_of_pos_right key.2 hE0⟩

end Go.Proofs.Ytojoljffaedpfaa.Fp
