/- A whole number's root, reckoned in floating point, lies in a range. -/
import Derived.Laws.FloatArith
namespace Go.Proofs.Ytojoljffaedpfaa.Q

theorem cut_even (M : Nat) (hM : 0 < M) : 4503599627370496 ≤ Ieee.Toward.even.cut false (M <<< (52 - (M.log2 : Int)).toNat) ((M.log2 : Int) - 52).toNat ∧ Ieee.Toward.even.cut false (M <<< (52 - (M.log2 : Int)).toNat) ((M.log2 : Int) - 52).toNat ≤ 9007199254740992 := by
  have hl := Nat.log2_self_le (show M ≠ 0 by omega)
  have hu := Nat.lt_log2_self (n := M)
  have key : ∀ (n gap : Nat), 4503599627370496 ≤ n / gap → n / gap < 9007199254740992 → ∀ b : Bool, 4503599627370496 ≤ n / gap + b.toNat ∧ n / gap + b.toNat ≤ 9007199254740992 := by
    intro n gap h1 h2 b
    cases b <;> simp <;> omega
  unfold Ieee.Toward.cut
  simp only
  rcases Nat.lt_or_ge 52 M.log2 with h | h
  · rw [show (52 - (M.log2 : Int)).toNat = 0 by omega, show ((M.log2 : Int) - 52).toNat = M.log2 - 52 by omega, Nat.shiftLeft_zero, Nat.min_eq_left (by omega), Nat.shiftLeft_eq, Nat.one_mul]
    refine key _ _ ?_ ?_ _
    · rw [Nat.le_div_iff_mul_le (Nat.two_pow_pos _)]
      have : 4503599627370496 * 2 ^ (M.log2 - 52) = 2 ^ M.log2 := by
        rw [show (4503599627370496 : Nat) = 2 ^ 52 by decide, ← Nat.pow_add]
        congr 1
        omega
      omega
    · rw [Nat.div_lt_iff_lt_mul (Nat.two_pow_pos _)]
      have : 9007199254740992 * 2 ^ (M.log2 - 52) = 2 ^ (M.log2 + 1) := by
        rw [show (9007199254740992 : Nat) = 2 ^ 53 by decide, ← Nat.pow_add]
        congr 1
        omega
      omega
  · rw [show (52 - (M.log2 : Int)).toNat = 52 - M.log2 by omega, show ((M.log2 : Int) - 52).toNat = 0 by omega, Nat.zero_min, Nat.shiftLeft_eq, Nat.shiftLeft_zero]
    refine key _ _ ?_ ?_ _
    · rw [Nat.div_one]
      have e : 2 ^ M.log2 * 2 ^ (52 - M.log2) = 4503599627370496 := by
        rw [← Nat.pow_add, show M.log2 + (52 - M.log2) = 52 by omega]
      have := Nat.mul_le_mul_right (2 ^ (52 - M.log2)) hl
      omega
    · rw [Nat.div_one]
      have e : 2 ^ (M.log2 + 1) * 2 ^ (52 - M.log2) = 9007199254740992 := by
        rw [← Nat.pow_add, show M.log2 + 1 + (52 - M.log2) = 53 by omega]
      have := Nat.mul_lt_mul_of_pos_right hu (Nat.two_pow_pos (52 - M.log2))
      omega

/-- what nearest gives, read again -/
theorem read_nearest (M : Nat) (pl : Int) (hM : 0 < M) (hp : -1074 ≤ pl + M.log2 - 52) (hq : pl + M.log2 ≤ 900) :
    ∃ m p, Ieee.double.read (Ieee.double.nearest false M pl) = .number false m p ∧ m < 9007199254740992 ∧ 4503599627370496 ≤ m ∧ p ≤ pl + M.log2 - 51 ∧ pl + M.log2 - 52 ≤ p := by
  have hlast : max (pl + (M.log2 : Int) - (Ieee.double.fractionBits : Int)) Ieee.double.leastPlace = pl + M.log2 - 52 := by
    have e1 : Ieee.double.leastPlace = -1074 := by decide
    have e2 : (Ieee.double.fractionBits : Int) = 52 := rfl
    rw [e1, e2]
    omega
  obtain ⟨k1, k2⟩ := cut_even M hM
  have hr : ∃ r, Ieee.double.nearest false M pl = r ∧ ∃ K, 4503599627370496 ≤ K ∧ K ≤ 9007199254740992 ∧ r = (pl + M.log2 - 52 + 1074).toNat * 4503599627370496 + K := by
    refine ⟨_, rfl, _, k1, k2, ?_⟩
    unfold Ieee.Format.nearest
    rw [if_neg (by omega)]
    simp only
    rw [hlast, show (pl - (pl + (M.log2 : Int) - 52)).toNat = (52 - (M.log2 : Int)).toNat by congr 1; omega, show (pl + (M.log2 : Int) - 52 - pl).toNat = ((M.log2 : Int) - 52).toNat by congr 1; omega]
    unfold Ieee.Format.word
    rw [if_neg (by simp)]
    have e1 : Ieee.double.leastPlace = -1074 := by decide
    have e2 : Ieee.double.binade = 4503599627370496 := by decide
    have e3 : Ieee.double.infRung = 2047 * 4503599627370496 := by decide
    rw [e1, e2, e3, show pl + (M.log2 : Int) - 52 - -1074 = pl + M.log2 - 52 + 1074 by omega]
    omega
  obtain ⟨r, h1, K, h2, h3, h4⟩ := hr
  rw [h1]
  obtain ⟨L, hL⟩ : ∃ L : Nat, (L : Int) = pl + M.log2 - 52 + 1074 := ⟨(pl + M.log2 - 52 + 1074).toNat, by omega⟩
  have hL2 : L ≤ 1922 := by omega
  rw [← hL, Int.toNat_natCast] at h4
  have e2 : Ieee.double.binade = 4503599627370496 := by decide
  have e3 : Ieee.double.infRung = 2047 * 4503599627370496 := by decide
  have e4 : Ieee.double.signWeight = 9223372036854775808 := by decide
  have e5 : Ieee.double.leastPlace = -1074 := by decide
  unfold Ieee.Format.read
  simp only
  rw [e2, e3, e4, e5]
  have hn : (r / 9223372036854775808 % 2 == 1) = false := by
    rw [show r / 9223372036854775808 = 0 by omega]; rfl
  have hm : r % 9223372036854775808 = r := by omega
  rw [hn, hm, if_neg (by omega), if_pos (by omega)]
  refine ⟨_, _, rfl, by omega, by omega, ?_, ?_⟩ <;> omega

theorem rootFrom_sq (n : Nat) : ∀ (t r : Nat), r * r ≤ n → Ieee.Datum.rootFrom n t r * Ieee.Datum.rootFrom n t r ≤ n
  | 0, r, h => h
  | t + 1, r, h => by
    unfold Ieee.Datum.rootFrom
    simp only
    refine rootFrom_sq n t _ ?_
    split
    · assumption
    · exact h
theorem log2_of {m : Nat} (h1 : 4503599627370496 ≤ m) (h2 : m < 9007199254740992) : m.log2 = 52 := by
  have a := (Nat.le_log2 (n := m) (k := 52) (by omega)).2 (by omega)
  have b := (Nat.log2_lt (n := m) (k := 53) (by omega)).2 (by omega)
  omega

theorem sqrt_range (n : Nat) (h1 : 0 < n) (h2 : n < 34359738368) :
    ∃ (b : Nat) (r : Int), FloatKind.f64.format.sqrt (floatOfInt .f64 n) = some b ∧ (FloatKind.f64.decode b).toInt .zero = some r ∧ 0 ≤ r ∧ r < 1048576 := by
  have hn35 : n.log2 ≤ 34 := by
    have := (Nat.log2_lt (n := n) (k := 35) (by omega)).2 (by omega)
    omega
  have hx : floatOfInt .f64 (n : Int) = Ieee.double.nearest false n 0 := by
    unfold floatOfInt FloatKind.nearest FloatKind.encode FloatKind.format Ieee.Format.write
    simp only [Int.natAbs_natCast]
    rw [show decide ((n : Int) < 0) = false by simp]
  obtain ⟨m, p, hr, m2, m1, p2, p1⟩ := read_nearest n 0 h1 (by omega) (by omega)
  have hlog := log2_of m1 m2
  obtain ⟨more, hmore, hm56, hm57⟩ : ∃ more : Nat, 2 * (Ieee.double.fractionBits + 2) - m.log2 + ((p - (2 * (Ieee.double.fractionBits + 2) - m.log2 : Nat)) % 2).toNat = more ∧ 56 ≤ more ∧ more ≤ 57 := by
    refine ⟨_, rfl, ?_, ?_⟩
    · rw [hlog, show 2 * (Ieee.double.fractionBits + 2) - 52 = 56 by decide]; omega
    · rw [hlog, show 2 * (Ieee.double.fractionBits + 2) - 52 = 56 by decide]; omega
  obtain ⟨whole, hwh, hw2⟩ : ∃ whole, Ieee.Datum.rootFrom (m <<< more) ((m <<< more).log2 / 2 + 1) 0 = whole ∧ whole * whole ≤ m <<< more := ⟨_, rfl, rootFrom_sq _ _ _ (by rw [Nat.zero_mul]; exact Nat.zero_le _)⟩
  have hroot : (Ieee.double.read (floatOfInt .f64 (n : Int))).root (Ieee.double.fractionBits + 2) = some (.number false (2 * whole + (whole * whole != m <<< more).toNat) ((p - more) / 2 - 1)) := by
    rw [hx, hr]
    unfold Ieee.Datum.root
    simp only
    rw [if_neg (by omega), if_neg (by simp)]
    simp only [hmore, hwh]
  have hsh : m <<< more < 2 ^ 110 := by
    rw [Nat.shiftLeft_eq]
    have a := Nat.pow_le_pow_right (n := 2) (by omega) hm57
    have b := Nat.mul_lt_mul_of_lt_of_le m2 a (Nat.two_pow_pos _)
    have : 9007199254740992 * 2 ^ 57 = 2 ^ 110 := by decide
    omega
  have hsl : 4503599627370496 ≤ m <<< more := by
    rw [Nat.shiftLeft_eq]
    have := Nat.mul_le_mul m1 (Nat.two_pow_pos more)
    omega
  have hwb : whole < 36028797018963968 := by
    rcases Nat.lt_or_ge whole 36028797018963968 with h | h
    · exact h
    · have := Nat.mul_le_mul h h
      have e : 36028797018963968 * 36028797018963968 = 2 ^ 110 := by decide
      omega
  obtain ⟨M, hM, hM1, hM2⟩ : ∃ M, 2 * whole + (whole * whole != m <<< more).toNat = M ∧ 0 < M ∧ M < 72057594037927937 := by
    refine ⟨_, rfl, ?_, ?_⟩
    · rcases Nat.eq_zero_or_pos whole with h | h
      · subst h
        have : (0 * 0 != m <<< more) = true := by rw [bne_iff_ne]; omega
        rw [this]
        decide
      · omega
    · have : (whole * whole != m <<< more).toNat ≤ 1 := by cases (whole * whole != m <<< more) <;> decide
      omega
  have hMl : M.log2 ≤ 56 := by
    have := (Nat.log2_lt (n := M) (k := 57) (by omega)).2 (by omega)
    omega
  rw [hM] at hroot
  obtain ⟨m3, p3, hr3, n2, n1, q2, q1⟩ := read_nearest M ((p - more) / 2 - 1) hM1 (by omega) (by omega)
  refine ⟨Ieee.double.nearest false M ((p - more) / 2 - 1), ((m3 / 1 <<< min (-p3).toNat (m3.log2 + 2) : Nat) : Int), ?_, ?_, ?_⟩
  · show (((Ieee.double.read (floatOfInt .f64 (n : Int))).root (Ieee.double.fractionBits + 2)).map Ieee.double.write) = _
    rw [hroot]
    rfl
  · show (Ieee.double.read (Ieee.double.nearest false M ((p - more) / 2 - 1))).toInt .zero = _
    rw [hr3]
    unfold Ieee.Datum.toInt Ieee.Datum.integral
    simp only
    rw [show p3.toNat = 0 by omega]
    unfold Ieee.Toward.cut Ieee.signed
    simp
  · refine ⟨Int.natCast_nonneg _, ?_⟩
    have hp3 : 33 ≤ (-p3).toNat := by omega
    rw [log2_of n1 n2]
    have hmin : 33 ≤ min (-p3).toNat (52 + 2) := by omega
    have hg : 2 ^ 33 ≤ 1 <<< min (-p3).toNat (52 + 2) := by
      rw [Nat.shiftLeft_eq, Nat.one_mul]
      exact Nat.pow_le_pow_right (by omega) hmin
    have : m3 / 1 <<< min (-p3).toNat (52 + 2) < 1048576 := by
      rw [Nat.div_lt_iff_lt_mul (by omega)]
      have := Nat.mul_le_mul_left 1048576 hg
      have e : 1048576 * 2 ^ 33 = 9007199254740992 := by decide
      omega
    exact Int.ofNat_lt.2 this

end Go.Proofs.Ytojoljffaedpfaa.Q
