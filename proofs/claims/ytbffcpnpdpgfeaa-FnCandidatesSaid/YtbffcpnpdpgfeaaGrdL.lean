/- The grid: the sign of p + q sqrt 2, what rounded numbers say, lists that rise (plain). -/
import Derived.Test.YtbffcpnpdpgfeaaRange
namespace Go.Proofs.Ytbffcpnpdpgfeaa
open Go.RowKit
set_option linter.unusedVariables false

/-- the sign of u + v sqrt 2 by a fraction that is near enough -/
def ky (u v : Int) : Int := u * 1311738121 + v * 1855077841
theorem ky_sub (p q r s : Int) : ky (p - r) (q - s) = ky p q - ky r s := by unfold ky; omega
theorem sq_of (u c : Int) : (u * c) * (u * c) = c * c * (u * u) := by
  rw [Int.mul_assoc, Int.mul_left_comm c u c, ← Int.mul_assoc, Int.mul_comm]
theorem sq_lt {a b : Int} (ha : 0 ≤ a) (hb : 0 ≤ b) (h : a * a < b * b) : a < b := by
  rcases Int.lt_or_le a b with h1 | h1
  · exact h1
  · have := Int.mul_le_mul h1 h1 hb ha
    omega
theorem ky_core {u v : Int} (hu : 0 < u) (hv : 0 < v) (hv2 : v ≤ 1000000000) : (0 < u * u - 2 * v * v ∧ v * 1855077841 < u * 1311738121) ∨ (u * u - 2 * v * v < 0 ∧ u * 1311738121 < v * 1855077841) := by
  have e1 := sq_of u 1311738121
  have e2 := sq_of v 1855077841
  have e3 : 2 * v * v = 2 * (v * v) := Int.mul_assoc _ _ _
  rw [e3]
  have h0 := Int.mul_pos hv hv
  have h1 : v * v ≤ 1000000000 * 1000000000 := Int.mul_le_mul hv2 hv2 (by omega) (by omega)
  have h2 : v * v ≤ v * 1855077841 := Int.mul_le_mul_of_nonneg_left (by omega) (by omega)
  have hA : 0 ≤ u * 1311738121 := by omega
  have hB : 0 ≤ v * 1855077841 := by omega
  generalize hAe : u * 1311738121 = A at *
  generalize hBe : v * 1855077841 = B at *
  generalize u * u = U at *
  generalize v * v = V at *
  rcases Int.lt_trichotomy (U - 2 * V) 0 with h | h | h
  · exact .inr ⟨h, sq_lt hA hB (by omega)⟩
  · exfalso
    have h3 : B < A := sq_lt hB hA (by omega)
    have h4 : (B + 1) * (B + 1) ≤ A * A := Int.mul_le_mul (by omega) (by omega) (by omega) (by omega)
    have h5 : (B + 1) * (B + 1) = B * B + 2 * B + 1 := by rw [Int.add_mul, Int.mul_add]; omega
    omega
  · exact .inl ⟨h, sq_lt hB hA (by omega)⟩
theorem sg_congr {a b : Int} (h1 : 0 < a ↔ 0 < b) (h2 : a < 0 ↔ b < 0) : sg a = sg b := by
  unfold sg
  repeat' split
  all_goals first | rfl | (exfalso; omega)
theorem S2_ky {u v : Int} (hu : Cf u = true) (hv : Cf v = true) : S2 u v = sg (ky u v) := by
  have b1 := Cf_bd hu
  have b2 := Cf_bd hv
  unfold ky
  by_cases h1 : (0 ≤ u ∧ 0 ≤ v) ∨ (u ≤ 0 ∧ v ≤ 0)
  · rw [S2_same u v h1]
    exact sg_congr (by omega) (by omega)
  · rcases Int.lt_or_le u 0 with hu1 | hu1
    · have hv1 : 0 < v := by omega
      rw [S2_neg u v hu1 hv1]
      have := ky_core (u := -u) (v := v) (by omega) hv1 (by omega)
      rw [Int.neg_mul_neg] at this
      generalize u * u - 2 * v * v = X at *
      rcases this with ⟨h3, h4⟩ | ⟨h3, h4⟩
      · rw [show sg X = 1 by unfold sg; rw [if_neg (by omega), if_pos h3], show sg (u * 1311738121 + v * 1855077841) = -1 by unfold sg; rw [if_pos (by omega)]]; rfl
      · rw [show sg X = -1 by unfold sg; rw [if_pos h3], show sg (u * 1311738121 + v * 1855077841) = 1 by unfold sg; rw [if_neg (by omega), if_pos (by omega)]]; rfl
    · have hv1 : v < 0 := by omega
      have hu2 : 0 < u := by omega
      rw [S2_pos u v hu2 hv1]
      have := ky_core (u := u) (v := -v) hu2 (by omega) (by omega)
      rw [Int.mul_assoc 2 (-v), Int.neg_mul_neg, ← Int.mul_assoc] at this
      generalize u * u - 2 * v * v = X at *
      rcases this with ⟨h3, h4⟩ | ⟨h3, h4⟩
      · rw [show sg X = 1 by unfold sg; rw [if_neg (by omega), if_pos h3], show sg (u * 1311738121 + v * 1855077841) = 1 by unfold sg; rw [if_neg (by omega), if_pos (by omega)]]; rfl
      · rw [show sg X = -1 by unfold sg; rw [if_pos h3], show sg (u * 1311738121 + v * 1855077841) = -1 by unfold sg; rw [if_pos (by omega)]]; rfl
theorem mul_sign {u c : Int} (hc : 0 < c) : (0 < u * c ↔ 0 < u) ∧ (u * c < 0 ↔ u < 0) := by
  rcases Int.lt_trichotomy u 0 with h | h | h
  · have := Int.mul_neg_of_neg_of_pos h hc; omega
  · subst h; simp
  · have := Int.mul_pos h hc; omega
theorem ky_zero {u v : Int} (hv : -1000000000 ≤ v ∧ v ≤ 1000000000) (h : ky u v = 0) : u = 0 ∧ v = 0 := by
  have v1 : v ≤ 1000000000 := by omega
  have v2 : -v ≤ 1000000000 := by omega
  unfold ky at h
  have s1 := mul_sign (u := u) (c := 1311738121) (by decide)
  have s2 := mul_sign (u := v) (c := 1855077841) (by decide)
  have k1 := fun (a : 0 < u) (b : 0 < -v) => ky_core a b v2
  have k2 := fun (a : 0 < -u) (b : 0 < v) => ky_core a b v1
  rw [Int.neg_mul v 1855077841] at k1
  rw [Int.neg_mul u 1311738121] at k2
  generalize u * u - 2 * -v * -v = X at *
  generalize -u * -u - 2 * v * v = Y at *
  generalize u * 1311738121 = A at *
  generalize v * 1855077841 = B at *
  rcases Int.lt_trichotomy v 0 with h1 | h1 | h1
  · have h2 : 0 < u := by omega
    have := k1 h2 (by omega)
    omega
  · omega
  · have h2 : u < 0 := by omega
    have := k2 (by omega) h1
    omega

theorem le_cancel {c a b : Int} (hc : 0 < c) (h : c * a ≤ c * b) : a ≤ b := Int.le_of_mul_le_mul_left h hc
theorem mul_mono {c a b : Int} (hc : 0 ≤ c) (h : a ≤ b) : c * a ≤ c * b := Int.mul_le_mul_of_nonneg_left h hc
/-- |x| <= a, |y| <= e: x y lies within a e -/
theorem mul_err {q a x e : Int} (h1 : -a ≤ q) (h2 : q ≤ a) (h3 : -e ≤ x) (h4 : x ≤ e) : -(a * e) ≤ q * x ∧ q * x ≤ a * e := by
  have x1 := Int.mul_nonneg (a := a - q) (b := e - x) (by omega) (by omega)
  have x2 := Int.mul_nonneg (a := a + q) (b := e + x) (by omega) (by omega)
  have x3 := Int.mul_nonneg (a := a - q) (b := e + x) (by omega) (by omega)
  have x4 := Int.mul_nonneg (a := a + q) (b := e - x) (by omega) (by omega)
  have e1 : (a - q) * (e - x) = a * e - a * x - q * e + q * x := by clear x1 x2 x3 x4 h1 h2 h3 h4; grind
  have e2 : (a + q) * (e + x) = a * e + a * x + q * e + q * x := by clear x1 x2 x3 x4 h1 h2 h3 h4; grind
  have e3 : (a - q) * (e + x) = a * e + a * x - q * e - q * x := by clear x1 x2 x3 x4 h1 h2 h3 h4; grind
  have e4 : (a + q) * (e - x) = a * e - a * x + q * e - q * x := by clear x1 x2 x3 x4 h1 h2 h3 h4; grind
  omega
theorem ring1 (O ep D N c t r lo den st p q a : Int) : O * ((den * (st * p) - st * lo) * D + den * q * N) = den * (st * D * (p * O) + q * (N * O)) - st * D * (lo * O) := by grind
theorem ring2 (O ep D N c t r lo den st p q a : Int) : st * D * (r * den) = den * (st * D * r) ∧ st * D * (lo * O + ep * den) = st * D * (lo * O) + den * (st * D * ep) := by grind
theorem ring3 (O ep D N c t r lo den st p q a : Int) : q * (N * O) = D * (q * (t * st)) + D * (q * (c - t * st)) + q * (N * O - c * D) := by grind
theorem ring4 (O ep D N c t r lo den st p q a : Int) : st * D * (p * O) + D * (q * (t * st)) + D * (a * (ep * st)) + a * (D * ep) + st * D * ep = D * (st * (p * O + q * t + a * ep + ep) + a * ep) ∧ st * D * r = D * (st * r) := by grind
theorem ring5 (O ep t st p q a : Int) : st * (p * O + q * t + (2 * a + 1) * ep) = st * (p * O + q * t + a * ep + ep) + st * (a * ep) := by grind
theorem ring6 (q dr t : Int) : (q + 2) * (dr - 2 * t) = (q + 2) * dr - 2 * (q * t) - 4 * t := by grind
theorem ring7 (q O dr n1 ep : Int) : (q + 2) * O * dr = O * ((q + 2) * dr) ∧ n1 * O + ep * (5 * O) = O * (n1 + 5 * ep) := by grind
theorem ring8 (st r den lo O ep M : Int) : den * (st * r) = st * (r * den) ∧ den * (M * O + st * ep) = den * (M * O) + st * (ep * den) ∧ st * (lo * O + ep * den) = st * lo * O + st * (ep * den) ∧ st * (r * den + ep * den) = st * (r * den) + st * (ep * den) ∧ st * (lo * O) = st * lo * O ∧ -M * O = -(M * O) ∧ den * -(M * O + st * ep) = -(den * (M * O)) - st * (ep * den) := by grind
theorem ring9 (O dr n1 ep st t : Int) : 708000 * O * dr = O * (708000 * dr) ∧ n1 * O + ep * (5 * O) = O * (n1 + 5 * ep) ∧ st * (708000 * dr) = 708000 * (st * dr) ∧ st * (n1 + 5 * ep) = st * n1 + 5 * (st * ep) ∧ st * (4 * t) = 4 * (t * st) ∧ st * (2 * dr + ep) = 2 * (st * dr) + st * ep := by grind
theorem ring10 (O dr n1 n2 ep z1 z2 : Int) : 58 * O * dr = O * (58 * dr) ∧ n2 * O + ep * (5 * O) - n1 * O + ep * (5 * O) = O * (n2 - n1 + 10 * ep) ∧ (z2 - z1) * dr = z2 * dr - z1 * dr := by grind
theorem ring11 (O ep rl rh lo hi den : Int) : (hi - lo) * O = hi * O - lo * O ∧ den * (rh - rl) = rh * den - rl * den ∧ den * (40 * O + 2 * ep) = 40 * den * O + 2 * (ep * den) := by grind
theorem ring12 (D N st p q lo den : Int) : (den * (st * p) - st * lo) * D + den * q * N = den * (st * p * D + q * N) - st * lo * D := by grind
theorem ring13 (D N st p q hi den : Int) : (st * hi - den * (st * p)) * D + -den * -q * N = st * hi * D - den * (st * p * D - q * N) := by grind
theorem dist2 (a b c d x : Int) : x * (a - b + c) = x * a - x * b + x * c ∧ x * (a + b) = x * a + x * b := by grind
/-- the number that the rounded ends and root stand for lies within the bounds -/
theorem root_err {O ep D N c t st q a : Int} (hD : 0 < D) (hep : 0 ≤ ep) (hst : 1 ≤ st) (ha1 : -a ≤ q) (ha2 : q ≤ a)
    (ht1 : t * st ≤ c + ep * st) (ht2 : c ≤ t * st + ep * st) (hc1 : c * D ≤ N * O + D * ep) (hc2 : N * O ≤ c * D + D * ep) :
    -(D * (a * (ep * st)) + a * (D * ep)) ≤ q * (N * O) - D * (q * (t * st)) ∧ q * (N * O) - D * (q * (t * st)) ≤ D * (a * (ep * st)) + a * (D * ep) := by
  have k1 := mul_err (x := c - t * st) ha1 ha2 (by omega : -(ep * st) ≤ _) (by omega)
  have k2 := mul_err (x := N * O - c * D) ha1 ha2 (by omega : -(D * ep) ≤ _) (by omega)
  have k3 := mul_mono (c := D) (by omega) k1.1
  have k4 := mul_mono (c := D) (by omega) k1.2
  have e := ring3 O ep D N c t 0 0 0 st 0 q a
  have e2 : D * -(a * (ep * st)) = - (D * (a * (ep * st))) := Int.mul_neg _ _
  omega
theorem side_lo {O ep D N c t r lo den st p q a : Int} (hD : 0 < D) (hep : 0 ≤ ep) (hden : 0 < den) (hst : 1 ≤ st) (hO : 0 ≤ O) (ha1 : -a ≤ q) (ha2 : q ≤ a)
    (h : 0 ≤ (den * (st * p) - st * lo) * D + den * q * N) (hr : r * den ≤ lo * O + ep * den) (ht1 : t * st ≤ c + ep * st) (ht2 : c ≤ t * st + ep * st)
    (hc1 : c * D ≤ N * O + D * ep) (hc2 : N * O ≤ c * D + D * ep) : r ≤ p * O + q * t + (2 * a + 1) * ep := by
  have ha : 0 ≤ a := by omega
  have k1 := root_err hD hep hst ha1 ha2 ht1 ht2 hc1 hc2
  have hstD : 0 ≤ st * D := Int.mul_nonneg (by omega) (by omega)
  have k2 := mul_mono hO h
  rw [ring1 O ep D N c t r lo den st p q a, Int.mul_zero] at k2
  have k3 := mul_mono hstD hr
  have e2 := ring2 O ep D N c t r lo den st p q a
  rw [e2.1, e2.2] at k3
  have k4 : den * (st * D * r) ≤ den * (st * D * (p * O) + q * (N * O) + st * D * ep) := by
    rw [Int.mul_add den (st * D * (p * O) + q * (N * O))]
    omega
  have k5 := le_cancel hden k4
  have e4 := ring4 O ep D N c t r lo den st p q a
  have k6 : D * (st * r) ≤ D * (st * (p * O + q * t + a * ep + ep) + a * ep) := by omega
  have k7 := le_cancel hD k6
  have k8 : a * ep ≤ st * (a * ep) := by
    have := Int.mul_le_mul_of_nonneg_right (c := a * ep) hst (Int.mul_nonneg ha hep)
    omega
  have k9 : st * r ≤ st * (p * O + q * t + (2 * a + 1) * ep) := by
    have e7 := ring5 O ep t st p q a
    omega
  exact le_cancel (by omega) k9

/-- the same at the upper end -/
theorem side_hi {O ep D N c t r hi den st p q a : Int} (hD : 0 < D) (hep : 0 ≤ ep) (hden : 0 < den) (hst : 1 ≤ st) (hO : 0 ≤ O) (ha1 : -a ≤ q) (ha2 : q ≤ a)
    (h : 0 ≤ (st * hi - den * (st * p)) * D + -den * q * N) (hr : hi * O ≤ r * den + ep * den) (ht1 : t * st ≤ c + ep * st) (ht2 : c ≤ t * st + ep * st)
    (hc1 : c * D ≤ N * O + D * ep) (hc2 : N * O ≤ c * D + D * ep) : p * O + q * t ≤ r + (2 * a + 1) * ep := by
  have := side_lo (O := O) (ep := ep) (D := D) (N := N) (c := c) (t := t) (r := -r) (lo := -hi) (den := den) (st := st) (p := -p) (q := -q) (a := a) hD hep hden hst hO (by omega) (by omega)
    (by rw [Int.mul_neg, Int.mul_neg, Int.mul_neg, Int.mul_neg]; rw [Int.neg_mul] at h; rw [show -(den * (st * p)) - -(st * hi) = st * hi - den * (st * p) by omega]; exact h) (by rw [Int.neg_mul, Int.neg_mul]; omega) ht1 ht2 hc1 hc2
  rw [Int.neg_mul, Int.neg_mul] at this
  omega

/-- what the floats say of the root and the ends -/
structure Flo (O ep D N c t st : Int) : Prop where
  o0 : 0 < O
  eps : 2147483648 * ep = O
  d0 : 0 < D
  s1 : 1 ≤ st
  s2 : st ≤ 2
  t1 : t * st ≤ c + ep * st
  t2 : c ≤ t * st + ep * st
  c1 : c * D ≤ N * O + D * ep
  c2 : N * O ≤ c * D + D * ep
  c3 : 1414 * O ≤ 1000 * c
  c4 : 1000 * c ≤ 1415 * O
theorem Flo.bds {O ep D N c t st : Int} (h : Flo O ep D N c t st) : 0 < ep ∧ 0 < t ∧ 1413 * O ≤ 1000 * (t * st) ∧ 1000 * (t * st) ≤ 1416 * O ∧ 706 * O ≤ 1000 * t ∧ t ≤ 2 * O := by
  obtain ⟨h1, h2, h3, h4, h5, h6, h7, h8, h9, h10, h11⟩ := h
  have e1 : ep * st ≤ ep * 2 := mul_mono (by omega) h5
  have k1 : 1413 * O ≤ 1000 * (t * st) := by omega
  have k2 : 1000 * (t * st) ≤ 1416 * O := by omega
  have k3 : 0 < t := by
    rcases Int.lt_or_le 0 t with h | h
    · exact h
    · have := Int.mul_nonneg_of_nonpos_of_nonpos (a := t) (b := -st) h (by omega)
      rw [Int.mul_neg] at this
      omega
  have k4 : t * st ≤ t * 2 := mul_mono (by omega) h5
  have k5 : t * 1 ≤ t * st := mul_mono (by omega) h4
  omega
/-- the first and the last number are not too near: z is the quotient of the floats, n1 the difference, dr twice the root -/
theorem q_lo {O ep D N c t st n1 dr z n X Y al bh E p q : Int} (hf : Flo O ep D N c t st) (hq1 : -1000000 ≤ q) (hq2 : q ≤ 1000000)
    (hE : E = 2000001 * ep) (hX : al ≤ p * O + q * t + E) (hY : p * O + -q * t ≤ bh + E)
    (hn : 2 * n1 ≤ 2 * (al - bh) + ep) (hd1 : 2 * dr ≤ 4 * t + ep) (hd2 : 4 * t ≤ 2 * dr + ep) (hz : z * dr ≤ n1 * O + ep * dr) (hfl : n * O ≤ z) : n - 1 ≤ q := by
  obtain ⟨b1, b2, -, -, b3, b4⟩ := hf.bds
  have hO := hf.o0
  have hep := hf.eps
  rcases Int.lt_or_le q (n - 1) with h | h
  · exfalso
    have hdr : 0 ≤ dr := by omega
    have k1 : (q + 2) * O ≤ z := Int.le_trans (Int.mul_le_mul_of_nonneg_right (by omega) (by omega)) hfl
    have k2 := Int.mul_le_mul_of_nonneg_right k1 hdr
    have k3 : ep * dr ≤ ep * (5 * O) := mul_mono (by omega) (by omega)
    have e1 := ring7 q O dr n1 ep
    have k4 : O * ((q + 2) * dr) ≤ O * (n1 + 5 * ep) := by omega
    have k5 := le_cancel hO k4
    have k6 := mul_err (q := q + 2) (a := 1000002) (x := dr - 2 * t) (e := ep) (by omega) (by omega) (by omega) (by omega)
    have e2 := ring6 q dr t
    rw [Int.neg_mul] at hY
    omega
  · exact h

theorem q_hi {O ep D N c t st n1 dr z n X Y ah bl E p q : Int} (hf : Flo O ep D N c t st) (hq1 : -1000000 ≤ q) (hq2 : q ≤ 1000000)
    (hE : E = 2000001 * ep) (hX : p * O + q * t ≤ ah + E) (hY : bl ≤ p * O + -q * t + E)
    (hn : 2 * (ah - bl) ≤ 2 * n1 + ep) (hd1 : 2 * dr ≤ 4 * t + ep) (hd2 : 4 * t ≤ 2 * dr + ep) (hz : n1 * O ≤ z * dr + ep * dr) (hfl : z ≤ n * O) : q ≤ n + 1 := by
  have := q_lo (p := -p) (q := -q) (al := -ah) (bh := -bl) (n1 := -n1) (z := -z) (n := -n) (X := X) (Y := Y) hf (by omega) (by omega) hE (by rw [Int.neg_mul, Int.neg_mul]; omega) (by rw [Int.neg_mul, Int.neg_mul]; omega) (by omega) hd1 hd2 (by rw [Int.neg_mul, Int.neg_mul]; omega) (by rw [Int.neg_mul]; omega)
  omega
theorem p_lo {O ep D N c t st n1 pr n al E p q : Int} (hf : Flo O ep D N c t st) 
    (hE : E = 2000001 * ep) (hX : al ≤ p * O + q * t + E) (hp : 2 * (q * t) ≤ 2 * pr + ep) (hn : 2 * n1 ≤ 2 * (al - pr) + ep) (hfl : n * O ≤ n1) : n - 1 ≤ p := by
  have hO := hf.o0
  have hep := hf.eps
  rcases Int.lt_or_le p (n - 1) with h | h
  · exfalso
    have k1 : (p + 2) * O ≤ n1 := Int.le_trans (Int.mul_le_mul_of_nonneg_right (by omega) (by omega)) hfl
    rw [Int.add_mul] at k1
    omega
  · exact h
theorem p_hi {O ep D N c t st n1 pr n ah E p q : Int} (hf : Flo O ep D N c t st) 
    (hE : E = 2000001 * ep) (hX : p * O + q * t ≤ ah + E) (hp : 2 * pr ≤ 2 * (q * t) + ep) (hn : 2 * (ah - pr) ≤ 2 * n1 + ep) (hfl : n1 ≤ n * O) : p ≤ n + 1 := by
  have := p_lo (p := -p) (q := -q) (al := -ah) (pr := -pr) (n1 := -n1) (n := -n) hf hE (by rw [Int.neg_mul, Int.neg_mul]; omega) (by rw [Int.neg_mul]; omega) (by omega) (by rw [Int.neg_mul]; omega)
  omega
/-- bounds on the ends as floats: r stands for lo/den -/
theorem end_bd {O ep r lo den st M : Int} (hO : 0 < O) (hep : 0 ≤ ep) (hden : 1 ≤ den) (hst : 1 ≤ st) (h1 : r * den ≤ lo * O + ep * den) (h2 : lo * O ≤ r * den + ep * den) (hM : 0 ≤ M) (hl1 : -M ≤ st * lo) (hl2 : st * lo ≤ M) :
    -(M * O + st * ep) ≤ st * r ∧ st * r ≤ M * O + st * ep := by
  have k1 : den * (st * r) ≤ den * (M * O + st * ep) := by
    have x1 := mul_mono (c := st) (by omega) h1
    have x2 := Int.mul_le_mul_of_nonneg_right (c := O) hl2 (by omega)
    have x3 : M * O ≤ den * (M * O) := by have := Int.mul_le_mul_of_nonneg_right (c := M * O) hden (Int.mul_nonneg hM (by omega)); omega
    have e := ring8 st r den lo O ep M
    omega
  have k2 : den * -(M * O + st * ep) ≤ den * (st * r) := by
    have x1 := mul_mono (c := st) (by omega) h2
    have x2 := Int.mul_le_mul_of_nonneg_right (c := O) hl1 (by omega)
    have x3 : M * O ≤ den * (M * O) := by have := Int.mul_le_mul_of_nonneg_right (c := M * O) hden (Int.mul_nonneg hM (by omega)); omega
    have e := ring8 st r den lo O ep M
    omega
  exact ⟨le_cancel (by omega) k2, le_cancel (by omega) k1⟩

theorem z_bd {O ep D N c t st n1 dr z : Int} (hf : Flo O ep D N c t st) (hn : st * n1 ≤ 2000000 * O + 10 * ep) (hd2 : 4 * t ≤ 2 * dr + ep) (hd1 : 2 * dr ≤ 4 * t + ep) (hz : z * dr ≤ n1 * O + ep * dr) : z ≤ 708000 * O := by
  obtain ⟨b1, b2, b5, -, b3, b4⟩ := hf.bds
  have hO := hf.o0
  have hep := hf.eps
  rcases Int.lt_or_le (708000 * O) z with h | h
  · exfalso
    have hdr : 0 ≤ dr := by omega
    have k2 := Int.mul_le_mul_of_nonneg_right (Int.le_of_lt h) hdr
    have k3 : ep * dr ≤ ep * (5 * O) := mul_mono (by omega) (by omega)
    have e1 := ring9 O dr n1 ep st t
    have k4 : O * (708000 * dr) ≤ O * (n1 + 5 * ep) := by omega
    have k5 := le_cancel hO k4
    have k6 := mul_mono (c := st) (by have := hf.s1; omega) k5
    have k7 := mul_mono (c := st) (by have := hf.s1; omega) hd2
    have k8 : st * ep ≤ 2 * ep := Int.mul_le_mul_of_nonneg_right hf.s2 (by omega)
    omega
  · exact h
theorem z_span {O ep D N c t st n1 n2 dr z1 z2 : Int} (hf : Flo O ep D N c t st) (hn : n2 - n1 ≤ 80 * O + 10 * ep) (hd2 : 4 * t ≤ 2 * dr + ep) (hd1 : 2 * dr ≤ 4 * t + ep) (hz1 : n1 * O ≤ z1 * dr + ep * dr) (hz2 : z2 * dr ≤ n2 * O + ep * dr) : z2 - z1 ≤ 58 * O := by
  obtain ⟨b1, b2, b5, -, b3, b4⟩ := hf.bds
  have hO := hf.o0
  have hep := hf.eps
  rcases Int.lt_or_le (58 * O) (z2 - z1) with h | h
  · exfalso
    have hdr : 0 ≤ dr := by omega
    have k2 := Int.mul_le_mul_of_nonneg_right (Int.le_of_lt h) hdr
    have k3 : ep * dr ≤ ep * (5 * O) := mul_mono (by omega) (by omega)
    have e1 := ring10 O dr n1 n2 ep z1 z2
    have k4 : O * (58 * dr) ≤ O * (n2 - n1 + 10 * ep) := by omega
    have k5 := le_cancel hO k4
    omega
  · exact h
theorem end_span {O ep rl rh lo hi den : Int} (hO : 0 < O) (hep : 0 ≤ ep) (hden : 1 ≤ den) (h : hi - lo ≤ 40 * den) (h2 : lo * O ≤ rl * den + ep * den) (h1 : rh * den ≤ hi * O + ep * den) : rh - rl ≤ 40 * O + 2 * ep := by
  have k := Int.mul_le_mul_of_nonneg_right (c := O) h (by omega)
  have e := ring11 O ep rl rh lo hi den
  exact le_cancel (c := den) (by omega) (by omega)
theorem fl_span {O z1 z2 n n' K : Int} (hO : 0 < O) (h : z2 - z1 ≤ K * O) (h1 : z1 < (n + 1) * O) (h2 : (n' - 1) * O < z2) : n' + 1 - (n - 1) ≤ K + 4 := by
  have h3 : (n' - 1) * O < (n + 1) * O + K * O := by omega
  rw [← Int.add_mul] at h3
  have := Int.lt_of_mul_lt_mul_right h3 (by omega)
  omega
theorem fl_bd {O z n K : Int} (hO : 0 < O) (h : z ≤ K * O) (h1 : n * O ≤ z) : n ≤ K := by
  have : n * O ≤ K * O := by omega
  exact Int.le_of_mul_le_mul_right this hO
theorem fl_bd2 {O z n K : Int} (hO : 0 < O) (h : z ≤ K * O) (h1 : (n - 1) * O < z) : n ≤ K := by
  have : (n - 1) * O < K * O := by omega
  have := Int.lt_of_mul_lt_mul_right this (by omega)
  omega
/-- a solution's second number is not great -/
theorem sol_q {D N st p q lo hi den den' M : Int} (hN : 0 < N) (hD : 0 < D) (hDN : D ≤ N) (hden : 1 ≤ den) (hden' : 1 ≤ den') (hM : 0 ≤ M) (h1 : -M ≤ st * lo) (h2 : st * hi ≤ M)
    (k1 : 0 ≤ (den * (st * p) - st * lo) * D + den * q * N) (k2 : 0 ≤ (st * hi - den' * (st * p)) * D + -den' * -q * N) : -M ≤ q ∧ -M * D ≤ (st * p) * D + q * N ∧ (st * p) * D - q * N ≤ M * D := by
  have x1 : -(M * D) ≤ st * lo * D := by have := Int.mul_le_mul_of_nonneg_right (c := D) h1 (by omega); rw [Int.neg_mul] at this; exact this
  have x2 : st * hi * D ≤ M * D := Int.mul_le_mul_of_nonneg_right (c := D) h2 (by omega)
  have e1 := ring12 D N st p q lo den
  have e2 := ring13 D N st p q hi den'
  have y0 : 0 ≤ M * D := Int.mul_nonneg hM (by omega)
  have y1 : -(M * D) ≤ st * p * D + q * N := by
    rcases Int.lt_or_le (st * p * D + q * N) (-(M * D)) with h | h
    · have := Int.mul_le_mul_of_nonneg_right (c := -(st * p * D + q * N)) hden (by omega)
      simp only [Int.mul_neg] at this
      omega
    · exact h
  have y2 : st * p * D - q * N ≤ M * D := by
    rcases Int.lt_or_le (M * D) (st * p * D - q * N) with h | h
    · have := Int.mul_le_mul_of_nonneg_right (c := (st * p * D - q * N)) hden' (by omega)
      omega
    · exact h
  refine ⟨?_, by rw [Int.neg_mul]; exact y1, y2⟩
  rcases Int.lt_or_le q (-M) with h | h
  · have z1 := Int.mul_le_mul_of_nonneg_right (c := N) (Int.le_of_lt h) (by omega)
    have z2 := Int.mul_le_mul_of_nonneg_right (c := N) (show q + 1 ≤ -M by omega) (by omega)
    have z3 := mul_mono hM hDN
    rw [Int.neg_mul] at z1 z2
    rw [Int.add_mul] at z2
    omega
  · exact h
/-! ### Lists that rise -/
theorem pw_unique {α : Type} {r : α → α → Prop} (irr : ∀ x, ¬ r x x) (tr : ∀ x y z, r x y → r y z → r x z) :
    ∀ {l m : List α}, l.Pairwise r → m.Pairwise r → (∀ x, x ∈ l ↔ x ∈ m) → l = m
  | [], [], _, _, _ => rfl
  | [], y :: m, _, _, h => absurd ((h y).2 (List.mem_cons_self ..)) (List.not_mem_nil)
  | x :: l, [], _, _, h => absurd ((h x).1 (List.mem_cons_self ..)) (List.not_mem_nil)
  | x :: l, y :: m, hl, hm, h => by
    rw [List.pairwise_cons] at hl hm
    have hxy : x = y := by
      rcases List.mem_cons.1 ((h x).1 (List.mem_cons_self ..)) with h1 | h1
      · exact h1
      · rcases List.mem_cons.1 ((h y).2 (List.mem_cons_self ..)) with h2 | h2
        · exact h2.symm
        · exact absurd (tr _ _ _ (hm.1 x h1) (hl.1 y h2)) (irr y)
    subst hxy
    congr 1
    refine pw_unique irr tr hl.2 hm.2 fun z => ?_
    have hz := h z
    simp only [List.mem_cons] at hz
    constructor
    · intro h1
      rcases hz.1 (.inr h1) with h2 | h2
      · subst h2; exact absurd (hl.1 z h1) (irr z)
      · exact h2
    · intro h1
      rcases hz.2 (.inr h1) with h2 | h2
      · subst h2; exact absurd (hm.1 z h1) (irr z)
      · exact h2
/-- the one list that rises and has these members -/
noncomputable def theL {α : Type} (r : α → α → Prop) (P : α → Prop) : List α :=
  open Classical in if h : ∃ l : List α, l.Pairwise r ∧ ∀ x, x ∈ l ↔ P x then h.choose else []
theorem theL_eq {α : Type} {r : α → α → Prop} {P : α → Prop} (irr : ∀ x, ¬ r x x) (tr : ∀ x y z, r x y → r y z → r x z) {l : List α} (h1 : l.Pairwise r) (h2 : ∀ x, x ∈ l ↔ P x) : l = theL r P := by
  unfold theL
  have h : ∃ l : List α, l.Pairwise r ∧ ∀ x, x ∈ l ↔ P x := ⟨l, h1, h2⟩
  rw [dif_pos h]
  exact pw_unique irr tr h1 h.choose_spec.1 fun x => (h2 x).trans (h.choose_spec.2 x).symm
/-- an insertion from the end -/
theorem pw_insert {α : Type} {r : α → α → Prop} {l m : List α} {x : α} (h : (l ++ m).Pairwise r) (h1 : ∀ y ∈ l, r y x) (h2 : ∀ y ∈ m, r x y) : (l ++ x :: m).Pairwise r := by
  rw [List.pairwise_append] at h ⊢
  refine ⟨h.1, List.pairwise_cons.2 ⟨h2, h.2.1⟩, fun a ha b hb => ?_⟩
  rcases List.mem_cons.1 hb with rfl | hb
  · exact h1 a ha
  · exact h.2.2 a ha b hb
/-- pairs in a row -/
def fl2 : List (Int × Int) → List Int
  | [] => []
  | x :: l => x.1 :: x.2 :: fl2 l
theorem fl2_len : ∀ l : List (Int × Int), (fl2 l).length = l.length * 2
  | [] => rfl
  | x :: l => by simp only [fl2, List.length_cons, fl2_len l]; omega
theorem fl2_append : ∀ l m : List (Int × Int), fl2 (l ++ m) = fl2 l ++ fl2 m
  | [], m => rfl
  | x :: l, m => by simp only [fl2, List.cons_append, fl2_append l m]
theorem fl2_take : ∀ (l : List (Int × Int)) (k : Nat), fl2 (l.take k) = (fl2 l).take (k * 2)
  | [], k => by simp [fl2]
  | x :: l, 0 => by simp [fl2]
  | x :: l, k + 1 => by rw [show (k + 1) * 2 = k * 2 + 1 + 1 by omega]; simp only [fl2, List.take_succ_cons, fl2_take l k]
theorem fl2_drop : ∀ (l : List (Int × Int)) (k : Nat), fl2 (l.drop k) = (fl2 l).drop (k * 2)
  | [], k => by simp [fl2]
  | x :: l, 0 => by simp
  | x :: l, k + 1 => by rw [show (k + 1) * 2 = k * 2 + 1 + 1 by omega]; simp only [fl2, List.drop_succ_cons, fl2_drop l k]
theorem fl2_get : ∀ (l : List (Int × Int)) (k : Nat) (h : k < l.length), (fl2 l)[k * 2]? = some l[k].1 ∧ (fl2 l)[k * 2 + 1]? = some l[k].2
  | x :: l, 0, _ => by simp [fl2]
  | x :: l, k + 1, h => by
    have := fl2_get l k (by simp at h; omega)
    rw [show (k + 1) * 2 = k * 2 + 1 + 1 by omega, show k * 2 + 1 + 1 + 1 = (k * 2 + 1) + 1 + 1 by omega]
    simp only [fl2, List.getElem?_cons_succ, List.getElem_cons_succ]
    exact this

end Go.Proofs.Ytbffcpnpdpgfeaa
