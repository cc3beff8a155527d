/- The grid: the program's points. -/
import Derived.Test.YtojoljffaedpfaaGrdF
import Derived.Test.YtojoljffaedpfaaLt
import Derived.Test.YtojoljffaedpfaaMade
namespace Go.Proofs.Ytojoljffaedpfaa
open Go.RowKit Go.Lib
set_option linter.unusedVariables false
set_option linter.unusedSimpArgs false

theorem elt_r2 : Elt Try.prog 24 34 2 16 := elt_of (z := .agg #[.int .i64 0, .int .i64 0]) (by kernel_rfl) (by kernel_rfl) rfl (by decide) (by decide)

/-- p + q sqrt 2 over st in the first range, its conjugate in the second -/
def Sol (st lo hi den lo' hi' den' : Int) (x : Int × Int) : Prop := (-4000000 ≤ st * x.1 ∧ st * x.1 ≤ 4000000) ∧ (-1000000 ≤ x.2 ∧ x.2 ≤ 1000000) ∧ Lies (st * x.1) x.2 st lo hi den = true ∧ Lies (st * x.1) (-x.2) st lo' hi' den' = true
theorem Lies_iff {p q st lo hi den : Int} (h : Fine p q st lo hi den) : Lies p q st lo hi den = true ↔ 0 ≤ (den * p - st * lo) * 1311738121 + den * q * 1855077841 ∧ 0 ≤ (st * hi - den * p) * 1311738121 + -den * q * 1855077841 := by
  have b := h.bds
  unfold Lies
  rw [S2_ky (Cf_mk (by omega)) (Cf_mk (by omega)), S2_ky (Cf_mk (by omega)) (Cf_mk (by omega))]
  simp only [Bool.and_eq_true, decide_eq_true_eq]
  have hs : ∀ n : Int, 0 ≤ sg n ↔ 0 ≤ n := by
    intro n; unfold sg; split
    · constructor <;> intro h <;> omega
    · split <;> constructor <;> intro h <;> omega
  rw [hs, hs]
  rfl

/-- the ranges that the grid takes -/
structure Rgs (st lo hi den lo' hi' den' : Int) : Prop where
  s1 : 1 ≤ st
  s2 : st ≤ 2
  a : Rng lo hi den = true
  b : Rng lo' hi' den' = true
  a1 : -1000000 ≤ st * lo
  a2 : st * hi ≤ 1000000
  b1 : -1000000 ≤ st * lo'
  b2 : st * hi' ≤ 1000000

def cst : Nat := 4609047870845172685
theorem cst_num : Fp.Num cst := ⟨false, 6369051672525773, -52, by decide +kernel, by decide, by decide, by decide⟩
theorem cst_bd : Fp.V cst * 1311738121 ≤ 1855077841 * (Fp.one : Int) + 1311738121 * (Fp.ep : Int) ∧ 1855077841 * (Fp.one : Int) ≤ Fp.V cst * 1311738121 + 1311738121 * (Fp.ep : Int) ∧ 1414 * (Fp.one : Int) ≤ 1000 * Fp.V cst ∧ 1000 * Fp.V cst ≤ 1415 * (Fp.one : Int) := by
  decide +kernel
def two : Nat := 4611686018427387904
theorem two_num : Fp.Num two ∧ Fp.V two = 2 * (Fp.one : Int) := by
  refine ⟨⟨false, 4503599627370496, -51, by decide +kernel, by decide, by decide, by decide⟩, by decide +kernel⟩

theorem one_pos' : (0 : Int) < (Fp.one : Int) := by have := Fp.one_pos; omega
theorem ep_eq' : 2147483648 * (Fp.ep : Int) = (Fp.one : Int) := by have := Fp.ep_eq; omega
theorem big_eq' : (Fp.big : Int) = 4194304 * (Fp.one : Int) := by unfold Fp.big; omega
theorem ring20 (r d O a e : Int) : r * (d * O) = O * (r * d) ∧ a * O * O + e * (d * O) = O * (a * O + e * d) ∧ a * O + e * (d * O) = O * (a + e * d) ∧ r * (d * O) + e * (d * O) = O * (r * d + e * d) ∧ a * O * O = O * (a * O) ∧ a * O = O * a := by grind
/-- a number over a whole number -/
theorem div_fl {x : Nat} {a d : Int} (hx : Fp.Num x) (h0 : -2097152 * (Fp.one : Int) < Fp.V x) (h0' : Fp.V x < 2097152 * (Fp.one : Int)) (h3 : 1 ≤ d) (h4 : d ≤ 100) :
    ∃ r, floatBits .quo .f64 x (floatOfInt .f64 d) = some r ∧ Fp.Num r ∧ Fp.V r * d ≤ Fp.V x + (Fp.ep : Int) * d ∧ Fp.V x ≤ Fp.V r * d + (Fp.ep : Int) * d := by
  obtain ⟨n2, v2⟩ := Fp.fl_int (n := d) (by omega) (by omega)
  have hO := one_pos'
  generalize hOe : (Fp.one : Int) = O at *
  have hdO : O ≤ d * O := by have := Int.mul_le_mul_of_nonneg_right (c := O) h3 (by omega); omega
  obtain ⟨r, e1, e2, e3, e4⟩ := Fp.fl_div hx n2 (by rw [v2]; omega) (by rw [v2]; omega) (by rw [v2]; omega)
  rw [v2, hOe] at e3 e4
  refine ⟨r, e1, e2, ?_, ?_⟩
  · have e := ring20 (Fp.V r) d O (Fp.V x) (Fp.ep : Int)
    exact le_cancel hO (by omega)
  · have e := ring20 (Fp.V r) d O (Fp.V x) (Fp.ep : Int)
    exact le_cancel hO (by omega)
/-- a whole number over a whole number -/
theorem quo_fl {n d : Int} (h1 : -1000000 ≤ n) (h2 : n ≤ 1000000) (h3 : 1 ≤ d) (h4 : d ≤ 100) :
    ∃ r, floatBits .quo .f64 (floatOfInt .f64 n) (floatOfInt .f64 d) = some r ∧ Fp.Num r ∧ Fp.V r * d ≤ n * (Fp.one : Int) + (Fp.ep : Int) * d ∧ n * (Fp.one : Int) ≤ Fp.V r * d + (Fp.ep : Int) * d := by
  obtain ⟨n1, v1⟩ := Fp.fl_int (n := n) (by omega) (by omega)
  have hO := one_pos'
  have k1 := Int.mul_le_mul_of_nonneg_right (c := (Fp.one : Int)) h1 (by omega)
  have k2 := Int.mul_le_mul_of_nonneg_right (c := (Fp.one : Int)) h2 (by omega)
  obtain ⟨r, e1, e2, e3, e4⟩ := div_fl (a := 0) n1 (by rw [v1]; omega) (by rw [v1]; omega) h3 h4
  rw [v1] at e3 e4
  exact ⟨r, e1, e2, e3, e4⟩

theorem ring21 (O t : Int) : 2 * O * t = O * (2 * t) := by grind
theorem ring22 (O : Int) : O * (4 * O) = 4 * (O * O) ∧ -(4194304 * O) * O = -4194304 * (O * O) ∧ 4194304 * O * O = 4194304 * (O * O) := by grind
theorem ring23 (O d t e : Int) : O * (2 * d) = 2 * (d * O) ∧ O * (4 * t + e) = 2 * (O * (2 * t)) + e * O ∧ O * (4 * t) = 2 * (O * (2 * t)) ∧ O * (2 * d + e) = 2 * (d * O) + e * O := by grind
theorem ring24 (st n a b e : Int) : st * (2 * n) = 2 * (st * n) ∧ st * (2 * (a - b) + e) = 2 * (st * a) - 2 * (st * b) + st * e ∧ st * (2 * (a - b)) = 2 * (st * a) - 2 * (st * b) ∧ st * (2 * n + e) = 2 * (st * n) + st * e := by grind
theorem ring25 (q O t : Int) : q * O * t = O * (q * t) := by grind
theorem ring26 (O : Int) : O * (1418000 * O) = 1418000 * (O * O) ∧ O * (-1418000 * O) = -1418000 * (O * O) ∧ -(4194304 * O) * O = -4194304 * (O * O) ∧ 4194304 * O * O = 4194304 * (O * O) := by grind
theorem ring27 (O d q t e : Int) : O * (2 * d) = 2 * (d * O) ∧ O * (2 * (q * t) + e) = 2 * (O * (q * t)) + e * O ∧ O * (2 * (q * t)) = 2 * (O * (q * t)) ∧ O * (2 * d + e) = 2 * (d * O) + e * O := by grind
theorem ring28 (st q t : Int) : st * (q * t) = q * (t * st) := by grind
theorem ring29 (st d x e : Int) : st * (2 * d) = 2 * (st * d) ∧ st * (2 * x + e) = 2 * (st * x) + st * e ∧ st * (2 * x) = 2 * (st * x) ∧ st * (2 * d + e) = 2 * (st * d) + st * e := by grind
theorem rng_fine {st lo hi den p q : Int} (s1 : 1 ≤ st) (s2 : st ≤ 2) (r : Rng lo hi den = true) (hp : -4000000 ≤ p ∧ p ≤ 4000000) (hq : -1000000 ≤ q ∧ q ≤ 1000000) : Fine p q st lo hi den := by
  have := Rng_bd r
  exact ⟨hp, by omega, ⟨s1, s2⟩, by omega, by omega, by omega⟩
theorem sol_lin' {st lo hi den lo' hi' den' : Int} {x : Int × Int} (s1 : 1 ≤ st) (s2 : st ≤ 2) (ra : Rng lo hi den = true) (rb : Rng lo' hi' den' = true) (hs : Sol st lo hi den lo' hi' den' x) :
    0 ≤ (den * (st * x.1) - st * lo) * 1311738121 + den * x.2 * 1855077841 ∧ 0 ≤ (st * hi - den * (st * x.1)) * 1311738121 + -den * x.2 * 1855077841 ∧
    0 ≤ (den' * (st * x.1) - st * lo') * 1311738121 + den' * -x.2 * 1855077841 ∧ 0 ≤ (st * hi' - den' * (st * x.1)) * 1311738121 + -den' * -x.2 * 1855077841 := by
  obtain ⟨h1, h2, h3, h4⟩ := hs
  have k1 := (Lies_iff (rng_fine s1 s2 ra h1 h2)).1 h3
  have k2 := (Lies_iff (rng_fine s1 s2 rb h1 (by omega))).1 h4
  exact ⟨k1.1, k1.2, k2.1, k2.2⟩
/-- what is known of the floats of the two ranges -/
structure Sup (st lo hi den lo' hi' den' : Int) (al ah bl bh t n1 dr z1 n2 z2 : Nat) (f l : Int) : Prop where
  e1 : floatBits .quo .f64 (floatOfInt .f64 lo) (floatOfInt .f64 den) = some al
  e2 : floatBits .quo .f64 (floatOfInt .f64 hi) (floatOfInt .f64 den) = some ah
  e3 : floatBits .quo .f64 (floatOfInt .f64 lo') (floatOfInt .f64 den') = some bl
  e4 : floatBits .quo .f64 (floatOfInt .f64 hi') (floatOfInt .f64 den') = some bh
  e5 : floatBits .quo .f64 cst (floatOfInt .f64 st) = some t
  e6 : floatBits .sub .f64 al bh = some n1
  e7 : floatBits .mul .f64 two t = some dr
  e8 : floatBits .quo .f64 n1 dr = some z1
  e9 : floatBits .sub .f64 ah bl = some n2
  e10 : floatBits .quo .f64 n2 dr = some z2
  sp : ∀ w, Calls Try.prog 67 #[.float .f64 z1, .float .f64 z2] w fun e w' => e = .returned (.tuple #[.int .i64 f, .int .i64 l]) ∧ w = w'
  f1 : -709000 ≤ f
  l1 : l ≤ 709000
  fl : l - f ≤ 100
  q : ∀ x : Int × Int, Sol st lo hi den lo' hi' den' x → f ≤ x.2 ∧ x.2 ≤ l
  p : ∀ q, -709000 ≤ q → q ≤ 709000 → ∃ pr nl nh a b, floatBits .mul .f64 (floatOfInt .f64 q) t = some pr ∧ floatBits .sub .f64 al pr = some nl ∧ floatBits .sub .f64 ah pr = some nh ∧
    (∀ w, Calls Try.prog 67 #[.float .f64 nl, .float .f64 nh] w fun e w' => e = .returned (.tuple #[.int .i64 a, .int .i64 b]) ∧ w = w') ∧
    -2004000 ≤ a ∧ b ≤ 2004000 ∧ (-2004000 ≤ st * a ∧ st * b ≤ 2004000) ∧ b - a ≤ 100 ∧ ∀ x : Int × Int, x.2 = q → Sol st lo hi den lo' hi' den' x → a ≤ x.1 ∧ x.1 ≤ b

theorem abs_st {st x K : Int} (h1 : 1 ≤ st) (hK : 0 ≤ K) (h : -K ≤ st * x ∧ st * x ≤ K) : -K ≤ x ∧ x ≤ K := by
  have k1 := Int.mul_le_mul_of_nonneg_right (c := x) h1
  have k2 := Int.mul_le_mul_of_nonneg_right (c := -x) h1
  simp only [Int.mul_neg] at k2
  rcases Int.lt_or_le x 0 with hx | hx
  · have := k2 (by omega); omega
  · have := k1 hx; omega

set_option maxHeartbeats 20000000 in
theorem sup_of {st lo hi den lo' hi' den' : Int} (h : Rgs st lo hi den lo' hi' den') : ∃ al ah bl bh t n1 dr z1 n2 z2 f l, Sup st lo hi den lo' hi' den' al ah bl bh t n1 dr z1 n2 z2 f l := by
  obtain ⟨s1, s2, ra, rb, a1, a2, b1, b2⟩ := h
  obtain ⟨d1, d2, d3, d4, d5, d6, d7, d8⟩ := Rng_bd ra
  obtain ⟨g1, g2, g3, g4, g5, g6, g7, g8⟩ := Rng_bd rb
  have sol_lin := fun {x : Int × Int} (hs : Sol st lo hi den lo' hi' den' x) => sol_lin' s1 s2 ra rb hs
  have hO := one_pos'
  have hep := ep_eq'
  have hbig := big_eq'
  have hep0 : 0 < (Fp.ep : Int) := by omega
  have m1 : st * lo ≤ st * hi := mul_mono (by omega) d7
  have m2 : st * lo' ≤ st * hi' := mul_mono (by omega) g7
  obtain ⟨al, e1, nal, al1, al2⟩ := quo_fl (n := lo) (d := den) d3 d4 d1 d2
  obtain ⟨ah, e2, nah, ah1, ah2⟩ := quo_fl (n := hi) (d := den) d5 d6 d1 d2
  obtain ⟨bl, e3, nbl, bl1, bl2⟩ := quo_fl (n := lo') (d := den') g3 g4 g1 g2
  obtain ⟨bh, e4, nbh, bh1, bh2⟩ := quo_fl (n := hi') (d := den') g5 g6 g1 g2
  obtain ⟨c1, c2, c3, c4⟩ := cst_bd
  obtain ⟨t, e5, nt, t1, t2⟩ := div_fl (x := cst) (a := 0) (d := st) cst_num (by omega) (by omega) s1 (by omega)
  have hf : Flo (Fp.one : Int) (Fp.ep : Int) 1311738121 1855077841 (Fp.V cst) (Fp.V t) st := ⟨hO, hep, by decide, s1, s2, t1, t2, c1, c2, c3, c4⟩
  obtain ⟨x1, x2, x3, x4, x5, x6⟩ := hf.bds
  have pal := end_bd (M := 1000000) hO (by omega) d1 s1 al1 al2 (by decide) a1 (by omega)
  have pah := end_bd (M := 1000000) hO (by omega) d1 s1 ah1 ah2 (by decide) (by omega) a2
  have pbl := end_bd (M := 1000000) hO (by omega) g1 s1 bl1 bl2 (by decide) b1 (by omega)
  have pbh := end_bd (M := 1000000) hO (by omega) g1 s1 bh1 bh2 (by decide) (by omega) b2
  have wa := end_span hO (by omega) d1 d8 al2 ah1
  have wb := end_span hO (by omega) g1 g8 bl2 bh1
  have se : st * (Fp.ep : Int) ≤ 2 * (Fp.ep : Int) := Int.mul_le_mul_of_nonneg_right s2 (by omega)
  obtain ⟨qal1, qal2⟩ := abs_st (K := 1000000 * (Fp.one : Int) + 2 * (Fp.ep : Int)) s1 (by omega) (show _ ≤ st * Fp.V al ∧ st * Fp.V al ≤ _ from ⟨by omega, by omega⟩)
  obtain ⟨qah1, qah2⟩ := abs_st (K := 1000000 * (Fp.one : Int) + 2 * (Fp.ep : Int)) s1 (by omega) (show _ ≤ st * Fp.V ah ∧ st * Fp.V ah ≤ _ from ⟨by omega, by omega⟩)
  obtain ⟨qbl1, qbl2⟩ := abs_st (K := 1000000 * (Fp.one : Int) + 2 * (Fp.ep : Int)) s1 (by omega) (show _ ≤ st * Fp.V bl ∧ st * Fp.V bl ≤ _ from ⟨by omega, by omega⟩)
  obtain ⟨qbh1, qbh2⟩ := abs_st (K := 1000000 * (Fp.one : Int) + 2 * (Fp.ep : Int)) s1 (by omega) (show _ ≤ st * Fp.V bh ∧ st * Fp.V bh ≤ _ from ⟨by omega, by omega⟩)
  obtain ⟨n1, e6, nn1, u1, u2⟩ := Fp.fl_sub nal nbh (by omega) (by omega)
  obtain ⟨n2, e9, nn2, u3, u4⟩ := Fp.fl_sub nah nbl (by omega) (by omega)
  obtain ⟨ntw, vtw⟩ := two_num
  have tw : Fp.V two * Fp.V t = (Fp.one : Int) * (2 * Fp.V t) := by rw [vtw]; exact ring21 _ _
  have y1 : (Fp.one : Int) * (2 * Fp.V t) ≤ (Fp.one : Int) * (4 * (Fp.one : Int)) := mul_mono (by omega) (by omega)
  have y2 : 0 ≤ (Fp.one : Int) * (2 * Fp.V t) := Int.mul_nonneg (by omega) (by omega)
  have y3 : 0 < (Fp.one : Int) * (Fp.one : Int) := Int.mul_pos hO hO
  have y4 := ring22 (Fp.one : Int)
  obtain ⟨dr, e7, ndr, v1, v2⟩ := Fp.fl_mul ntw nt (by rw [tw, hbig]; omega) (by rw [tw, hbig]; omega)
  rw [tw] at v1 v2
  have hd1 : 2 * Fp.V dr ≤ 4 * Fp.V t + (Fp.ep : Int) := le_cancel hO (by have := ring23 (Fp.one : Int) (Fp.V dr) (Fp.V t) (Fp.ep : Int); omega)
  have hd2 : 4 * Fp.V t ≤ 2 * Fp.V dr + (Fp.ep : Int) := le_cancel hO (by have := ring23 (Fp.one : Int) (Fp.V dr) (Fp.V t) (Fp.ep : Int); omega)
  obtain ⟨z1, e8, nz1, i1, i2⟩ := Fp.fl_div nn1 ndr (by omega) (by omega) (by omega)
  obtain ⟨z2, e10, nz2, i3, i4⟩ := Fp.fl_div nn2 ndr (by omega) (by omega) (by omega)
  have sn1 : st * (2 * Fp.V n1) ≤ st * (2 * (Fp.V al - Fp.V bh) + Fp.ep) := mul_mono (by omega) u1
  have sn2 : st * (2 * (Fp.V al - Fp.V bh)) ≤ st * (2 * Fp.V n1 + Fp.ep) := mul_mono (by omega) u2
  have sn3 : st * (2 * Fp.V n2) ≤ st * (2 * (Fp.V ah - Fp.V bl) + Fp.ep) := mul_mono (by omega) u3
  have sn4 : st * (2 * (Fp.V ah - Fp.V bl)) ≤ st * (2 * Fp.V n2 + Fp.ep) := mul_mono (by omega) u4
  have r1 := ring24 st (Fp.V n1) (Fp.V al) (Fp.V bh) Fp.ep
  have r2 := ring24 st (Fp.V n2) (Fp.V ah) (Fp.V bl) Fp.ep
  have zb1 := z_bd hf (by omega) hd2 hd1 i1
  have zb2 := z_bd (n1 := -Fp.V n1) (z := -Fp.V z1) hf (by rw [Int.mul_neg]; omega) hd2 hd1 (by rw [Int.neg_mul, Int.neg_mul]; omega)
  have zb3 := z_bd hf (by omega) hd2 hd1 i3
  have zb4 := z_bd (n1 := -Fp.V n2) (z := -Fp.V z2) hf (by rw [Int.mul_neg]; omega) hd2 hd1 (by rw [Int.neg_mul, Int.neg_mul]; omega)
  have zs := z_span (n1 := Fp.V n1) (n2 := Fp.V n2) hf (by omega) hd2 hd1 i2 i3
  obtain ⟨n, m, j1, j2, j3, j4, j5, j6, sp⟩ := span_any nz1 nz2 (by omega) (by omega) (by omega) (by omega)
  have k1 := fl_span hO zs j2 j4
  have k2 : -708000 ≤ n := by
    have := fl_bd2 (z := -Fp.V z1) (n := -n) (K := 708000) hO zb2 (by rw [show (-n - 1) * (Fp.one : Int) = -((n + 1) * (Fp.one : Int)) by rw [← Int.neg_mul]; congr 1; omega]; omega)
    omega
  have k3 := fl_bd2 hO zb3 j4
  refine ⟨al, ah, bl, bh, t, n1, dr, z1, n2, z2, n - 1, m + 1, ⟨e1, e2, e3, e4, e5, e6, e7, e8, e9, e10, sp, ?_, ?_, ?_, ?_, ?_⟩⟩
  · omega
  · omega
  · omega
  · intro x hs
    obtain ⟨l1, l2, l3, l4⟩ := sol_lin hs
    have hq1 := hs.2.1.1
    have hq2 := hs.2.1.2
    have A1 := side_lo (a := 1000000) (r := Fp.V al) hf.d0 (by omega) (by omega) s1 (by omega) hq1 hq2 l1 al1 t1 t2 c1 c2
    have A2 := side_hi (a := 1000000) (r := Fp.V ah) hf.d0 (by omega) (by omega) s1 (by omega) hq1 hq2 l2 ah2 t1 t2 c1 c2
    have B1 := side_lo (a := 1000000) (q := -x.2) (r := Fp.V bl) hf.d0 (by omega) (by omega) s1 (by omega) (by omega) (by omega) l3 bl1 t1 t2 c1 c2
    have B2 := side_hi (a := 1000000) (q := -x.2) (r := Fp.V bh) hf.d0 (by omega) (by omega) s1 (by omega) (by omega) (by omega) l4 bh2 t1 t2 c1 c2
    refine ⟨?_, ?_⟩
    · exact q_lo (X := 0) (Y := 0) (E := 2000001 * (Fp.ep : Int)) hf hq1 hq2 rfl A1 B2 u1 hd1 hd2 i1 j1
    · exact q_hi (X := 0) (Y := 0) (E := 2000001 * (Fp.ep : Int)) hf hq1 hq2 rfl A2 B1 u4 hd1 hd2 i4 j3
  · intro q hq1 hq2
    obtain ⟨nq, vq⟩ := Fp.fl_int (n := q) (by omega) (by omega)
    have tq : Fp.V (floatOfInt .f64 q) * Fp.V t = (Fp.one : Int) * (q * Fp.V t) := by rw [vq]; exact ring25 _ _ _
    have qt := mul_err (q := q) (a := 709000) (x := Fp.V t) (e := 2 * (Fp.one : Int)) hq1 hq2 (by omega) (by omega)
    have w1 : (Fp.one : Int) * (q * Fp.V t) ≤ (Fp.one : Int) * (1418000 * (Fp.one : Int)) := mul_mono (by omega) (by omega)
    have w2 : (Fp.one : Int) * (-1418000 * (Fp.one : Int)) ≤ (Fp.one : Int) * (q * Fp.V t) := mul_mono (by omega) (by omega)
    have w3 := ring26 (Fp.one : Int)
    obtain ⟨pr, f1, np, p1, p2⟩ := Fp.fl_mul nq nt (by rw [tq, hbig]; omega) (by rw [tq, hbig]; omega)
    rw [tq] at p1 p2
    have w4 := ring27 (Fp.one : Int) (Fp.V pr) q (Fp.V t) (Fp.ep : Int)
    have hp1 : 2 * Fp.V pr ≤ 2 * (q * Fp.V t) + (Fp.ep : Int) := le_cancel hO (by omega)
    have hp2 : 2 * (q * Fp.V t) ≤ 2 * Fp.V pr + (Fp.ep : Int) := le_cancel hO (by omega)
    -- st q t within 1004000 O
    have sq := mul_err (q := q) (a := 709000) (x := Fp.V t * st) (e := Fp.V t * st) hq1 hq2 (by omega) (by omega)
    have sq1 : st * (q * Fp.V t) = q * (Fp.V t * st) := ring28 _ _ _
    have sp1 : st * (2 * Fp.V pr) ≤ st * (2 * (q * Fp.V t) + Fp.ep) := mul_mono (by omega) hp1
    have sp2 : st * (2 * (q * Fp.V t)) ≤ st * (2 * Fp.V pr + Fp.ep) := mul_mono (by omega) hp2
    have w5 := ring29 st (Fp.V pr) (q * Fp.V t) (Fp.ep : Int)
    have spr : -(1003950 * (Fp.one : Int)) ≤ st * Fp.V pr ∧ st * Fp.V pr ≤ 1003950 * (Fp.one : Int) := by
      constructor <;> omega
    obtain ⟨spr1, spr2⟩ := abs_st (K := 1003950 * (Fp.one : Int)) s1 (by omega) spr
    obtain ⟨nl, f2, nnl, v3, v4⟩ := Fp.fl_sub nal np (by omega) (by omega)
    obtain ⟨nh, f3, nnh, v5, v6⟩ := Fp.fl_sub nah np (by omega) (by omega)
    have sm1 : st * (2 * Fp.V nl) ≤ st * (2 * (Fp.V al - Fp.V pr) + Fp.ep) := mul_mono (by omega) v3
    have sm2 : st * (2 * (Fp.V al - Fp.V pr)) ≤ st * (2 * Fp.V nl + Fp.ep) := mul_mono (by omega) v4
    have sm3 : st * (2 * Fp.V nh) ≤ st * (2 * (Fp.V ah - Fp.V pr) + Fp.ep) := mul_mono (by omega) v5
    have sm4 : st * (2 * (Fp.V ah - Fp.V pr)) ≤ st * (2 * Fp.V nh + Fp.ep) := mul_mono (by omega) v6
    have r3 := ring24 st (Fp.V nl) (Fp.V al) (Fp.V pr) Fp.ep
    have r4 := ring24 st (Fp.V nh) (Fp.V ah) (Fp.V pr) Fp.ep
    have bl1' : -(2003951 * (Fp.one : Int)) ≤ st * Fp.V nl ∧ st * Fp.V nl ≤ 2003951 * (Fp.one : Int) := by constructor <;> omega
    have bh1' : -(2003951 * (Fp.one : Int)) ≤ st * Fp.V nh ∧ st * Fp.V nh ≤ 2003951 * (Fp.one : Int) := by constructor <;> omega
    obtain ⟨cl1, cl2⟩ := abs_st (K := 2003951 * (Fp.one : Int)) s1 (by omega) bl1'
    obtain ⟨ch1, ch2⟩ := abs_st (K := 2003951 * (Fp.one : Int)) s1 (by omega) bh1'
    obtain ⟨a, b, o1, o2, o3, o4, o5, o6, sp'⟩ := span_any nnl nnh (by omega) (by omega) (by omega) (by omega)
    have ss : Fp.V nh - Fp.V nl ≤ 41 * (Fp.one : Int) := by omega
    have k4 := fl_span hO ss o2 o4
    have k5 : -2003951 ≤ a := by
      have := fl_bd2 (z := -Fp.V nl) (n := -a) (K := 2003951) hO (by omega) (by rw [show (-a - 1) * (Fp.one : Int) = -((a + 1) * (Fp.one : Int)) by rw [← Int.neg_mul]; congr 1; omega]; omega)
      omega
    have k6 := fl_bd2 hO (K := 2003951) (by omega) o4
    have so2 := mul_mono (c := st) (by omega) (Int.le_of_lt o2)
    have so4 := mul_mono (c := st) (by omega) (Int.le_of_lt o4)
    have k7 : -2003960 ≤ st * (a - 1) := by
      have := fl_bd (O := (Fp.one : Int)) (z := -(st * Fp.V nl)) (n := -(st * (a + 1))) (K := 2003951) hO (by omega) (by rw [Int.neg_mul, Int.mul_assoc]; omega)
      rw [Int.mul_add] at this
      rw [Int.mul_sub]
      omega
    have k8 : st * (b + 1) ≤ 2003960 := by
      have := fl_bd (O := (Fp.one : Int)) (z := st * Fp.V nh) (n := st * (b - 1)) (K := 2003951) hO (by omega) (by rw [Int.mul_assoc]; omega)
      rw [Int.mul_sub] at this
      rw [Int.mul_add]
      omega
    refine ⟨pr, nl, nh, a - 1, b + 1, f1, f2, f3, sp', by omega, by omega, ⟨by omega, by omega⟩, by omega, fun x hx hs => ?_⟩
    subst hx
    obtain ⟨l1, l2, l3, l4⟩ := sol_lin hs
    have hq1 := hs.2.1.1
    have hq2 := hs.2.1.2
    have A1 := side_lo (a := 1000000) (r := Fp.V al) hf.d0 (by omega) (by omega) s1 (by omega) hq1 hq2 l1 al1 t1 t2 c1 c2
    have A2 := side_hi (a := 1000000) (r := Fp.V ah) hf.d0 (by omega) (by omega) s1 (by omega) hq1 hq2 l2 ah2 t1 t2 c1 c2
    exact ⟨p_lo (E := 2000001 * (Fp.ep : Int)) hf rfl A1 hp2 v3 o1, p_hi (E := 2000001 * (Fp.ep : Int)) hf rfl A2 hp1 v6 o3⟩

end Go.Proofs.Ytojoljffaedpfaa
