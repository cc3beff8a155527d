/- The grid: the reference's floors and roots. -/
import Derived.Test.YtojoljffaedpfaaGrdC
import Derived.Test.YtojoljffaedpfaaSplW
namespace Go.Proofs.Ytojoljffaedpfaa
open Go.RowKit Go.Lib
set_option linter.unusedVariables false
set_option linter.unusedSimpArgs false

theorem fdiv_neg {n d : Int} (hd : 1 ≤ d) (hm : n.tmod d < 0) : n / d = n.tdiv d - 1 := by
  have h1 := Int.mul_tdiv_add_tmod n d
  have h2 := Int.mul_ediv_add_emod n d
  have h3 := Int.emod_nonneg n (show d ≠ 0 by omega)
  have h4 := Int.emod_lt_of_pos n (show 0 < d by omega)
  have h6 := Int.lt_tmod_of_pos n (show 0 < d by omega)
  have h7 : d * (n / d) < d * (n.tdiv d) := by omega
  have h8 : d * (n.tdiv d - 1) < d * (n / d + 1) := by rw [Int.mul_sub, Int.mul_add]; omega
  have := Int.lt_of_mul_lt_mul_left h7 (by omega)
  have := Int.lt_of_mul_lt_mul_left h8 (by omega)
  omega
theorem fdiv_pos {n d : Int} (hd : 1 ≤ d) (hm : ¬ n.tmod d < 0) : n / d = n.tdiv d := by
  have h1 := Int.mul_tdiv_add_tmod n d
  have h2 := Int.mul_ediv_add_emod n d
  have h3 := Int.emod_nonneg n (show d ≠ 0 by omega)
  have h4 := Int.emod_lt_of_pos n (show 0 < d by omega)
  have h5 := Int.tmod_lt_of_pos n (show 0 < d by omega)
  have h7 : d * (n / d) < d * (n.tdiv d + 1) := by rw [Int.mul_add]; omega
  have h8 : d * (n.tdiv d) < d * (n / d + 1) := by rw [Int.mul_add]; omega
  have := Int.lt_of_mul_lt_mul_left h7 (by omega)
  have := Int.lt_of_mul_lt_mul_left h8 (by omega)
  omega
theorem fdiv_bd {n d K : Int} (hd : 1 ≤ d) (hn : -K ≤ n ∧ n ≤ K) (hK : 0 ≤ K) : -K ≤ n / d ∧ n / d ≤ K := by
  have hk := Int.mul_le_mul_of_nonneg_left (c := K) hd hK
  exact ⟨Int.le_ediv_of_mul_le (by omega) (by rw [Int.neg_mul]; omega), Int.ediv_le_of_le_mul (by omega) (by omega)⟩
theorem l25Floor_any (n d : Int) (hn : -10000000 ≤ n ∧ n ≤ 10000000) (hd : 1 ≤ d ∧ d ≤ 100) (w : World) :
    Calls Try.prog 62 #[.int .i64 n, .int .i64 d] w fun e w' => e = .returned (.int .i64 (n / d)) ∧ w = w' := by
  have hb := fdiv_bd (K := 10000000) hd.1 hn (by decide)
  have hd0 : d ≠ 0 := by omega
  have hd1 : ¬ d = 0 := by omega
  by_cases hm : n.tmod d < 0
  · have HQ := Lib.hid (fdiv_neg hd.1 hm)
    have hq1 : -10000000 ≤ n.tdiv d := by have := HQ.out; omega
    have hq2 : n.tdiv d ≤ 10000001 := by have := HQ.out; omega
    have hm2 : ¬ (0 ≤ n.tmod d) := by omega
    clear hb
    generalize n / d = Q at *
    go_enter Try.func62, Try.ntmps62
    go_wp2
    go_ret
    exact ⟨ret_int HQ.out.symm, rfl⟩
  · have HQ := Lib.hid (fdiv_pos hd.1 hm)
    have hm2 : ¬ (n.tmod d < 0) := hm
    clear hb
    generalize n / d = Q at *
    go_enter Try.func62, Try.ntmps62
    go_wp2
    go_ret
    exact ⟨ret_int HQ.out.symm, rfl⟩

/-- the floor of q times the root of 2 -/
def rt2 (q : Int) : Int := if 0 < q then fq (2 * q * q) else if q < 0 then -fq (2 * q * q) - 1 else 0
theorem rt2_sq (q : Int) (h : -2100000 ≤ q ∧ q ≤ 2100000) : 0 ≤ 2 * q * q ∧ 2 * q * q ≤ 9000000000000 ∧ 0 ≤ fq (2 * q * q) ∧ fq (2 * q * q) ≤ 3000000 := by
  have h1 := sq_bd (a := q) (A := 2100000) h.1 h.2
  rw [Int.mul_assoc]
  have h2 := fq_of (n := 2 * (q * q)) (by omega)
  refine ⟨by omega, by omega, h2.1, ?_⟩
  rcases Int.lt_or_le 3000000 (fq (2 * (q * q))) with h3 | h3
  · have := Int.mul_le_mul (a := 3000000) (b := 3000000) (Int.le_of_lt h3) (Int.le_of_lt h3) (by omega) (by omega)
    omega
  · exact h3
theorem rt2_ky (q : Int) (h : -2100000 ≤ q ∧ q ≤ 2100000) : rt2 q * 1311738121 ≤ q * 1855077841 ∧ q * 1855077841 ≤ (rt2 q + 1) * 1311738121 := by
  have hs := rt2_sq q h
  have h2 := fq_of (n := 2 * q * q) hs.1
  unfold rt2
  generalize hF : fq (2 * q * q) = s at *
  split
  · rename_i hq
    have k2 := ky_core (u := s + 1) (v := q) (by omega) hq (by omega)
    refine ⟨?_, by omega⟩
    rcases Int.lt_or_le 0 s with h3 | h3
    · have k1 := ky_core (u := s) (v := q) h3 hq (by omega)
      omega
    · have : s = 0 := by omega
      subst this
      omega
  · split
    · rename_i hq0 hq
      have e : 2 * -q * -q = 2 * q * q := by rw [Int.mul_assoc, Int.neg_mul_neg, ← Int.mul_assoc]
      have k2 := ky_core (u := s + 1) (v := -q) (by omega) (by omega) (by omega)
      rw [e] at k2
      have k3 := Int.neg_mul q 1855077841
      refine ⟨by omega, ?_⟩
      rcases Int.lt_or_le 0 s with h3 | h3
      · have k1 := ky_core (u := s) (v := -q) h3 (by omega) (by omega)
        rw [e] at k1
        omega
      · have : s = 0 := by omega
        subst this
        omega
    · rename_i hq0 hq1
      have : q = 0 := by omega
      subst this
      decide
theorem rt2_bd (q : Int) (h : -2100000 ≤ q ∧ q ≤ 2100000) : -3000001 ≤ rt2 q ∧ rt2 q ≤ 3000000 := by
  have hs := rt2_sq q h
  unfold rt2
  repeat' split
  all_goals omega
theorem l25Root_any (q : Int) (h : -2100000 ≤ q ∧ q ≤ 2100000) (w : World) :
    Calls Try.prog 63 #[.int .i64 q] w fun e w' => e = .returned (.int .i64 (rt2 q)) ∧ w = w' := by
  have hs := rt2_sq q h
  have HS := fun w => Lib.hid (l25SquareG_any (2 * q * q) ⟨hs.1, hs.2.1⟩ w)
  have h2 : -4200000 ≤ 2 * q ∧ 2 * q ≤ 4200000 := by omega
  have HR : Hid (rt2 q = if 0 < q then fq (2 * q * q) else if q < 0 then -fq (2 * q * q) - 1 else 0) := rfl
  obtain ⟨s1, s2, s3, s4⟩ := hs
  generalize fq (2 * q * q) = s at *
  rcases Int.lt_trichotomy 0 q with g | g | g
  · have HQ : Hid (rt2 q = s) := HR.out.trans (if_pos g)
    clear HR
    go_enter Try.func63, Try.ntmps63
    go_wp2_with fail
    refine (HS _).out.mono ?_
    rintro e w' ⟨rfl, rfl⟩
    go_wp2
    go_ret
    exact ⟨ret_int HQ.out.symm, rfl⟩
  · subst g
    go_enter Try.func63, Try.ntmps63
    go_wp2_with fail
    refine (HS _).out.mono ?_
    rintro e w' ⟨rfl, rfl⟩
    go_wp2
    go_ret
    exact ⟨rfl, rfl⟩
  · have HQ : Hid (rt2 q = -s - 1) := HR.out.trans (by rw [if_neg (by omega), if_pos g])
    have g' : ¬ (0 < q) := by omega
    clear HR
    go_enter Try.func63, Try.ntmps63
    go_wp2_with fail
    refine (HS _).out.mono ?_
    rintro e w' ⟨rfl, rfl⟩
    go_wp2
    go_ret
    exact ⟨ret_int HQ.out.symm, rfl⟩

theorem ring30 (D N A f : Int) : 2 * ((f - 2) * N) * N = 2 * (f - 2) * (N * N) ∧ 2 * (f - 2) * (2 * (D * D) - 1) = 4 * (f * (D * D)) - 8 * (D * D) - 2 * f + 4 ∧ 4 * f * D * D = 4 * (f * (D * D)) ∧ A * N * D = A * D * N := by grind
theorem rq_lo {D N A R f q : Int} (hD : 2 ≤ D) (hN0 : 0 < N) (hN : N * N = 2 * (D * D) - 1) (h1 : A * D < 2 * (q * N)) (h2 : R * D ≤ A * N) (hf : 4 * f ≤ R) (hb : -D ≤ f) : f - 1 ≤ q := by
  rcases Int.lt_or_le q (f - 1) with h | h
  · exfalso
    have k1 := Int.mul_le_mul_of_nonneg_right (c := N) (show q ≤ f - 2 by omega) (by omega)
    have k2 := Int.mul_lt_mul_of_pos_right (show A * D < 2 * ((f - 2) * N) by omega) hN0
    have k3 := Int.mul_le_mul_of_nonneg_right (c := D) hf (by omega)
    have k4 := Int.mul_le_mul_of_nonneg_right (c := D) (show 4 * f * D ≤ A * N by omega) (by omega)
    have e := ring30 D N A f
    rw [hN] at e
    have k5 := Int.mul_le_mul_of_nonneg_right (c := D) hD (by omega)
    omega
  · exact h
theorem ring31 (D N B f : Int) : 2 * ((f + 2) * N) * N = 2 * (f + 2) * (N * N) ∧ 2 * (f + 2) * (2 * (D * D) - 1) = 4 * (f * (D * D)) + 8 * (D * D) - 2 * f - 4 ∧ (4 * f + 4) * D * D = 4 * (f * (D * D)) + 4 * (D * D) ∧ B * N * D = B * D * N := by grind
theorem rq_hi {D N B R f q : Int} (hD : 2 ≤ D) (hN0 : 0 < N) (hN : N * N = 2 * (D * D) - 1) (h1 : 2 * (q * N) < B * D) (h2 : B * N ≤ (R + 1) * D) (hf : R + 1 ≤ 4 * f + 4) (hb : f ≤ D) : q ≤ f + 1 := by
  rcases Int.lt_or_le (f + 1) q with h | h
  · exfalso
    have k1 := Int.mul_le_mul_of_nonneg_right (c := N) (show f + 2 ≤ q by omega) (by omega)
    have k2 := Int.mul_lt_mul_of_pos_right (show 2 * ((f + 2) * N) < B * D by omega) hN0
    have k3 := Int.mul_le_mul_of_nonneg_right (c := D) hf (by omega)
    have k4 := Int.mul_le_mul_of_nonneg_right (c := D) (show B * N ≤ (4 * f + 4) * D by omega) (by omega)
    have e := ring31 D N B f
    rw [hN] at e
    have k5 := Int.mul_le_mul_of_nonneg_right (c := D) hD (by omega)
    omega
  · exact h

theorem ring32 (den p q lo D N F : Int) : (den * p - lo) * D + den * q * N = den * (p * D + q * N) - lo * D ∧ den * (F * D) = den * F * D ∧ (lo - den * p) * D + -den * q * N = lo * D - den * (p * D + q * N) := by grind
theorem floor_lo {den p q lo D N : Int} (hD : 0 ≤ D) (hd : 1 ≤ den) (h : 0 ≤ (den * p - lo) * D + den * q * N) : lo / den * D ≤ p * D + q * N := by
  have e := ring32 den p q lo D N (lo / den)
  have k1 : den * (lo / den) ≤ lo := by have := Int.mul_ediv_add_emod lo den; have := Int.emod_nonneg lo (show den ≠ 0 by omega); omega
  have k2 := Int.mul_le_mul_of_nonneg_right (c := D) k1 hD
  exact le_cancel (c := den) (by omega) (by omega)
theorem floor_hi {den p q hi D N : Int} (hD : 0 < D) (hd : 1 ≤ den) (h : 0 ≤ (hi - den * p) * D + -den * q * N) : p * D + q * N < (hi / den + 1) * D := by
  have e := ring32 den p q hi D N (hi / den + 1)
  have k1 : hi < den * (hi / den + 1) := by have := Int.mul_ediv_add_emod hi den; have := Int.emod_lt_of_pos hi (show 0 < den by omega); rw [Int.mul_add]; omega
  have k2 := Int.mul_lt_mul_of_pos_right k1 hD
  exact Int.lt_of_mul_lt_mul_left (a := den) (by omega) (by omega)

/-- the bounds of the reference's loops -/
def rA (lo den hi' den' : Int) : Int := rt2 (lo / den - hi' / den' - 1) / 4 - 1
def rB (hi den lo' den' : Int) : Int := rt2 (hi / den + 1 - lo' / den') / 4 + 1
theorem ref_bd {lo hi den lo' hi' den' : Int} (ra : Rng lo hi den = true) (rb : Rng lo' hi' den' = true) :
    (-1000000 ≤ lo / den ∧ hi / den ≤ 1000000 ∧ -1000000 ≤ lo' / den' ∧ hi' / den' ≤ 1000000) ∧ (lo / den ≤ hi / den ∧ lo' / den' ≤ hi' / den') ∧ hi / den - lo / den ≤ 41 ∧ hi' / den' - lo' / den' ≤ 41 := by
  obtain ⟨d1, d2, d3, d4, d5, d6, d7, d8⟩ := Rng_bd ra
  obtain ⟨g1, g2, g3, g4, g5, g6, g7, g8⟩ := Rng_bd rb
  have a1 := fdiv_bd (n := lo) (K := 1000000) d1 (by omega) (by decide)
  have a2 := fdiv_bd (n := hi) (K := 1000000) d1 (by omega) (by decide)
  have a3 := fdiv_bd (n := lo') (K := 1000000) g1 (by omega) (by decide)
  have a4 := fdiv_bd (n := hi') (K := 1000000) g1 (by omega) (by decide)
  have s1 : ∀ {n m d : Int}, 1 ≤ d → n ≤ m → n / d ≤ m / d := fun hd h => Int.ediv_le_ediv (by omega) h
  have s2 : ∀ {n m d : Int}, 1 ≤ d → m - n ≤ 40 * d → m / d - n / d ≤ 41 := by
    intro n m d hd h
    have e1 := Int.mul_ediv_add_emod n d
    have e2 := Int.mul_ediv_add_emod m d
    have e3 := Int.emod_nonneg m (show d ≠ 0 by omega)
    have e4 := Int.emod_lt_of_pos n (show 0 < d by omega)
    have : d * (m / d - n / d) < d * 42 := by rw [Int.mul_sub]; omega
    have := Int.lt_of_mul_lt_mul_left this (by omega)
    omega
  exact ⟨⟨a1.1, a2.2, a3.1, a4.2⟩, ⟨s1 d1 d7, s1 g1 g7⟩, s2 d1 d8, s2 g1 g8⟩
theorem rAB_bd {lo hi den lo' hi' den' : Int} (ra : Rng lo hi den = true) (rb : Rng lo' hi' den' = true) : -760000 ≤ rA lo den hi' den' ∧ rB hi den lo' den' ≤ 760000 ∧ rB hi den lo' den' - rA lo den hi' den' ≤ 60 := by
  obtain ⟨⟨b1, b2, b3, b4⟩, ⟨b5, b6⟩, b7, b8⟩ := ref_bd ra rb
  have k1 := rt2_ky (lo / den - hi' / den' - 1) (by omega)
  have k2 := rt2_ky (hi / den + 1 - lo' / den') (by omega)
  unfold rA rB
  generalize hA : lo / den - hi' / den' - 1 = A at *
  generalize hB : hi / den + 1 - lo' / den' = B at *
  have hAB : B - A ≤ 84 := by omega
  have hA1 : -2000001 ≤ A := by omega
  have hB1 : B ≤ 2000001 := by omega
  clear hA hB b1 b2 b3 b4 b5 b6 b7 b8
  omega
theorem ref_q {lo hi den lo' hi' den' : Int} (ra : Rng lo hi den = true) (rb : Rng lo' hi' den' = true) {x : Int × Int} (hs : Sol 1 lo hi den lo' hi' den' x) : rA lo den hi' den' ≤ x.2 ∧ x.2 ≤ rB hi den lo' den' := by
  obtain ⟨l1, l2, l3, l4⟩ := sol_lin' (by decide) (by decide) ra rb hs
  simp only [Int.one_mul] at l1 l2 l3 l4
  obtain ⟨⟨b1, b2, b3, b4⟩, ⟨b5, b6⟩, b7, b8⟩ := ref_bd ra rb
  have d1 := (Rng_bd ra).1
  have g1 := (Rng_bd rb).1
  have f1 := floor_lo (by decide) d1 l1
  have f2 := floor_hi (by decide) d1 l2
  have f3 := floor_lo (by decide) g1 l3
  have f4 := floor_hi (by decide) g1 l4
  have k1 := rt2_ky (lo / den - hi' / den' - 1) (by omega)
  have k2 := rt2_ky (hi / den + 1 - lo' / den') (by omega)
  have e1 := rt2_bd (lo / den - hi' / den' - 1) (by omega)
  have e2 := rt2_bd (hi / den + 1 - lo' / den') (by omega)
  unfold rA rB
  rw [Int.neg_mul] at f3 f4
  constructor
  · refine rq_lo (D := 1311738121) (N := 1855077841) (A := lo / den - hi' / den' - 1) (R := rt2 (lo / den - hi' / den' - 1)) (by decide) (by decide) (by decide) ?_ k1.1 (by omega) (by omega)
    generalize lo / den = F at *
    generalize hi' / den' = G at *
    clear k1 k2 l1 l2 l3 l4 f2 f3
    omega
  · refine rq_hi (D := 1311738121) (N := 1855077841) (B := hi / den + 1 - lo' / den') (R := rt2 (hi / den + 1 - lo' / den')) (by decide) (by decide) (by decide) ?_ k2.2 (by omega) (by omega)
    generalize hi / den = F at *
    generalize lo' / den' = G at *
    clear k1 k2 l1 l2 l3 l4 f1 f4
    omega
theorem ref_p {lo hi den lo' hi' den' : Int} (ra : Rng lo hi den = true) (rb : Rng lo' hi' den' = true) {x : Int × Int} (hs : Sol 1 lo hi den lo' hi' den' x) : lo / den - rt2 x.2 - 2 ≤ x.1 ∧ x.1 ≤ hi / den - rt2 x.2 + 2 := by
  obtain ⟨l1, l2, l3, l4⟩ := sol_lin' (by decide) (by decide) ra rb hs
  simp only [Int.one_mul] at l1 l2 l3 l4
  have d1 := (Rng_bd ra).1
  have f1 := floor_lo (by decide) d1 l1
  have f2 := floor_hi (by decide) d1 l2
  have hq := hs.2.1
  have k := rt2_ky x.2 (by omega)
  generalize rt2 x.2 = r at *
  generalize lo / den = F at *
  generalize hi / den = G at *
  generalize x.1 = p at *
  generalize x.2 * 1855077841 = qN at *
  clear l1 l2 l3 l4 hs
  omega

end Go.Proofs.Ytojoljffaedpfaa
