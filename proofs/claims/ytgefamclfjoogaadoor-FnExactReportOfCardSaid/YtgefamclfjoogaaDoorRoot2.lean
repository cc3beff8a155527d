/- What the leaf functions on ranges and numbers p + q sqrt 2 return. -/
import Derived.Test.YtgefamclfjoogaaDoorRows
import Derived.Test.YtgefamclfjoogaaDoorBase
namespace Go.Proofs.YtgefamclfjoogaaDoor
open Go.RowKit

theorem within_any (n lo hi : Int) (w : World) :
    Calls Tryd.prog 41 #[.int .i64 n, .int .i64 lo, .int .i64 hi] w fun e w' => e = .returned (.bool (Wn n lo hi)) ∧ w = w' := by
  by_cases h : lo ≤ n
  all_goals
    go_enter Tryd.func41, Tryd.ntmps41
    go_wp2
    go_ret
    exact ⟨ret_bool (by simp [Wn]; try omega), rfl⟩

theorem l1In_any (n lo hi : Int) (w : World) :
    Calls Tryd.prog 31 #[.int .i64 n, .int .i64 lo, .int .i64 hi] w fun e w' => e = .returned (.bool (Wn n lo hi)) ∧ w = w' := by
  by_cases h : lo ≤ n
  all_goals
    go_enter Tryd.func31, Tryd.ntmps31
    go_wp2
    go_ret
    exact ⟨ret_bool (by simp [Wn]; try omega), rfl⟩

def normN (p q : Int) : Int := if R2 p q then p * p - 2 * (q * q) else 0
theorem normN_bd (p q : Int) (h : R2 p q = true) : -2000000000000 ≤ p * p - 2 * (q * q) ∧ p * p - 2 * (q * q) ≤ 1000000000000 := by
  have hb := R2_bd h
  have h1 := sq_bd hb.1.1 hb.1.2
  have h2 := sq_bd hb.2.1 hb.2.2
  omega

/-- a valid range lo/den .. hi/den -/
def Rng (lo hi den : Int) : Bool := Wn den 1 100 && Lim lo && Lim hi && Wn (hi - lo) 0 (40 * den)
theorem Rng_ways (lo hi den : Int) : (Wn den 1 100 = false ∧ Rng lo hi den = false) ∨ (Wn den 1 100 = true ∧ Lim lo = false ∧ Rng lo hi den = false) ∨ (Wn den 1 100 = true ∧ Lim lo = true ∧ Lim hi = false ∧ Rng lo hi den = false) ∨
    (Wn den 1 100 = true ∧ Lim lo = true ∧ Lim hi = true ∧ Rng lo hi den = Wn (hi - lo) 0 (40 * den) ∧ 1 ≤ den ∧ den ≤ 100 ∧ -1000000 ≤ lo ∧ lo ≤ 1000000 ∧ -1000000 ≤ hi ∧ hi ≤ 1000000) := by
  unfold Rng
  cases h1 : Wn den 1 100 <;> cases h2 : Lim lo <;> cases h3 : Lim hi <;> simp
  simp only [Lim, Wn_iff] at *
  omega
theorem Rng_bd {lo hi den : Int} (h : Rng lo hi den = true) : 1 ≤ den ∧ den ≤ 100 ∧ -1000000 ≤ lo ∧ lo ≤ 1000000 ∧ -1000000 ≤ hi ∧ hi ≤ 1000000 ∧ lo ≤ hi ∧ hi - lo ≤ 40 * den := by
  simp only [Rng, Lim, Wn, Bool.and_eq_true, decide_eq_true_eq] at h
  omega
theorem allW_lim (p q : Int) : AllW [p, q] (-1000000) 1000000 = (Lim p && Lim q) := by rw [allW2]; rfl

theorem Rng_ways2 (lo hi den : Int) : (Wn den 1 100 = false ∧ Rng lo hi den = false) ∨ (Wn den 1 100 = true ∧ R2 lo hi = false ∧ Rng lo hi den = false) ∨
    (Wn den 1 100 = true ∧ R2 lo hi = true ∧ Rng lo hi den = Wn (hi - lo) 0 (40 * den) ∧ 1 ≤ den ∧ den ≤ 100 ∧ -1000000 ≤ lo ∧ lo ≤ 1000000 ∧ -1000000 ≤ hi ∧ hi ≤ 1000000) := by
  unfold Rng R2
  cases h1 : Wn den 1 100 <;> cases h2 : Lim lo <;> cases h3 : Lim hi <;> simp
  simp only [Lim, Wn_iff] at *
  omega

/-! ### The sign of u + v sqrt 2 -/
def sg (n : Int) : Int := if n < 0 then -1 else if 0 < n then 1 else 0
theorem sg_bd (n : Int) : -1 ≤ sg n ∧ sg n ≤ 1 := by unfold sg; split <;> (try split) <;> omega
def S2 (u v : Int) : Int :=
  if 0 ≤ u ∧ 0 ≤ v ∧ 0 < u + v then 1 else if u ≤ 0 ∧ v ≤ 0 ∧ u + v < 0 then -1 else if u * u - 2 * v * v = 0 then 0
  else if (0 < u ∧ 0 < u * u - 2 * v * v) ∨ (u < 0 ∧ u * u - 2 * v * v < 0) then 1 else -1
theorem S2_bd (u v : Int) : -1 ≤ S2 u v ∧ S2 u v ≤ 1 := by 
  unfold S2
  repeat' split
  all_goals omega
def Cf (n : Int) : Bool := Wn n (-1000000000) 1000000000
theorem Cf_bd {n : Int} (h : Cf n = true) : -1000000000 ≤ n ∧ n ≤ 1000000000 := Wn_iff.1 h
theorem Cf_mk {n : Int} (h : -1000000000 ≤ n ∧ n ≤ 1000000000) : Cf n = true := Wn_iff.2 h
theorem S2_same (u v : Int) (h : (0 ≤ u ∧ 0 ≤ v) ∨ (u ≤ 0 ∧ v ≤ 0)) : S2 u v = sg (u + v) := by
  unfold S2 sg
  have h0 : u = 0 → v = 0 → u * u - 2 * v * v = 0 := by rintro rfl rfl; rfl
  repeat' split
  all_goals omega
theorem S2_pos (u v : Int) (hu : 0 < u) (hv : v < 0) : S2 u v = 1 * sg (u * u - 2 * v * v) := by
  unfold S2 sg
  repeat' split
  all_goals omega
theorem S2_neg (u v : Int) (hu : u < 0) (hv : 0 < v) : S2 u v = (-1) * sg (u * u - 2 * v * v) := by
  unfold S2 sg
  repeat' split
  all_goals omega
theorem S2_anti (u v : Int) : S2 (-u) (-v) = - S2 u v := by
  unfold S2
  rw [show -u * -u - 2 * -v * -v = u * u - 2 * v * v by rw [Int.neg_mul_neg, Int.mul_assoc, Int.neg_mul_neg, ← Int.mul_assoc]]
  have h0 : u = 0 → v = 0 → u * u - 2 * v * v = 0 := by rintro rfl rfl; rfl
  have h1 : u = 0 → u * u = 0 := by rintro rfl; rfl
  have h2 := (sq_bd (a := v) (A := if v < 0 then -v else v) (by split <;> omega) (by split <;> omega)).1
  rw [Int.mul_assoc] at *
  have h3 : v ≠ 0 → 0 < v * v := fun hv => by
    rcases Int.lt_or_gt_of_ne hv with h | h
    · have := Int.mul_pos (a := -v) (b := -v) (by omega) (by omega)
      rwa [Int.neg_mul_neg] at this
    · exact Int.mul_pos h h
  repeat' split
  all_goals omega
theorem sq2_bd {u v A : Int} (hu : -A ≤ u ∧ u ≤ A) (hv : -A ≤ v ∧ v ≤ A) : (0 ≤ u * u ∧ u * u ≤ A * A) ∧ (0 ≤ 2 * v * v ∧ 2 * v * v ≤ 2 * (A * A)) := by
  have h1 := sq_bd hu.1 hu.2
  have h2 := sq_bd hv.1 hv.2
  rw [Int.mul_assoc]
  omega

def rsV (u v : Int) : Int := if Cf u && Cf v then S2 u v else 0
theorem sg_neg {u : Int} (h : u < 0) : sg u = -1 := if_pos h
theorem sg_pos {u : Int} (h : 0 < u) : sg u = 1 := by unfold sg; rw [if_neg (by omega), if_pos h]
theorem sg_zero : sg 0 = 0 := rfl

end Go.Proofs.YtgefamclfjoogaaDoor
