/- What the leaf functions on ranges and numbers p + q sqrt 2 return. -/
import Derived.Test.YtamiploliebplaaDoorRows
import Derived.Test.YtamiploliebplaaDoorBase
namespace Go.Proofs.YtamiploliebplaaDoor
open Go.RowKit

theorem within_any (n lo hi : Int) (w : World) :
    Calls Tryd.prog 60 #[.int .i64 n, .int .i64 lo, .int .i64 hi] w fun e w' => e = .returned (.bool (Wn n lo hi)) ∧ w = w' := by
  by_cases h : lo ≤ n
  all_goals
    go_enter Tryd.func60, Tryd.ntmps60
    go_wp2
    go_ret
    exact ⟨ret_bool (by simp [Wn]; try omega), rfl⟩

theorem l1In_any (n lo hi : Int) (w : World) :
    Calls Tryd.prog 36 #[.int .i64 n, .int .i64 lo, .int .i64 hi] w fun e w' => e = .returned (.bool (Wn n lo hi)) ∧ w = w' := by
  by_cases h : lo ≤ n
  all_goals
    go_enter Tryd.func36, Tryd.ntmps36
    go_wp2
    go_ret
    exact ⟨ret_bool (by simp [Wn]; try omega), rfl⟩

set_option maxHeartbeats 400000 in
theorem l1All_any (xs : List Int) (b cap n : Nat) (lo hi : Int) (w : World) (hn : n = xs.length) (hl : xs.length ≤ 100000) (hc : ∀ k, (h : k < xs.length) → w.cell? ⟨b, k, none⟩ = some (.int .i64 xs[k])) :
    Calls Tryd.prog 69 #[.slice (some ⟨b, 0, none⟩) n cap, .int .i64 lo, .int .i64 hi] w fun e w' => e = .returned (.bool (AllW xs lo hi)) ∧ w = w' := by
  subst hn
  have HC := Lib.hid hc
  clear hc
  go_enter Tryd.func69, Tryd.ntmps69
  go_wp2
  go_loop [8, 11] (fun _ i => ∃ k : Nat, k ≤ xs.length ∧ i = .int .i64 k ∧ Hid (AllW (xs.take k) lo hi = true)) (fun _ i => xs.length - (intOf i).toNat)
  case atStart => exact ⟨0, Nat.zero_le _, rfl, rfl⟩
  case round =>
    obtain ⟨k, hk, rfl, hh⟩ := hrel
    by_cases hlt : k < xs.length
    · have hck := HC.out k hlt
      cases hw : Wn xs[k] lo hi
      all_goals
        go_wp2_with (go_at_call 36; ((with_reducible refine (l1In_any _ _ _ _).mono ?_); rintro e w' ⟨rfl, rfl⟩))
      · go_ret
        exact ⟨ret_bool (allW_false xs lo hi k hlt hw).symm, rfl⟩
      · go_round
        case rel => exact ⟨k + 1, by omega, by go_num, by unfold Hid; rw [allW_take_succ _ _ _ _ hlt, hh.out, hw]; rfl⟩
        case measure => simp [intOf]; omega
    · go_wp2
      go_ret
      have : xs.take k = xs := List.take_of_length_le (by omega)
      exact ⟨ret_bool (by rw [← hh.out, this]), rfl⟩

def normN (p q : Int) : Int := if R2 p q then p * p - 2 * (q * q) else 0
theorem normN_bd (p q : Int) (h : R2 p q = true) : -2000000000000 ≤ p * p - 2 * (q * q) ∧ p * p - 2 * (q * q) ≤ 1000000000000 := by
  have hb := R2_bd h
  have h1 := sq_bd hb.1.1 hb.1.2
  have h2 := sq_bd hb.2.1 hb.2.2
  omega

/-- a valid range lo/den .. hi/den -/
def Rng (lo hi den : Int) : Bool := Wn den 1 100 && Lim lo && Lim hi && Wn (hi - lo) 0 (40 * den)
theorem Rng_ways (lo hi den : Int) : (Wn den 1 100 = false ∧ Rng lo hi den = false) ∨ (Wn den 1 100 = true ∧ Lim lo = false ∧ Rng lo hi den = false) ∨ (Wn den 1 100 = true ∧ Lim lo = true ∧ Lim hi = false ∧ Rng lo hi den = false) ∨
    (Wn den 1 100 = true ∧ Lim lo = true ∧ Lim hi = true ∧ Rng lo hi den = Wn (hi - lo) 0 (40 * den) ∧ 1 ≤ den ∧ den ≤ 100 ∧ -1000000 ≤ lo ∧ lo ≤ 1000000 ∧ -1000000 ≤ hi ∧ hi ≤ 1000000) := by
  unfold Rng
  cases h1 : Wn den 1 100 <;> cases h2 : Lim lo <;> cases h3 : Lim hi <;> simp
  simp only [Lim, Wn_iff] at *
  omega
theorem Rng_bd {lo hi den : Int} (h : Rng lo hi den = true) : 1 ≤ den ∧ den ≤ 100 ∧ -1000000 ≤ lo ∧ lo ≤ 1000000 ∧ -1000000 ≤ hi ∧ hi ≤ 1000000 ∧ lo ≤ hi ∧ hi - lo ≤ 40 * den := by
  simp only [Rng, Lim, Wn, Bool.and_eq_true, decide_eq_true_eq] at h
  omega
theorem allW_lim (p q : Int) : AllW [p, q] (-1000000) 1000000 = (Lim p && Lim q) := by rw [allW2]; rfl

theorem l1All2_any (p q : Int) (b cap : Nat) (lo hi : Int) (w : World) (h0 : w.cell? ⟨b, 0, none⟩ = some (.int .i64 p)) (h1 : w.cell? ⟨b, 1, none⟩ = some (.int .i64 q)) :
    Calls Tryd.prog 69 #[.slice (some ⟨b, 0, none⟩) 2 cap, .int .i64 lo, .int .i64 hi] w fun e w' => e = .returned (.bool (AllW [p, q] lo hi)) ∧ w = w' :=
  l1All_any [p, q] b cap 2 lo hi w rfl (by simp) fun k hk => by
    match k, hk with
    | 0, _ => exact h0
    | 1, _ => exact h1

theorem l1AllL_any (p q : Int) (b cap : Nat) (w : World) (h0 : w.cell? ⟨b, 0, none⟩ = some (.int .i64 p)) (h1 : w.cell? ⟨b, 1, none⟩ = some (.int .i64 q)) :
    Calls Tryd.prog 69 #[.slice (some ⟨b, 0, none⟩) 2 cap, .int .i64 (-1000000), .int .i64 1000000] w fun e w' => e = .returned (.bool (R2 p q)) ∧ w = w' :=
  (l1All2_any p q b cap _ _ w h0 h1).mono fun _ _ ⟨h, hw⟩ => ⟨h.trans (by rw [allW_lim]; rfl), hw⟩

theorem Rng_ways2 (lo hi den : Int) : (Wn den 1 100 = false ∧ Rng lo hi den = false) ∨ (Wn den 1 100 = true ∧ R2 lo hi = false ∧ Rng lo hi den = false) ∨
    (Wn den 1 100 = true ∧ R2 lo hi = true ∧ Rng lo hi den = Wn (hi - lo) 0 (40 * den) ∧ 1 ≤ den ∧ den ≤ 100 ∧ -1000000 ≤ lo ∧ lo ≤ 1000000 ∧ -1000000 ≤ hi ∧ hi ≤ 1000000) := by
  unfold Rng R2
  cases h1 : Wn den 1 100 <;> cases h2 : Lim lo <;> cases h3 : Lim hi <;> simp
  simp only [Lim, Wn_iff] at *
  omega

/-! ### The sign of u + v sqrt 2 -/
def sg (n : Int) : Int := if n < 0 then -1 else if 0 < n then 1 else 0
theorem sg_bd (n : Int) : -1 ≤ sg n ∧ sg n ≤ 1 := by unfold sg; split <;> (try split) <;> omega
def S2 (u v : Int) : Int :=
  if 0 ≤ u ∧ 0 ≤ v ∧ 0 < u + v then 1 else if u ≤ 0 ∧ v ≤ 0 ∧ u + v < 0 then -1 else if u * u - 2 * v * v = 0 then 0
  else if (0 < u ∧ 0 < u * u - 2 * v * v) ∨ (u < 0 ∧ u * u - 2 * v * v < 0) then 1 else -1
theorem S2_bd (u v : Int) : -1 ≤ S2 u v ∧ S2 u v ≤ 1 := by 
  unfold S2
  repeat' split
  all_goals omega
def Cf (n : Int) : Bool := Wn n (-1000000000) 1000000000
theorem Cf_bd {n : Int} (h : Cf n = true) : -1000000000 ≤ n ∧ n ≤ 1000000000 := Wn_iff.1 h
theorem Cf_mk {n : Int} (h : -1000000000 ≤ n ∧ n ≤ 1000000000) : Cf n = true := Wn_iff.2 h
theorem S2_same (u v : Int) (h : (0 ≤ u ∧ 0 ≤ v) ∨ (u ≤ 0 ∧ v ≤ 0)) : S2 u v = sg (u + v) := by
  unfold S2 sg
  have h0 : u = 0 → v = 0 → u * u - 2 * v * v = 0 := by rintro rfl rfl; rfl
  repeat' split
  all_goals omega
theorem S2_pos (u v : Int) (hu : 0 < u) (hv : v < 0) : S2 u v = 1 * sg (u * u - 2 * v * v) := by
  unfold S2 sg
  repeat' split
  all_goals omega
theorem S2_neg (u v : Int) (hu : u < 0) (hv : 0 < v) : S2 u v = (-1) * sg (u * u - 2 * v * v) := by
  unfold S2 sg
  repeat' split
  all_goals omega
theorem S2_anti (u v : Int) : S2 (-u) (-v) = - S2 u v := by
  unfold S2
  rw [show -u * -u - 2 * -v * -v = u * u - 2 * v * v by rw [Int.neg_mul_neg, Int.mul_assoc, Int.neg_mul_neg, ← Int.mul_assoc]]
  have h0 : u = 0 → v = 0 → u * u - 2 * v * v = 0 := by rintro rfl rfl; rfl
  have h1 : u = 0 → u * u = 0 := by rintro rfl; rfl
  have h2 := (sq_bd (a := v) (A := if v < 0 then -v else v) (by split <;> omega) (by split <;> omega)).1
  rw [Int.mul_assoc] at *
  have h3 : v ≠ 0 → 0 < v * v := fun hv => by
    rcases Int.lt_or_gt_of_ne hv with h | h
    · have := Int.mul_pos (a := -v) (b := -v) (by omega) (by omega)
      rwa [Int.neg_mul_neg] at this
    · exact Int.mul_pos h h
  repeat' split
  all_goals omega
theorem sq2_bd {u v A : Int} (hu : -A ≤ u ∧ u ≤ A) (hv : -A ≤ v ∧ v ≤ A) : (0 ≤ u * u ∧ u * u ≤ A * A) ∧ (0 ≤ 2 * v * v ∧ 2 * v * v ≤ 2 * (A * A)) := by
  have h1 := sq_bd hu.1 hu.2
  have h2 := sq_bd hv.1 hv.2
  rw [Int.mul_assoc]
  omega

theorem isCoef_any (n : Int) (w : World) :
    Calls Tryd.prog 86 #[.int .i64 n] w fun e w' => e = .returned (.bool (Cf n)) ∧ w = w' := by
  go_enter Tryd.func86, Tryd.ntmps86
  go_wp2_with (go_at_call 60; ((with_reducible refine (within_any _ _ _ _).mono ?_); rintro e w' ⟨rfl, rfl⟩))
  go_ret
  exact ⟨rfl, rfl⟩

def rsV (u v : Int) : Int := if Cf u && Cf v then S2 u v else 0
theorem sg_neg {u : Int} (h : u < 0) : sg u = -1 := if_pos h
theorem sg_pos {u : Int} (h : 0 < u) : sg u = 1 := by unfold sg; rw [if_neg (by omega), if_pos h]
theorem sg_zero : sg 0 = 0 := rfl

end Go.Proofs.YtamiploliebplaaDoor
