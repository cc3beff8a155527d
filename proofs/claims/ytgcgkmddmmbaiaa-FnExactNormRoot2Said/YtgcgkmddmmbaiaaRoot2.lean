/- What the leaf functions on ranges and numbers p + q sqrt 2 return. -/
import Derived.Test.YtgcgkmddmmbaiaaRows
import Derived.Test.YtgcgkmddmmbaiaaBase
namespace Go.Proofs.Ytgcgkmddmmbaiaa
open Go.RowKit

theorem within_any (n lo hi : Int) (w : World) :
    Calls Try.prog 50 #[.int .i64 n, .int .i64 lo, .int .i64 hi] w fun e w' => e = .returned (.bool (Wn n lo hi)) ∧ w = w' := by
  by_cases h : lo ≤ n
  all_goals
    go_enter Try.func50, Try.ntmps50
    go_wp2
    go_ret
    exact ⟨ret_bool (by simp [Wn]; try omega), rfl⟩

theorem l1In_any (n lo hi : Int) (w : World) :
    Calls Try.prog 57 #[.int .i64 n, .int .i64 lo, .int .i64 hi] w fun e w' => e = .returned (.bool (Wn n lo hi)) ∧ w = w' := by
  by_cases h : lo ≤ n
  all_goals
    go_enter Try.func57, Try.ntmps57
    go_wp2
    go_ret
    exact ⟨ret_bool (by simp [Wn]; try omega), rfl⟩

set_option maxHeartbeats 400000 in
theorem l1All_any (xs : List Int) (b cap n : Nat) (lo hi : Int) (w : World) (hn : n = xs.length) (hl : xs.length ≤ 100000) (hc : ∀ k, (h : k < xs.length) → w.cell? ⟨b, k, none⟩ = some (.int .i64 xs[k])) :
    Calls Try.prog 56 #[.slice (some ⟨b, 0, none⟩) n cap, .int .i64 lo, .int .i64 hi] w fun e w' => e = .returned (.bool (AllW xs lo hi)) ∧ w = w' := by
  subst hn
  have HC := Lib.hid hc
  clear hc
  go_enter Try.func56, Try.ntmps56
  go_wp2
  go_loop [8, 11] (fun _ i => ∃ k : Nat, k ≤ xs.length ∧ i = .int .i64 k ∧ Hid (AllW (xs.take k) lo hi = true)) (fun _ i => xs.length - (intOf i).toNat)
  case atStart => exact ⟨0, Nat.zero_le _, rfl, rfl⟩
  case round =>
    obtain ⟨k, hk, rfl, hh⟩ := hrel
    by_cases hlt : k < xs.length
    · have hck := HC.out k hlt
      cases hw : Wn xs[k] lo hi
      all_goals
        go_wp2_with (go_at_call 57; ((with_reducible refine (l1In_any _ _ _ _).mono ?_); rintro e w' ⟨rfl, rfl⟩))
      · go_ret
        exact ⟨ret_bool (allW_false xs lo hi k hlt hw).symm, rfl⟩
      · go_round
        case rel => exact ⟨k + 1, by omega, by go_num, by unfold Hid; rw [allW_take_succ _ _ _ _ hlt, hh.out, hw]; rfl⟩
        case measure => simp [intOf]; omega
    · go_wp2
      go_ret
      have : xs.take k = xs := List.take_of_length_le (by omega)
      exact ⟨ret_bool (by rw [← hh.out, this]), rfl⟩

theorem isEnd_any (n : Int) (w : World) :
    Calls Try.prog 52 #[.int .i64 n] w fun e w' => e = .returned (.bool (Lim n)) ∧ w = w' := by
  go_enter Try.func52, Try.ntmps52
  go_wp2_with (go_at_call 50; ((with_reducible refine (within_any _ _ _ _).mono ?_); rintro e w' ⟨rfl, rfl⟩))
  go_ret
  exact ⟨rfl, rfl⟩

theorem isRoot2_any (p q : Int) (w : World) :
    Calls Try.prog 54 #[.agg #[.int .i64 p, .int .i64 q]] w fun e w' => e = .returned (.bool (R2 p q)) ∧ Ext w w' := by
  cases h : Lim p
  all_goals
    go_enter Try.func54, Try.ntmps54
    go_wp2_with (go_at_call 52; ((with_reducible refine (isEnd_any _ _).mono ?_); rintro e w' ⟨rfl, rfl⟩))
    go_ret
    exact ⟨ret_bool (by simp [R2, h]), (by repeat (first | exact Ext.refl _ | assumption | refine Ext.alloc ?_ _ | refine Ext.drew ?_ | refine Ext.drewN ?_ _ | refine Ext.setCell ?_ (by first | simp | (simp; omega)) _ | refine Ext.trans ?_ (by assumption)))⟩

theorem l25Good_any (p q : Int) (w : World) :
    Calls Try.prog 53 #[.agg #[.int .i64 p, .int .i64 q]] w fun e w' => e = .returned (.bool (R2 p q)) ∧ Ext w w' := by
  go_enter Try.func53, Try.ntmps53
  go_wp2_with fail
  refine (l1All_any [p, q] _ _ _ _ _ _ rfl (by simp) (fun k hk => ?_)).mono ?_
  · rcases k with _ | _ | k
    · simp [go_sem]
    · simp [go_sem]
    · simp at hk
      omega
  rintro e w' ⟨rfl, rfl⟩
  go_wp2
  go_ret
  exact ⟨ret_bool (allW2 _ _ _ _), (by repeat (first | exact Ext.refl _ | assumption | refine Ext.alloc ?_ _ | refine Ext.drew ?_ | refine Ext.drewN ?_ _ | refine Ext.setCell ?_ (by first | simp | (simp; omega)) _ | refine Ext.trans ?_ (by assumption)))⟩

theorem toRoot2_any (p q : Int) (w : World) :
    Calls Try.prog 22 #[.agg #[.int .i64 p, .int .i64 q]] w fun e w' => e = .returned (.agg #[.int .i64 p, .int .i64 q]) ∧ Ext w w' := by
  go_enter Try.func22, Try.ntmps22
  go_wp2
  refine bodyPost_ret (v := .agg #[.int .i64 p, .int .i64 q]) (by simp [results, Try.results22, go_sem]) rfl ⟨rfl, ?_⟩
  exact (by repeat (first | exact Ext.refl _ | assumption | refine Ext.alloc ?_ _ | refine Ext.drew ?_ | refine Ext.drewN ?_ _ | refine Ext.setCell ?_ (by first | simp | (simp; omega)) _ | refine Ext.trans ?_ (by assumption)))

def normN (p q : Int) : Int := if R2 p q then p * p - 2 * (q * q) else 0
theorem normN_bd (p q : Int) (h : R2 p q = true) : -2000000000000 ≤ p * p - 2 * (q * q) ∧ p * p - 2 * (q * q) ≤ 1000000000000 := by
  have hb := R2_bd h
  have h1 := sq_bd hb.1.1 hb.1.2
  have h2 := sq_bd hb.2.1 hb.2.2
  omega

theorem norm_any (p q : Int) (h : R2 p q = true) (w : World) :
    Calls Try.prog 55 #[.agg #[.int .i64 p, .int .i64 q]] w fun e w' => e = .returned (.int .i64 (p * p - 2 * (q * q))) ∧ Ext w w' := by
  have hb := R2_bd h
  have h1 := sq_bd hb.1.1 hb.1.2
  have h2 : 0 ≤ 2 * q * q ∧ 2 * q * q ≤ 2000000000000 := by
    have := sq_bd hb.2.1 hb.2.2
    rw [Int.mul_assoc]
    omega
  go_enter Try.func55, Try.ntmps55
  go_wp2
  go_ret
  exact ⟨ret_int (by rw [Int.mul_assoc]), (by repeat (first | exact Ext.refl _ | assumption | refine Ext.alloc ?_ _ | refine Ext.drew ?_ | refine Ext.drewN ?_ _ | refine Ext.setCell ?_ (by first | simp | (simp; omega)) _ | refine Ext.trans ?_ (by assumption)))⟩

theorem normRoot2_any (p q : Int) (w : World) :
    Calls Try.prog 23 #[.agg #[.int .i64 p, .int .i64 q]] w fun e w' => e = .returned (.tuple #[.int .i64 (normN p q), .bool (R2 p q)]) ∧ Ext w w' := by
  cases h : R2 p q
  all_goals
    have hn : normN p q = if R2 p q then p * p - 2 * (q * q) else 0 := rfl
    rw [h] at hn
    have HN := Lib.hid hn
    clear hn
    go_enter Try.func23, Try.ntmps23
    go_wp2_with (first | (go_at_call 54; ((with_reducible refine (isRoot2_any _ _ _).mono ?_); rintro e w' ⟨rfl, hb⟩; obtain ⟨hbc, hbf⟩ := hb.cells; have hbz := hb.size)) | (go_at_call 55; ((with_reducible refine (norm_any _ _ h _).mono ?_); rintro e w' ⟨rfl, hq⟩; obtain ⟨hqc, hqf⟩ := hq.cells; have hqz := hq.size)))
    go_ret2
    exact ⟨by rw [HN.out]; rfl, (by repeat (first | exact Ext.refl _ | assumption | refine Ext.alloc ?_ _ | refine Ext.drew ?_ | refine Ext.drewN ?_ _ | refine Ext.setCell ?_ (by first | simp | (simp; omega)) _ | refine Ext.trans ?_ (by assumption)))⟩

theorem s_normRoot2_any (p q : Int) (w : World) :
    Calls Try.prog 21 #[.agg #[.int .i64 p, .int .i64 q]] w fun e w' => e = .returned (.tuple #[.int .i64 (normN p q), .bool (R2 p q)]) ∧ Ext w w' := by
  cases h : R2 p q
  · have HN : Hid (normN p q = 0) := by unfold Hid normN; rw [h]; rfl
    go_enter Try.func21, Try.ntmps21
    go_wp2_with (go_at_call 53; ((with_reducible refine (l25Good_any _ _ _).mono ?_); rintro e w' ⟨rfl, hb⟩; obtain ⟨hbc, hbf⟩ := hb.cells; have hbz := hb.size))
    go_ret2
    exact ⟨by rw [HN.out]; rfl, (by repeat (first | exact Ext.refl _ | assumption | refine Ext.alloc ?_ _ | refine Ext.drew ?_ | refine Ext.drewN ?_ _ | refine Ext.setCell ?_ (by first | simp | (simp; omega)) _ | refine Ext.trans ?_ (by assumption)))⟩
  · have HN : Hid (normN p q = p * p - 2 * (q * q)) := by unfold Hid normN; rw [h]; rfl
    have hb := R2_bd h
    have h1 := sq_bd hb.1.1 hb.1.2
    have h2 : 0 ≤ 2 * q * q ∧ 2 * q * q ≤ 2000000000000 := by
      have := sq_bd hb.2.1 hb.2.2
      rw [Int.mul_assoc]
      omega
    go_enter Try.func21, Try.ntmps21
    go_wp2_with (go_at_call 53; ((with_reducible refine (l25Good_any _ _ _).mono ?_); rintro e w' ⟨rfl, hb⟩; obtain ⟨hbc, hbf⟩ := hb.cells; have hbz := hb.size))
    go_ret2
    exact ⟨by rw [HN.out, Int.mul_assoc]; rfl, (by repeat (first | exact Ext.refl _ | assumption | refine Ext.alloc ?_ _ | refine Ext.drew ?_ | refine Ext.drewN ?_ _ | refine Ext.setCell ?_ (by first | simp | (simp; omega)) _ | refine Ext.trans ?_ (by assumption)))⟩

theorem law_NormRoot2 (p q : Int) (w : World) :
    Calls Try.prog 5 #[.agg #[.int .i64 p, .int .i64 q]] w fun e w' => e = .returned (.bool true) ∧ Ext w w' := by
  go_enter Try.func5, Try.ntmps5
  go_wp2_with fail
  refine (toRoot2_any _ _ _).mono ?_
  rintro e w1 ⟨rfl, hx1⟩
  obtain ⟨hc1, hf1⟩ := hx1.cells
  have hz1 := hx1.size
  try simp at hz1
  have hs1_0 := sz1 (a := w.heap.size) (b := w1.heap.size) (by omega)
  go_wp2_with fail
  refine (s_normRoot2_any _ _ _).mono ?_
  rintro e w2 ⟨rfl, hx2⟩
  obtain ⟨hc2, hf2⟩ := hx2.cells
  have hz2 := hx2.size
  try simp at hz2
  have hs2_0 := sz1 (a := w.heap.size) (b := w2.heap.size) (by omega)
  go_wp2_with fail
  refine (toRoot2_any _ _ _).mono ?_
  rintro e w3 ⟨rfl, hx3⟩
  obtain ⟨hc3, hf3⟩ := hx3.cells
  have hz3 := hx3.size
  try simp at hz3
  go_wp2_with fail
  refine (normRoot2_any _ _ _).mono ?_
  rintro e w4 ⟨rfl, hx4⟩
  obtain ⟨hc4, hf4⟩ := hx4.cells
  have hz4 := hx4.size
  try simp at hz4
  go_wp2
  go_ret
  exact ⟨rfl, (by repeat (first | exact Ext.refl _ | assumption | refine Ext.alloc ?_ _ | refine Ext.drew ?_ | refine Ext.drewN ?_ _ | refine Ext.setCell ?_ (by first | simp | (simp; omega)) _ | refine Ext.trans ?_ (by assumption)))⟩

end Go.Proofs.Ytgcgkmddmmbaiaa
