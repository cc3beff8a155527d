/- The sign of u + v sqrt 2 as the reference reckons it; comparisons; ranges. -/
import Derived.Test.YtbffcpnpdpgfeaaRows
import Derived.Test.YtbffcpnpdpgfeaaRoot2
namespace Go.Proofs.Ytbffcpnpdpgfeaa
open Go.RowKit

theorem S2_eq {u v k : Int} (h : (0 ≤ u ∧ 0 ≤ v ∧ 0 < u + v ∧ k = 1) ∨ (u ≤ 0 ∧ v ≤ 0 ∧ u + v < 0 ∧ k = -1) ∨ (0 ≤ u ∧ u ≤ 0 ∧ 0 ≤ v ∧ v ≤ 0 ∧ k = 0) ∨
    (0 < u ∧ v < 0 ∧ k = sg (u * u - 2 * v * v)) ∨ (u < 0 ∧ 0 < v ∧ k = - sg (u * u - 2 * v * v))) : S2 u v = k := by
  rcases h with h | h | h | ⟨h1, h2, h3⟩ | ⟨h1, h2, h3⟩
  · rw [S2_same _ _ (.inl ⟨h.1, h.2.1⟩), sg_pos h.2.2.1]; exact h.2.2.2.symm
  · rw [S2_same _ _ (.inr ⟨h.1, h.2.1⟩), sg_neg h.2.2.1]; exact h.2.2.2.symm
  · obtain rfl : u = 0 := by omega
    obtain rfl : v = 0 := by omega
    rw [h.2.2.2.2]; rfl
  · rw [S2_pos _ _ h1 h2, h3]; omega
  · rw [S2_neg _ _ h1 h2, h3]; omega
set_option maxHeartbeats 1000000 in
theorem l2Sign_any (u v : Int) (hu : Cf u = true) (hv : Cf v = true) (w : World) :
    Calls Try.prog 63 #[.int .i64 u, .int .i64 v] w fun e w' => e = .returned (.int .i64 (S2 u v)) ∧ w = w' := by
  have b1 := Cf_bd hu
  have b2 := Cf_bd hv
  have b3 := sq2_bd b1 b2
  clear hu hv
  rcases Int.lt_trichotomy u 0 with hu | hu | hu <;> rcases Int.lt_trichotomy v 0 with hv | hv | hv
  case inr.inl.inr.inl =>
    have HS : Hid (S2 u v = 0) := S2_eq (.inr (.inr (.inl ⟨by omega, by omega, by omega, by omega, rfl⟩)))
    have hd : (u * u - 2 * v * v == 0) = true := by subst hu; subst hv; rfl
    have c1 : 0 ≤ u ∧ u ≤ 0 := by omega
    have c2 : 0 ≤ v ∧ v ≤ 0 := by omega
    clear hu hv
    go_enter Try.func63, Try.ntmps63
    go_wp2
    go_ret
    exact ⟨ret_int (by rw [HS.out]), rfl⟩
  case inl.inr.inr =>
    have HS : Hid (S2 u v = - sg (u * u - 2 * v * v)) := S2_eq (.inr (.inr (.inr (.inr ⟨hu, hv, rfl⟩))))
    rcases Int.lt_trichotomy (u * u - 2 * v * v) 0 with hd | hd | hd
    · have hd' : (u * u - 2 * v * v == 0) = false := by rw [beq_eq_false_iff_ne]; omega
      have HD : Hid (sg (u * u - 2 * v * v) = -1) := sg_neg hd
      go_enter Try.func63, Try.ntmps63
      go_wp2
      go_ret
      exact ⟨ret_int (by rw [HS.out, HD.out]; rfl), rfl⟩
    · have hd' : (u * u - 2 * v * v == 0) = true := by rw [beq_iff_eq]; exact hd
      have HD : Hid (sg (u * u - 2 * v * v) = 0) := by unfold Hid; rw [hd]; rfl
      clear hd
      go_enter Try.func63, Try.ntmps63
      go_wp2
      go_ret
      exact ⟨ret_int (by rw [HS.out, HD.out]; rfl), rfl⟩
    · have hd' : (u * u - 2 * v * v == 0) = false := by rw [beq_eq_false_iff_ne]; omega
      have HD : Hid (sg (u * u - 2 * v * v) = 1) := sg_pos hd
      go_enter Try.func63, Try.ntmps63
      go_wp2
      go_ret
      exact ⟨ret_int (by rw [HS.out, HD.out]), rfl⟩
  case inr.inr.inl =>
    have HS : Hid (S2 u v = sg (u * u - 2 * v * v)) := S2_eq (.inr (.inr (.inr (.inl ⟨hu, hv, rfl⟩))))
    rcases Int.lt_trichotomy (u * u - 2 * v * v) 0 with hd | hd | hd
    · have hd' : (u * u - 2 * v * v == 0) = false := by rw [beq_eq_false_iff_ne]; omega
      have HD : Hid (sg (u * u - 2 * v * v) = -1) := sg_neg hd
      go_enter Try.func63, Try.ntmps63
      go_wp2
      go_ret
      exact ⟨ret_int (by rw [HS.out, HD.out]), rfl⟩
    · have hd' : (u * u - 2 * v * v == 0) = true := by rw [beq_iff_eq]; exact hd
      have HD : Hid (sg (u * u - 2 * v * v) = 0) := by unfold Hid; rw [hd]; rfl
      clear hd
      go_enter Try.func63, Try.ntmps63
      go_wp2
      go_ret
      exact ⟨ret_int (by rw [HS.out, HD.out]), rfl⟩
    · have hd' : (u * u - 2 * v * v == 0) = false := by rw [beq_eq_false_iff_ne]; omega
      have HD : Hid (sg (u * u - 2 * v * v) = 1) := sg_pos hd
      go_enter Try.func63, Try.ntmps63
      go_wp2
      go_ret
      exact ⟨ret_int (by rw [HS.out, HD.out]), rfl⟩
  all_goals
    have HS : Hid ((S2 u v = 1 ∧ 0 < u + v) ∨ (S2 u v = -1 ∧ u + v < 0)) := by
      unfold Hid
      first
        | exact .inl ⟨S2_eq (.inl ⟨by omega, by omega, by omega, rfl⟩), by omega⟩
        | exact .inr ⟨S2_eq (.inr (.inl ⟨by omega, by omega, by omega, rfl⟩)), by omega⟩
    have c1 : (u < 0 ∨ 0 ≤ u) ∧ (u ≤ 0 ∨ 0 < u) := by omega
    have hu' : (u < 0) ∨ (0 ≤ u ∧ u ≤ 0) ∨ 0 < u := by omega
    have hv' : (v < 0) ∨ (0 ≤ v ∧ v ≤ 0) ∨ 0 < v := by omega
    rcases HS.out with ⟨hs, hp⟩ | ⟨hs, hp⟩
    all_goals try (exfalso; omega)
    all_goals
      have HS2 := Lib.hid hs
      clear hs HS c1
      first | (have c3 : 0 ≤ u ∧ u ≤ 0 := by omega
               clear hu) | skip
      first | (have c4 : 0 ≤ v ∧ v ≤ 0 := by omega
               clear hv) | skip
      clear hu' hv'
      go_enter Try.func63, Try.ntmps63
      go_wp2
      go_ret
      exact ⟨ret_int (by rw [HS2.out]), rfl⟩

def cmpV (p q r s : Int) : Int := if R2 p q && R2 r s then S2 (p - r) (q - s) else 0

theorem compareRoot2_any (p q r s : Int) (h1 : Cf (p - r) = true) (h2 : Cf (q - s) = true) (w : World) :
    Calls Try.prog 35 #[.agg #[.int .i64 p, .int .i64 q], .agg #[.int .i64 r, .int .i64 s]] w fun e w' => e = .returned (.int .i64 (S2 (p - r) (q - s))) ∧ Ext w w' := by
  have b1 := Cf_bd h1
  have b2 := Cf_bd h2
  have HS : Hid (rsV (p - r) (q - s) = S2 (p - r) (q - s)) := by unfold Hid rsV; rw [h1, h2]; rfl
  clear h1 h2
  go_enter Try.func35, Try.ntmps35
  go_wp2_with (go_at_call 52; ((with_reducible refine (realSign_any _ _ _).mono ?_); rintro e w' ⟨rfl, rfl⟩))
  go_ret
  exact ⟨ret_int HS.out, (by repeat (first | exact Ext.refl _ | assumption | refine Ext.alloc ?_ _ | refine Ext.drew ?_ | refine Ext.drewN ?_ _ | refine Ext.setCell ?_ (by first | omega | (dsimp only; omega) | (simp; done) | (simp; omega)) _ | refine Ext.trans ?_ (by assumption)))⟩

end Go.Proofs.Ytbffcpnpdpgfeaa
