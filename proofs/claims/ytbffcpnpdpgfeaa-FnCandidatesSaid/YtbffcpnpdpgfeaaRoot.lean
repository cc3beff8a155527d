/- Whole square roots of small numbers. -/
import Derived.Test.YtbffcpnpdpgfeaaRows
import Derived.Test.YtbffcpnpdpgfeaaRoot2
import Derived.Laws.Externs
import Derived.Laws.FloatArith
namespace Go.Proofs.Ytbffcpnpdpgfeaa
open Go.RowKit

def rt (n : Int) : Option Int := (FloatKind.f64.format.sqrt (floatOfInt .f64 n)).bind fun r => (FloatKind.f64.decode r).toInt .zero
theorem rt_small : ((List.range 401).all fun n => match rt n with | some r => decide (0 ≤ r) && decide (r ≤ 20) && decide (r * r ≤ n) && decide ((n : Int) < (r+1)*(r+1)) | none => false) = true := by kernel_rfl
theorem rt_ex {n : Int} (h : 0 ≤ n ∧ n ≤ 400) : ∃ (b : Nat) (r : Int), FloatKind.f64.format.sqrt (floatOfInt .f64 n) = some b ∧ (FloatKind.f64.decode b).toInt .zero = some r ∧ 0 ≤ r ∧ r ≤ 20 ∧ r * r ≤ n ∧ n < (r + 1) * (r + 1) := by
  have := rt_small
  rw [List.all_eq_true] at this
  have h1 := this n.toNat (List.mem_range.2 (by omega))
  have e : ((n.toNat : Nat) : Int) = n := by omega
  rw [e] at h1
  unfold rt at h1
  cases hs : FloatKind.f64.format.sqrt (floatOfInt .f64 n) with
  | none => rw [hs] at h1; cases h1
  | some b =>
    rw [hs] at h1
    simp only [Option.bind_some] at h1
    cases ht : (FloatKind.f64.decode b).toInt .zero with
    | none => rw [ht] at h1; cases h1
    | some r =>
      rw [ht] at h1
      simp only [Bool.and_eq_true, decide_eq_true_eq] at h1
      exact ⟨b, r, rfl, ht, h1.1.1.1, h1.1.1.2, h1.1.2, h1.2⟩
/-- the floor of the root -/
def isq (n : Int) : Int := (rt n).getD 0
theorem isq_eq {n r : Int} (hr : 0 ≤ r) (h1 : r * r ≤ n) (h2 : n < (r + 1) * (r + 1)) (h : 0 ≤ n ∧ n ≤ 400) : isq n = r := by
  obtain ⟨b, s, e1, e2, s1, s2, s3, s4⟩ := rt_ex h
  have e : isq n = s := by unfold isq rt; rw [e1]; simp only [Option.bind_some]; rw [e2]; rfl
  rw [e]
  by_cases hc : s < r
  · have := Int.mul_le_mul (a := s + 1) (b := s + 1) (c := r) (d := r) (by omega) (by omega) (by omega) (by omega)
    omega
  · by_cases hc2 : r < s
    · have := Int.mul_le_mul (a := r + 1) (b := r + 1) (c := s) (d := s) (by omega) (by omega) (by omega) (by omega)
      omega
    · omega
theorem isq_of {n : Int} (h : 0 ≤ n ∧ n ≤ 400) : 0 ≤ isq n ∧ isq n ≤ 20 ∧ isq n * isq n ≤ n ∧ n < (isq n + 1) * (isq n + 1) := by
  obtain ⟨b, s, e1, e2, s1, s2, s3, s4⟩ := rt_ex h
  rw [isq_eq s1 s3 s4 h]
  exact ⟨s1, s2, s3, s4⟩

/-- a bisection's bounds -/
def BRel (n lo hi : Int) : Prop := 0 ≤ lo ∧ lo ≤ hi ∧ hi ≤ 3000000 ∧ lo * lo ≤ n ∧ n < (hi + 1) * (hi + 1)
theorem BRel.up {n a b : Int} (h : BRel n a b) (hlt : a < b) (hm : (a + b + 1) / 2 * ((a + b + 1) / 2) ≤ n) : BRel n ((a + b + 1) / 2) b := by
  obtain ⟨b1, b2, b3, b4, b5⟩ := h
  exact ⟨by omega, by omega, b3, hm, b5⟩
theorem BRel.down {n a b : Int} (h : BRel n a b) (hlt : a < b) (hm : ¬ (a + b + 1) / 2 * ((a + b + 1) / 2) ≤ n) : BRel n a ((a + b + 1) / 2 - 1) := by
  obtain ⟨b1, b2, b3, b4, b5⟩ := h
  exact ⟨b1, by omega, by omega, b4, by rw [Int.sub_add_cancel]; omega⟩
theorem l25Square_any (n : Int) (h : 0 ≤ n ∧ n ≤ 400) (w : World) :
    Calls Try.prog 45 #[.int .i64 n] w fun e w' => e = .returned (.int .i64 (isq n)) ∧ w = w' := by
  go_enter Try.func45, Try.ntmps45
  go_wp2
  go_loop [3, 4, 5] (fun lo hi _ => ∃ a b : Int, lo = .int .i64 a ∧ hi = .int .i64 b ∧ BRel n a b) (fun lo hi _ => (intOf hi - intOf lo).toNat)
  case atStart => exact ⟨0, 3000000, rfl, rfl, by omega, by omega, by omega, by omega, by omega⟩
  case round =>
    obtain ⟨a, b, rfl, rfl, hB⟩ := hrel
    have HB := Lib.hid hB
    obtain ⟨b1, b2, b3, b4, b5⟩ := hB
    have HQ := Lib.hid (isq_eq b1 b4 : _ → _ → _)
    clear b4 b5
    by_cases hlt : a < b
    · have hmb : 0 ≤ (a + b + 1) / 2 ∧ (a + b + 1) / 2 ≤ 3000000 := by omega
      have hsq := sq_bd (a := (a + b + 1) / 2) (A := 3000000) (by omega) (by omega)
      by_cases hm : (a + b + 1) / 2 * ((a + b + 1) / 2) ≤ n
      · have HU := Lib.hid (HB.out.up hlt hm)
        go_wp2
        go_round
        case rel => exact ⟨_, _, rfl, rfl, HU.out⟩
        case measure => simp [intOf]; omega
      · have HU := Lib.hid (HB.out.down hlt hm)
        go_wp2
        go_round
        case rel => exact ⟨_, _, rfl, rfl, HU.out⟩
        case measure => simp [intOf]; omega
    · obtain rfl : a = b := by omega
      have HE : Hid (isq n = a) := HQ.out HB.out.2.2.2.2 h
      go_wp2
      go_ret
      exact ⟨ret_int (by rw [HE.out]), rfl⟩

set_option maxRecDepth 50000 in
theorem mathSqrt_any (x b : Nat) (h : FloatKind.f64.format.sqrt x = some b) (w : World) :
    Calls Try.prog 65 #[.float .f64 x] w fun e w' => e = .returned (.float .f64 b) ∧ w = w' := by
  have hq : ∀ w, (callFunc 74 #[.float .f64 x]).run Try.prog w = .ok (.value (.float .f64 b)) w := by
    intro w
    rw [run_callFunc_extern (fn := Try.f74) Try.func74 (by kernel_rfl) (by kernel_rfl) (by kernel_rfl) (e := Extern.MathSqrt.sqrt) (by kernel_rfl)]
    change (Sem.run Try.prog (match FloatKind.f64.format.sqrt x with
      | some r => (pure (Value.float .f64 r) : Sem Value)
      | none => do pure (Value.float .f64 (← choose (.nanBits .f64 x x)))) w).andThen _ = _
    rw [h]
    rfl
  clear h
  go_enter Try.func65, Try.ntmps65
  go_wp2
  go_ret
  exact ⟨rfl, rfl⟩

set_option maxRecDepth 50000 in
theorem rootOf_any (n : Int) (h : 0 ≤ n ∧ n ≤ 400) (w : World) :
    Calls Try.prog 51 #[.int .i64 n] w fun e w' => e = .returned (.tuple #[.int .i64 (isq n), .bool (isq n * isq n == n)]) ∧ w = w' := by
  obtain ⟨b, r, e1, e2, r1, r2, r3, r4⟩ := rt_ex h
  have HI := Lib.hid (isq_eq r1 r3 r4 h)
  rw [HI.out]
  have hv : floatToIntVal .f64 b .i64 = some r := by
    unfold floatToIntVal
    rw [e2]
    simp [IntKind.min, IntKind.max, IntKind.signed, IntKind.bits]
    omega
  have hc : ∀ w, (convert 92 3 (.float .f64 b)).run Try.prog w = .ok (.int .i64 r) w :=
    fun w => run_convert_float_int w 92 3 .f64 .i64 b r (by kernel_rfl) Try.underlying3 hv
  clear hv
  have HM := Lib.hid (mathSqrt_any (floatOfInt .f64 n) b e1)
  clear e1 e2 HI
  have hrs : 0 ≤ (r + 1) * (r + 1) ∧ (r + 1) * (r + 1) ≤ 441 := (sq_bd (a := r + 1) (A := 21) (by omega) (by omega))
  have hrr : 0 ≤ r * r ∧ r * r ≤ 400 := (sq_bd (a := r) (A := 20) (by omega) (by omega))
  go_enter Try.func51, Try.ntmps51
  go_wp2_with (go_at_call 65; ((with_reducible refine (HM.out _).mono ?_); rintro e w' ⟨rfl, rfl⟩))
  go_loop [4] (fun v => v = .int .i64 r) (fun _ => 0)
  case atStart => rfl
  case round =>
    subst hrel
    go_wp2
    go_loop [4] (fun v => v = .int .i64 r) (fun _ => 0)
    case atStart => rfl
    case round =>
      subst hrel
      go_wp2
      go_ret2
      exact ⟨rfl, rfl⟩

end Go.Proofs.Ytbffcpnpdpgfeaa
