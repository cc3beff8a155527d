/- The grid: floors, ceilings and whole numbers around an interval. -/
import Derived.Test.YtojoljffaedpfaaRows
import Derived.Test.YtojoljffaedpfaaGrdL
import Derived.Test.YtojoljffaedpfaaGfl
import Derived.Laws.Externs
import Derived.Laws.FloatArith
namespace Go.Proofs.Ytojoljffaedpfaa
open Go.RowKit
set_option linter.unusedVariables false
set_option linter.unusedSimpArgs false

theorem toI (nm : String) (way : Ieee.Toward) {x : Nat} {s : Bool} {m : Nat} {p : Int} (hd : FloatKind.f64.decode x = .number s m p) : Extern.MathFloor.toIntegral nm way #[.float .f64 x] = pure (.float .f64 (FloatKind.f64.encode ((FloatKind.f64.decode x).integral way))) := by
  delta Extern.MathFloor.toIntegral
  change Extern.MathFloor.toIntegral.match_1 (fun _ => Sem Value) (FloatKind.f64.decode x) _ _ = _
  rw [hd]
def flr (x : Nat) : Nat := Ieee.double.write ((Ieee.double.read x).integral .down)
def cei (x : Nat) : Nat := Ieee.double.write ((Ieee.double.read x).integral .up)

set_option maxRecDepth 50000 in
theorem mathFloor_any {x : Nat} (hx : Fp.Num x) (w : World) :
    Calls Try.prog 81 #[.float .f64 x] w fun e w' => e = .returned (.float .f64 (flr x)) ∧ w = w' := by
  have hq : ∀ w, (callFunc 105 #[.float .f64 x]).run Try.prog w = .ok (.value (.float .f64 (flr x))) w := by
    intro w
    rw [run_callFunc_extern (fn := Try.f105) Try.func105 (by kernel_rfl) (by kernel_rfl) (by kernel_rfl) (e := Extern.MathFloor.toIntegral "math.archFloor" .down) (by kernel_rfl)]
    obtain ⟨s, m, p, hr, -, -, -⟩ := hx
    rw [toI _ _ (show FloatKind.f64.decode x = .number s m p from hr)]
    rfl
  clear hx
  generalize flr x = y at *
  go_enter Try.func81, Try.ntmps81
  go_wp2
  go_ret
  exact ⟨rfl, rfl⟩

set_option maxRecDepth 50000 in
theorem mathCeil_any {x : Nat} (hx : Fp.Num x) (w : World) :
    Calls Try.prog 82 #[.float .f64 x] w fun e w' => e = .returned (.float .f64 (cei x)) ∧ w = w' := by
  have hq : ∀ w, (callFunc 107 #[.float .f64 x]).run Try.prog w = .ok (.value (.float .f64 (cei x))) w := by
    intro w
    rw [run_callFunc_extern (fn := Try.f107) Try.func107 (by kernel_rfl) (by kernel_rfl) (by kernel_rfl) (e := Extern.MathFloor.toIntegral "math.archCeil" .up) (by kernel_rfl)]
    obtain ⟨s, m, p, hr, -, -, -⟩ := hx
    rw [toI _ _ (show FloatKind.f64.decode x = .number s m p from hr)]
    rfl
  clear hx
  generalize cei x = y at *
  go_enter Try.func82, Try.ntmps82
  go_wp2
  go_ret
  exact ⟨rfl, rfl⟩

/-- whole numbers around an interval -/
theorem span_any {x y : Nat} (hx : Fp.Num x) (hy : Fp.Num y) (h1 : -(2097152 * (Fp.one : Int)) < Fp.V x) (h2 : Fp.V x < 2097152 * (Fp.one : Int)) (h3 : -(2097152 * (Fp.one : Int)) < Fp.V y) (h4 : Fp.V y < 2097152 * (Fp.one : Int)) :
    ∃ n m : Int, n * (Fp.one : Int) ≤ Fp.V x ∧ Fp.V x < (n + 1) * (Fp.one : Int) ∧ Fp.V y ≤ m * (Fp.one : Int) ∧ (m - 1) * (Fp.one : Int) < Fp.V y ∧ (-2097154 ≤ n ∧ n ≤ 2097154) ∧ (-2097154 ≤ m ∧ m ≤ 2097154) ∧
      ∀ w, Calls Try.prog 67 #[.float .f64 x, .float .f64 y] w fun e w' => e = .returned (.tuple #[.int .i64 (n - 1), .int .i64 (m + 1)]) ∧ w = w' := by
  obtain ⟨n, N1, N2, N3, N4⟩ := Fp.fl_floor hx h1 h2
  obtain ⟨m, M1, M2, M3, M4⟩ := Fp.fl_ceil hy h3 h4
  have hO : (0 : Int) < (Fp.one : Int) := by have := Fp.one_pos; omega
  have a1 : n ≤ 2097152 := fl_bd hO (by omega) N3
  have a2 : -2097154 ≤ n := by
    rcases Int.lt_or_le n (-2097154) with h | h
    · have := Int.mul_le_mul_of_nonneg_right (c := (Fp.one : Int)) (show n + 1 ≤ -2097152 by omega) (by omega)
      rw [Int.neg_mul] at this
      omega
    · exact h
  have a3 : m ≤ 2097154 := by
    have := fl_bd2 (K := 2097152) hO (by omega) M4
    omega
  have a4 : -2097154 ≤ m := by
    rcases Int.lt_or_le m (-2097154) with h | h
    · have := Int.mul_le_mul_of_nonneg_right (c := (Fp.one : Int)) (show m ≤ -2097152 by omega) (by omega)
      rw [Int.neg_mul] at this
      omega
    · exact h
  refine ⟨n, m, N3, N4, M3, M4, ⟨a2, by omega⟩, ⟨a4, a3⟩, fun w => ?_⟩
  have hv : ∀ {z : Nat} {k : Int}, Fp.Num z → Fp.V z = k * (Fp.one : Int) → -2097154 ≤ k → k ≤ 2097154 → floatToIntVal .f64 z .i64 = some k := by
    intro z k hz hk k1 k2
    have := Fp.fl_toInt hz hk
    unfold floatToIntVal
    have hd : (FloatKind.f64.decode z).toInt .zero = some k := this
    rw [hd]
    simp [IntKind.min, IntKind.max, IntKind.signed, IntKind.bits]
    omega
  have hc1 : ∀ w, (convert 91 3 (.float .f64 (flr x))).run Try.prog w = .ok (.int .i64 n) w :=
    fun w => run_convert_float_int w 91 3 .f64 .i64 _ n (by kernel_rfl) Try.underlying3 (hv N1 N2 a2 (by omega))
  have hc2 : ∀ w, (convert 91 3 (.float .f64 (cei y))).run Try.prog w = .ok (.int .i64 m) w :=
    fun w => run_convert_float_int w 91 3 .f64 .i64 _ m (by kernel_rfl) Try.underlying3 (hv M1 M2 a4 a3)
  have HF := fun w => Lib.hid (mathFloor_any hx w)
  have HC := fun w => Lib.hid (mathCeil_any hy w)
  clear N1 N2 N3 N4 M1 M2 M3 M4 hv h1 h2 h3 h4 hx hy hO
  generalize flr x = X at *
  generalize cei y = Y at *
  go_enter Try.func67, Try.ntmps67
  go_wp2_with fail
  refine (HF _).out.mono ?_
  rintro e w' ⟨rfl, rfl⟩
  go_wp2_with fail
  refine (HC _).out.mono ?_
  rintro e w' ⟨rfl, rfl⟩
  go_wp2
  go_ret2
  exact ⟨rfl, rfl⟩

end Go.Proofs.Ytojoljffaedpfaa
