/- Splitting a prime: the walks. -/
import Derived.Test.YtojoljffaedpfaaSpl
import Derived.Test.YtojoljffaedpfaaRoot
import Derived.Test.YtojoljffaedpfaaWr
namespace Go.Proofs.Ytojoljffaedpfaa
open Go.RowKit Go.Lib
set_option linter.unusedVariables false
set_option linter.unusedSimpArgs false

theorem l25SquareG_any (n : Int) (h : 0 ≤ n ∧ n ≤ 9000000000000) (w : World) :
    Calls Try.prog 80 #[.int .i64 n] w fun e w' => e = .returned (.int .i64 (fq n)) ∧ w = w' := by
  go_enter Try.func80, Try.ntmps80
  go_wp2
  go_loop [3, 4, 5] (fun lo hi _ => ∃ a b : Int, lo = .int .i64 a ∧ hi = .int .i64 b ∧ BRel n a b) (fun lo hi _ => (intOf hi - intOf lo).toNat)
  case atStart => exact ⟨0, 3000000, rfl, rfl, by omega, by omega, by omega, by omega, by omega⟩
  case round =>
    obtain ⟨a, b, rfl, rfl, hB⟩ := hrel
    have HB := Lib.hid hB
    obtain ⟨b1, b2, b3, b4, b5⟩ := hB
    have HQ : Hid (n < (a + 1) * (a + 1) → fq n = a) := fq_eq b1 b4
    clear b4 b5
    by_cases hlt : a < b
    · have hmb : 0 ≤ (a + b + 1) / 2 ∧ (a + b + 1) / 2 ≤ 3000000 := by omega
      have hsq := sq_bd (a := (a + b + 1) / 2) (A := 3000000) (by omega) (by omega)
      by_cases hm : (a + b + 1) / 2 * ((a + b + 1) / 2) ≤ n
      · have HU := Lib.hid (HB.out.up hlt hm)
        go_wp2
        go_round
        case rel => exact ⟨_, _, rfl, rfl, HU.out⟩
        case measure => simp [intOf]; omega
      · have HU := Lib.hid (HB.out.down hlt hm)
        go_wp2
        go_round
        case rel => exact ⟨_, _, rfl, rfl, HU.out⟩
        case measure => simp [intOf]; omega
    · obtain rfl : a = b := by omega
      have HE : Hid (fq n = a) := HQ.out HB.out.2.2.2.2
      go_wp2
      go_ret
      exact ⟨ret_int (by rw [HE.out]), rfl⟩

theorem sp_bounds {q : Nat} (h : q ≤ 31623) : 0 ≤ 2 * (q : Int) * q ∧ 2 * (q : Int) * q ≤ 2000028258 := by
  have := sq_bd (a := (q : Int)) (A := 31623) (by omega) (by omega)
  rw [Int.mul_assoc]
  omega
theorem fq_bounds {n : Int} (h : 0 ≤ n) (h2 : n ≤ 3000028258) : 0 ≤ fq n ∧ fq n ≤ 54773 ∧ 0 ≤ fq n * fq n ∧ fq n * fq n ≤ 3000028258 := by
  obtain ⟨k1, k2, k3⟩ := fq_of h
  refine ⟨k1, ?_, Q.sq0 _, by omega⟩
  rcases Int.lt_or_le (fq n) 54774 with g | g
  · omega
  · have := Int.mul_le_mul g g (by omega) (by omega)
    omega
theorem sp_bad {p : Int} (h : okSP p = false) : spR p = 0 ∧ spK p = 0 := by
  unfold spR spK
  rw [h]
  exact ⟨rfl, rfl⟩

theorem eqRoot2_sameS (a b : Int) (w : World) :
    Calls Try.prog 17 #[.agg #[.int .i64 a, .int .i64 b], .agg #[.int .i64 a, .int .i64 b]] w fun e w' => e = .returned (.bool true) ∧ Ext w w' := by
  go_enter Try.func17, Try.ntmps17
  go_wp2
  go_ret
  exact ⟨rfl, (by repeat (first | exact Ext.refl _ | assumption | refine Ext.alloc ?_ _ | refine Ext.drew ?_ | refine Ext.drewN ?_ _ | refine Ext.setCell ?_ (by first | omega | (dsimp only; omega) | (simp; done) | (simp; omega)) _ | refine Ext.trans ?_ (by assumption)))⟩

end Go.Proofs.Ytojoljffaedpfaa
