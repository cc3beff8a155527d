/- Splitting a prime: the walks. -/
import Derived.Test.YtkjamaacapaokaaSpl
import Derived.Test.YtkjamaacapaokaaRoot
import Derived.Test.YtkjamaacapaokaaWr
namespace Go.Proofs.Ytkjamaacapaokaa
open Go.RowKit Go.Lib
set_option linter.unusedVariables false
set_option linter.unusedSimpArgs false

theorem l25SquareG_any (n : Int) (h : 0 ≤ n ∧ n ≤ 9000000000000) (w : World) :
    Calls Try.prog 84 #[.int .i64 n] w fun e w' => e = .returned (.int .i64 (fq n)) ∧ w = w' := by
  go_enter Try.func84, Try.ntmps84
  go_wp2
  go_loop [3, 4, 5] (fun lo hi _ => ∃ a b : Int, lo = .int .i64 a ∧ hi = .int .i64 b ∧ BRel n a b) (fun lo hi _ => (intOf hi - intOf lo).toNat)
  case atStart => exact ⟨0, 3000000, rfl, rfl, by omega, by omega, by omega, by omega, by omega⟩
  case round =>
    obtain ⟨a, b, rfl, rfl, hB⟩ := hrel
    have HB := Lib.hid hB
    obtain ⟨b1, b2, b3, b4, b5⟩ := hB
    have HQ : Hid (n < (a + 1) * (a + 1) → fq n = a) := fq_eq b1 b4
    clear b4 b5
    by_cases hlt : a < b
    · have hmb : 0 ≤ (a + b + 1) / 2 ∧ (a + b + 1) / 2 ≤ 3000000 := by omega
      have hsq := sq_bd (a := (a + b + 1) / 2) (A := 3000000) (by omega) (by omega)
      by_cases hm : (a + b + 1) / 2 * ((a + b + 1) / 2) ≤ n
      · have HU := Lib.hid (HB.out.up hlt hm)
        go_wp2
        go_round
        case rel => exact ⟨_, _, rfl, rfl, HU.out⟩
        case measure => simp [intOf]; omega
      · have HU := Lib.hid (HB.out.down hlt hm)
        go_wp2
        go_round
        case rel => exact ⟨_, _, rfl, rfl, HU.out⟩
        case measure => simp [intOf]; omega
    · obtain rfl : a = b := by omega
      have HE : Hid (fq n = a) := HQ.out HB.out.2.2.2.2
      go_wp2
      go_ret
      exact ⟨ret_int (by rw [HE.out]), rfl⟩

set_option maxRecDepth 50000 in
theorem rootOfG_any (n : Int) (h1 : 0 < n) (h2 : n < 34359738368) (w : World) :
    Calls Try.prog 86 #[.int .i64 n] w fun e w' => e = .returned (.tuple #[.int .i64 (fq n), .bool (fq n * fq n == n)]) ∧ w = w' := by
  obtain ⟨m, rfl⟩ : ∃ m : Nat, n = m := ⟨n.toNat, by omega⟩
  obtain ⟨b, r, e1, e2, r1, r2⟩ := Q.sqrt_range m (by omega) (by omega)
  have hv : floatToIntVal .f64 b .i64 = some r := by
    unfold floatToIntVal
    rw [e2]
    simp [IntKind.min, IntKind.max, IntKind.signed, IntKind.bits]
    omega
  have hc : ∀ w, (convert 126 3 (.float .f64 b)).run Try.prog w = .ok (.int .i64 r) w :=
    fun w => run_convert_float_int w 126 3 .f64 .i64 b r (by kernel_rfl) Try.underlying3 hv
  clear hv
  have HM := Lib.hid (mathSqrt_any (floatOfInt .f64 (m : Int)) b e1)
  clear e1 e2
  go_enter Try.func86, Try.ntmps86
  go_wp2_with (go_at_call 121; ((with_reducible refine (HM.out _).mono ?_); rintro e w' ⟨rfl, rfl⟩))
  clear hc HM
  go_loop [4] (fun v => ∃ r : Int, v = .int .i64 r ∧ 0 ≤ r ∧ r < 1048576) (fun v => (intOf v).toNat)
  case atStart => exact ⟨r, rfl, r1, r2⟩
  case round =>
    clear r1 r2
    obtain ⟨r, rfl, r1, r2⟩ := hrel
    have hrr := sq_bd (a := r) (A := 1048576) (by omega) (by omega)
    by_cases hgt : (m : Int) < r * r
    · have hr0 : 0 < r := by
        rcases Int.lt_or_le 0 r with g | g
        · exact g
        · obtain rfl : r = 0 := by omega
          omega
      go_wp2
      go_round
      case rel => exact ⟨r - 1, rfl, by omega, by omega⟩
      case measure => simp [intOf]; omega
    · go_wp2
      go_loop [4] (fun v => ∃ r : Int, v = .int .i64 r ∧ 0 ≤ r ∧ r < 1048577 ∧ r * r ≤ m) (fun v => (1048577 - intOf v).toNat)
      case atStart => exact ⟨r, rfl, r1, by omega, by omega⟩
      case round =>
        clear hrr hgt r1 r2
        obtain ⟨r, rfl, r1, r2, r3⟩ := hrel
        have HR := Lib.hid r3
        have hrr := sq_bd (a := r + 1) (A := 1048578) (by omega) (by omega)
        have hr2 := sq_bd (a := r) (A := 1048578) (by omega) (by omega)
        by_cases hle : (r + 1) * (r + 1) ≤ m
        · have hlt : r + 1 < 1048577 := by
            rcases Int.lt_or_le (r + 1) 1048577 with g | g
            · exact g
            · have := Int.mul_le_mul g g (by omega) (by omega)
              omega
          have HL := Lib.hid hle
          go_wp2
          go_round
          case rel => exact ⟨r + 1, rfl, by omega, by omega, HL.out⟩
          case measure => simp [intOf]; omega
        · have HE : Hid (fq m = r) := fq_eq r1 r3 (by omega)
          go_wp2
          go_ret2
          exact ⟨by rw [HE.out]; rfl, rfl⟩

theorem sp_bounds {q : Nat} (h : q ≤ 31623) : 0 ≤ 2 * (q : Int) * q ∧ 2 * (q : Int) * q ≤ 2000028258 := by
  have := sq_bd (a := (q : Int)) (A := 31623) (by omega) (by omega)
  rw [Int.mul_assoc]
  omega
theorem fq_bounds {n : Int} (h : 0 ≤ n) (h2 : n ≤ 3000028258) : 0 ≤ fq n ∧ fq n ≤ 54773 ∧ 0 ≤ fq n * fq n ∧ fq n * fq n ≤ 3000028258 := by
  obtain ⟨k1, k2, k3⟩ := fq_of h
  refine ⟨k1, ?_, Q.sq0 _, by omega⟩
  rcases Int.lt_or_le (fq n) 54774 with g | g
  · omega
  · have := Int.mul_le_mul g g (by omega) (by omega)
    omega
theorem sp_bad {p : Int} (h : okSP p = false) : spR p = 0 ∧ spK p = 0 := by
  unfold spR spK
  rw [h]
  exact ⟨rfl, rfl⟩

set_option maxHeartbeats 1000000 in
theorem s_splitPrime_any (p : Int) (w : World) :
    Calls Try.prog 34 #[.int .i64 p] w fun e w' => e = .returned (.tuple #[.agg #[.int .i64 (spR p), .int .i64 (spK p)], .bool (okSP p)]) ∧ Ext w w' := by
  have HO : Hid (okSP p = (Wn p 2 1000000000 && prm p && (p == 2 || p % 8 == 1 || p % 8 == 7))) := rfl
  have HZ : Hid (okSP p = false → spR p = 0 ∧ spK p = 0) := sp_bad
  cases h1 : Wn p 2 1000000000
  · rw [h1] at HO
    have HF := Lib.hid (HO.out.trans (show _ = false by rfl))
    go_enter Try.func34, Try.ntmps34
    go_wp2_with (go_at_call 58; ((with_reducible refine (l1In_any _ _ _ _).mono ?_); rintro e w' ⟨rfl, rfl⟩))
    refine bodyPost_ret (v := .tuple #[.agg #[.int .i64 0, .int .i64 0], .bool false]) (by simp [results, Try.results34, go_sem, *]) rfl ?_
    exact ⟨by rw [HF.out, (HZ.out HF.out).1, (HZ.out HF.out).2], (by repeat (first | (with_reducible refine Ext.setCell ?_ (by first | (simp; done) | (simp; omega)) _) | with_reducible refine Ext.alloc ?_ _ | with_reducible refine Ext.drew ?_ | with_reducible refine Ext.drewN ?_ _ | with_reducible assumption | with_reducible exact Ext.refl _ | with_reducible refine Ext.trans ?_ (by with_reducible assumption)))⟩
  have hb := Wn_iff.1 h1
  have HP := fun w' => Lib.hid (l26Prime_any p (by omega) hb.2 w')
  cases h2 : prm p
  · rw [h1, h2] at HO
    rw [h2] at HP
    have HF := Lib.hid (HO.out.trans (show _ = false by rfl))
    clear h2
    go_enter Try.func34, Try.ntmps34
    go_wp2_with (go_at_call 58; ((with_reducible refine (l1In_any _ _ _ _).mono ?_); rintro e w' ⟨rfl, rfl⟩))
    refine ((HP _).out).mono ?_
    rintro e w1 ⟨rfl, hx1⟩
    obtain ⟨hc1, hf1⟩ := hx1.cells
    have hz1 := hx1.size
    try simp at hz1
    have hs1_0 := sz1 (a := w.heap.size) (b := w1.heap.size) (by omega)
    go_wp2
    refine bodyPost_ret (v := .tuple #[.agg #[.int .i64 0, .int .i64 0], .bool false]) (by simp [results, Try.results34, go_sem, *]) rfl ?_
    exact ⟨by rw [HF.out, (HZ.out HF.out).1, (HZ.out HF.out).2], (by repeat (first | (with_reducible refine Ext.setCell ?_ (by first | (simp; done) | (simp; omega)) _) | with_reducible refine Ext.alloc ?_ _ | with_reducible refine Ext.drew ?_ | with_reducible refine Ext.drewN ?_ _ | with_reducible assumption | with_reducible exact Ext.refl _ | with_reducible refine Ext.trans ?_ (by with_reducible assumption)))⟩
  rw [h1, h2] at HO
  rw [h2] at HP
  have H1 := Lib.hid h1
  clear h1 h2
  by_cases h3 : p = 2 ∨ p % 8 = 1 ∨ p % 8 = 7
  · have ht : okSP p = true := HO.out.trans (show _ = true by simp; rcases h3 with h | h | h <;> simp [h])
    obtain ⟨k1, k2, k3⟩ := spQ_spec ht
    have HS := Lib.hid k2
    have HN := Lib.hid k3
    have HT : Hid (okSP p = true ∧ spR p = fq (p + 2 * spQ p * spQ p) ∧ spK p = (spQ p : Int)) := by
      unfold Hid spR spK
      rw [ht]
      exact ⟨rfl, rfl, rfl⟩
    clear k2 k3 ht HO HZ
    obtain ⟨Q0, hQ0⟩ : ∃ Q0, spQ p = Q0 := ⟨_, rfl⟩
    simp only [hQ0] at HS HN HT k1
    clear hQ0
    rcases h3 with h3 | h3 | h3
    · have c0 : (p == 2) = true := by first | (rw [beq_iff_eq]; omega) | (rw [beq_eq_false_iff_ne]; omega) | (rw [bne_iff_ne]; omega) | (rw [bne_eq_false_iff_eq]; omega)
      have c1 : (p != 2) = false := by first | (rw [beq_iff_eq]; omega) | (rw [beq_eq_false_iff_ne]; omega) | (rw [bne_iff_ne]; omega) | (rw [bne_eq_false_iff_eq]; omega)
      clear h3
      go_enter Try.func34, Try.ntmps34
      go_wp2_with (go_at_call 58; ((with_reducible refine (l1In_any _ _ _ _).mono ?_); rintro e w' ⟨rfl, rfl⟩))
      refine ((HP _).out).mono ?_
      rintro e w1 ⟨rfl, hx1⟩
      obtain ⟨hc1, hf1⟩ := hx1.cells
      have hz1 := hx1.size
      try simp at hz1
      have hs1_0 := sz1 (a := w.heap.size) (b := w1.heap.size) (by omega)
      clear HP
      go_wp2
      go_loop [4, 5] (fun qv _ => ∃ q : Nat, qv = .int .i64 q ∧ q ≤ Q0) (fun qv _ => Q0 - (intOf qv).toNat)
      case atStart => exact ⟨0, rfl, Nat.zero_le _⟩
      case round =>
        obtain ⟨q, rfl, hq⟩ := hrel
        have hqb := sp_bounds (q := q) (by omega)
        have hfb := fq_bounds (n := p + 2 * (q : Int) * q) (by omega) (by omega)
        have HL := fun w' => Lib.hid (l25SquareG_any (p + 2 * (q : Int) * q) (by omega) w')
        have hq0 : 0 ≤ (q : Int) ∧ (q : Int) ≤ 31623 ∧ 0 ≤ 2 * (q : Int) := by omega
        obtain ⟨r, hr⟩ : ∃ r, fq (p + 2 * (q : Int) * q) = r := ⟨_, rfl⟩
        have HR := Lib.hid hr
        simp only [hr] at HL hfb
        clear hr
        by_cases hlt : q < Q0
        · have hs := HN.out q hlt
          unfold srv at hs
          rw [HR.out] at hs
          go_wp2_with (go_at_call 84; ((with_reducible refine ((HL _).out).mono ?_); rintro e w' ⟨rfl, rfl⟩))
          go_round
          case rel => exact ⟨q + 1, by go_num, by omega⟩
          case measure => simp [intOf]; omega
        · obtain rfl : q = Q0 := by omega
          have hs := HS.out
          unfold srv at hs
          rw [HR.out] at hs
          go_wp2_with (go_at_call 84; ((with_reducible refine ((HL _).out).mono ?_); rintro e w' ⟨rfl, rfl⟩))
          refine bodyPost_ret (v := .tuple #[.agg #[.int .i64 r, .int .i64 q], .bool true]) (by simp [results, Try.results34, go_sem, *]) rfl ?_
          exact ⟨by rw [HT.out.1, HT.out.2.1, HT.out.2.2, HR.out], (by repeat (first | (with_reducible refine Ext.setCell ?_ (by first | (simp; done) | (simp; omega)) _) | with_reducible refine Ext.alloc ?_ _ | with_reducible refine Ext.drew ?_ | with_reducible refine Ext.drewN ?_ _ | with_reducible assumption | with_reducible exact Ext.refl _ | with_reducible refine Ext.trans ?_ (by with_reducible assumption)))⟩
    · have c0 : (p == 2) = false := by first | (rw [beq_iff_eq]; omega) | (rw [beq_eq_false_iff_ne]; omega) | (rw [bne_iff_ne]; omega) | (rw [bne_eq_false_iff_eq]; omega)
      have c1 : (p != 2) = true := by first | (rw [beq_iff_eq]; omega) | (rw [beq_eq_false_iff_ne]; omega) | (rw [bne_iff_ne]; omega) | (rw [bne_eq_false_iff_eq]; omega)
      have c2 : (p % 8 == 1) = true := by first | (rw [beq_iff_eq]; omega) | (rw [beq_eq_false_iff_ne]; omega) | (rw [bne_iff_ne]; omega) | (rw [bne_eq_false_iff_eq]; omega)
      have c3 : (p % 8 != 1) = false := by first | (rw [beq_iff_eq]; omega) | (rw [beq_eq_false_iff_ne]; omega) | (rw [bne_iff_ne]; omega) | (rw [bne_eq_false_iff_eq]; omega)
      clear h3
      go_enter Try.func34, Try.ntmps34
      go_wp2_with (go_at_call 58; ((with_reducible refine (l1In_any _ _ _ _).mono ?_); rintro e w' ⟨rfl, rfl⟩))
      refine ((HP _).out).mono ?_
      rintro e w1 ⟨rfl, hx1⟩
      obtain ⟨hc1, hf1⟩ := hx1.cells
      have hz1 := hx1.size
      try simp at hz1
      have hs1_0 := sz1 (a := w.heap.size) (b := w1.heap.size) (by omega)
      clear HP
      go_wp2
      go_loop [4, 5] (fun qv _ => ∃ q : Nat, qv = .int .i64 q ∧ q ≤ Q0) (fun qv _ => Q0 - (intOf qv).toNat)
      case atStart => exact ⟨0, rfl, Nat.zero_le _⟩
      case round =>
        obtain ⟨q, rfl, hq⟩ := hrel
        have hqb := sp_bounds (q := q) (by omega)
        have hfb := fq_bounds (n := p + 2 * (q : Int) * q) (by omega) (by omega)
        have HL := fun w' => Lib.hid (l25SquareG_any (p + 2 * (q : Int) * q) (by omega) w')
        have hq0 : 0 ≤ (q : Int) ∧ (q : Int) ≤ 31623 ∧ 0 ≤ 2 * (q : Int) := by omega
        obtain ⟨r, hr⟩ : ∃ r, fq (p + 2 * (q : Int) * q) = r := ⟨_, rfl⟩
        have HR := Lib.hid hr
        simp only [hr] at HL hfb
        clear hr
        by_cases hlt : q < Q0
        · have hs := HN.out q hlt
          unfold srv at hs
          rw [HR.out] at hs
          go_wp2_with (go_at_call 84; ((with_reducible refine ((HL _).out).mono ?_); rintro e w' ⟨rfl, rfl⟩))
          go_round
          case rel => exact ⟨q + 1, by go_num, by omega⟩
          case measure => simp [intOf]; omega
        · obtain rfl : q = Q0 := by omega
          have hs := HS.out
          unfold srv at hs
          rw [HR.out] at hs
          go_wp2_with (go_at_call 84; ((with_reducible refine ((HL _).out).mono ?_); rintro e w' ⟨rfl, rfl⟩))
          refine bodyPost_ret (v := .tuple #[.agg #[.int .i64 r, .int .i64 q], .bool true]) (by simp [results, Try.results34, go_sem, *]) rfl ?_
          exact ⟨by rw [HT.out.1, HT.out.2.1, HT.out.2.2, HR.out], (by repeat (first | (with_reducible refine Ext.setCell ?_ (by first | (simp; done) | (simp; omega)) _) | with_reducible refine Ext.alloc ?_ _ | with_reducible refine Ext.drew ?_ | with_reducible refine Ext.drewN ?_ _ | with_reducible assumption | with_reducible exact Ext.refl _ | with_reducible refine Ext.trans ?_ (by with_reducible assumption)))⟩
    · have c0 : (p == 2) = false := by first | (rw [beq_iff_eq]; omega) | (rw [beq_eq_false_iff_ne]; omega) | (rw [bne_iff_ne]; omega) | (rw [bne_eq_false_iff_eq]; omega)
      have c1 : (p != 2) = true := by first | (rw [beq_iff_eq]; omega) | (rw [beq_eq_false_iff_ne]; omega) | (rw [bne_iff_ne]; omega) | (rw [bne_eq_false_iff_eq]; omega)
      have c2 : (p % 8 == 1) = false := by first | (rw [beq_iff_eq]; omega) | (rw [beq_eq_false_iff_ne]; omega) | (rw [bne_iff_ne]; omega) | (rw [bne_eq_false_iff_eq]; omega)
      have c3 : (p % 8 != 1) = true := by first | (rw [beq_iff_eq]; omega) | (rw [beq_eq_false_iff_ne]; omega) | (rw [bne_iff_ne]; omega) | (rw [bne_eq_false_iff_eq]; omega)
      have c4 : (p % 8 == 7) = true := by first | (rw [beq_iff_eq]; omega) | (rw [beq_eq_false_iff_ne]; omega) | (rw [bne_iff_ne]; omega) | (rw [bne_eq_false_iff_eq]; omega)
      have c5 : (p % 8 != 7) = false := by first | (rw [beq_iff_eq]; omega) | (rw [beq_eq_false_iff_ne]; omega) | (rw [bne_iff_ne]; omega) | (rw [bne_eq_false_iff_eq]; omega)
      clear h3
      go_enter Try.func34, Try.ntmps34
      go_wp2_with (go_at_call 58; ((with_reducible refine (l1In_any _ _ _ _).mono ?_); rintro e w' ⟨rfl, rfl⟩))
      refine ((HP _).out).mono ?_
      rintro e w1 ⟨rfl, hx1⟩
      obtain ⟨hc1, hf1⟩ := hx1.cells
      have hz1 := hx1.size
      try simp at hz1
      have hs1_0 := sz1 (a := w.heap.size) (b := w1.heap.size) (by omega)
      clear HP
      go_wp2
      go_loop [4, 5] (fun qv _ => ∃ q : Nat, qv = .int .i64 q ∧ q ≤ Q0) (fun qv _ => Q0 - (intOf qv).toNat)
      case atStart => exact ⟨0, rfl, Nat.zero_le _⟩
      case round =>
        obtain ⟨q, rfl, hq⟩ := hrel
        have hqb := sp_bounds (q := q) (by omega)
        have hfb := fq_bounds (n := p + 2 * (q : Int) * q) (by omega) (by omega)
        have HL := fun w' => Lib.hid (l25SquareG_any (p + 2 * (q : Int) * q) (by omega) w')
        have hq0 : 0 ≤ (q : Int) ∧ (q : Int) ≤ 31623 ∧ 0 ≤ 2 * (q : Int) := by omega
        obtain ⟨r, hr⟩ : ∃ r, fq (p + 2 * (q : Int) * q) = r := ⟨_, rfl⟩
        have HR := Lib.hid hr
        simp only [hr] at HL hfb
        clear hr
        by_cases hlt : q < Q0
        · have hs := HN.out q hlt
          unfold srv at hs
          rw [HR.out] at hs
          go_wp2_with (go_at_call 84; ((with_reducible refine ((HL _).out).mono ?_); rintro e w' ⟨rfl, rfl⟩))
          go_round
          case rel => exact ⟨q + 1, by go_num, by omega⟩
          case measure => simp [intOf]; omega
        · obtain rfl : q = Q0 := by omega
          have hs := HS.out
          unfold srv at hs
          rw [HR.out] at hs
          go_wp2_with (go_at_call 84; ((with_reducible refine ((HL _).out).mono ?_); rintro e w' ⟨rfl, rfl⟩))
          refine bodyPost_ret (v := .tuple #[.agg #[.int .i64 r, .int .i64 q], .bool true]) (by simp [results, Try.results34, go_sem, *]) rfl ?_
          exact ⟨by rw [HT.out.1, HT.out.2.1, HT.out.2.2, HR.out], (by repeat (first | (with_reducible refine Ext.setCell ?_ (by first | (simp; done) | (simp; omega)) _) | with_reducible refine Ext.alloc ?_ _ | with_reducible refine Ext.drew ?_ | with_reducible refine Ext.drewN ?_ _ | with_reducible assumption | with_reducible exact Ext.refl _ | with_reducible refine Ext.trans ?_ (by with_reducible assumption)))⟩
  · have HF := Lib.hid (HO.out.trans (show _ = false by simp; omega))
    have c0 : (p == 2) = false := by first | (rw [beq_iff_eq]; omega) | (rw [beq_eq_false_iff_ne]; omega) | (rw [bne_iff_ne]; omega) | (rw [bne_eq_false_iff_eq]; omega)
    have c1 : (p != 2) = true := by first | (rw [beq_iff_eq]; omega) | (rw [beq_eq_false_iff_ne]; omega) | (rw [bne_iff_ne]; omega) | (rw [bne_eq_false_iff_eq]; omega)
    have c2 : (p % 8 == 1) = false := by first | (rw [beq_iff_eq]; omega) | (rw [beq_eq_false_iff_ne]; omega) | (rw [bne_iff_ne]; omega) | (rw [bne_eq_false_iff_eq]; omega)
    have c3 : (p % 8 != 1) = true := by first | (rw [beq_iff_eq]; omega) | (rw [beq_eq_false_iff_ne]; omega) | (rw [bne_iff_ne]; omega) | (rw [bne_eq_false_iff_eq]; omega)
    have c4 : (p % 8 == 7) = false := by first | (rw [beq_iff_eq]; omega) | (rw [beq_eq_false_iff_ne]; omega) | (rw [bne_iff_ne]; omega) | (rw [bne_eq_false_iff_eq]; omega)
    have c5 : (p % 8 != 7) = true := by first | (rw [beq_iff_eq]; omega) | (rw [beq_eq_false_iff_ne]; omega) | (rw [bne_iff_ne]; omega) | (rw [bne_eq_false_iff_eq]; omega)
    clear h3
    go_enter Try.func34, Try.ntmps34
    go_wp2_with (go_at_call 58; ((with_reducible refine (l1In_any _ _ _ _).mono ?_); rintro e w' ⟨rfl, rfl⟩))
    refine ((HP _).out).mono ?_
    rintro e w1 ⟨rfl, hx1⟩
    obtain ⟨hc1, hf1⟩ := hx1.cells
    have hz1 := hx1.size
    try simp at hz1
    have hs1_0 := sz1 (a := w.heap.size) (b := w1.heap.size) (by omega)
    go_wp2
    refine bodyPost_ret (v := .tuple #[.agg #[.int .i64 0, .int .i64 0], .bool false]) (by simp [results, Try.results34, go_sem, *]) rfl ?_
    exact ⟨by rw [HF.out, (HZ.out HF.out).1, (HZ.out HF.out).2], (by repeat (first | (with_reducible refine Ext.setCell ?_ (by first | (simp; done) | (simp; omega)) _) | with_reducible refine Ext.alloc ?_ _ | with_reducible refine Ext.drew ?_ | with_reducible refine Ext.drewN ?_ _ | with_reducible assumption | with_reducible exact Ext.refl _ | with_reducible refine Ext.trans ?_ (by with_reducible assumption)))⟩

set_option maxRecDepth 20000 in
set_option maxHeartbeats 2000000 in
theorem splitPrime_any (p : Int) (w : World) :
    Calls Try.prog 35 #[.int .i64 p] w fun e w' => e = .returned (.tuple #[.agg #[.int .i64 (spR p), .int .i64 (spK p)], .bool (okSP p)]) ∧ Ext w w' := by
  have HO : Hid (okSP p = (Wn p 2 1000000000 && prm p && (p == 2 || p % 8 == 1 || p % 8 == 7))) := rfl
  have HZ : Hid (okSP p = false → spR p = 0 ∧ spK p = 0) := sp_bad
  cases h1 : Wn p 2 1000000000
  · rw [h1] at HO
    have HF := Lib.hid (HO.out.trans (show _ = false by rfl))
    go_enter Try.func35, Try.ntmps35
    go_wp2_with (go_at_call 60; ((with_reducible refine (within_any _ _ _ _).mono ?_); rintro e w' ⟨rfl, rfl⟩))
    refine bodyPost_ret (v := .tuple #[.agg #[.int .i64 0, .int .i64 0], .bool false]) (by simp [results, Try.results35, go_sem, *]) rfl ?_
    exact ⟨by rw [HF.out, (HZ.out HF.out).1, (HZ.out HF.out).2], (by repeat (first | (with_reducible refine Ext.setCell ?_ (by first | (simp; done) | (simp; omega)) _) | with_reducible refine Ext.alloc ?_ _ | with_reducible refine Ext.drew ?_ | with_reducible refine Ext.drewN ?_ _ | with_reducible assumption | with_reducible exact Ext.refl _ | with_reducible refine Ext.trans ?_ (by with_reducible assumption)))⟩
  have hb := Wn_iff.1 h1
  have HP := fun w' => Lib.hid (isPrime_any p (by omega) hb.2 w')
  rw [h1] at HO
  have H1 := Lib.hid h1
  clear h1
  by_cases h3 : p = 2 ∨ p % 8 = 1 ∨ p % 8 = 7
  · cases h2 : prm p
    · rw [h2] at HO HP
      have HF := Lib.hid (HO.out.trans (show _ = false by rfl))
      clear h2
      rcases h3 with h3 | h3 | h3
      · have c0 : (p == 2) = true := by first | (rw [beq_iff_eq]; omega) | (rw [beq_eq_false_iff_ne]; omega) | (rw [bne_iff_ne]; omega) | (rw [bne_eq_false_iff_eq]; omega)
        have c1 : (p != 2) = false := by first | (rw [beq_iff_eq]; omega) | (rw [beq_eq_false_iff_ne]; omega) | (rw [bne_iff_ne]; omega) | (rw [bne_eq_false_iff_eq]; omega)
        clear h3
        go_enter Try.func35, Try.ntmps35
        go_wp2_with (go_at_call 60; ((with_reducible refine (within_any _ _ _ _).mono ?_); rintro e w' ⟨rfl, rfl⟩))
        refine ((HP _).out).mono ?_
        rintro e w1 ⟨rfl, hx1⟩
        obtain ⟨hc1, hf1⟩ := hx1.cells
        have hz1 := hx1.size
        try simp at hz1
        have hs1_0 := sz1 (a := w.heap.size) (b := w1.heap.size) (by omega)
        go_wp2
        refine bodyPost_ret (v := .tuple #[.agg #[.int .i64 0, .int .i64 0], .bool false]) (by simp [results, Try.results35, go_sem, *]) rfl ?_
        exact ⟨by rw [HF.out, (HZ.out HF.out).1, (HZ.out HF.out).2], (by repeat (first | (with_reducible refine Ext.setCell ?_ (by first | (simp; done) | (simp; omega)) _) | with_reducible refine Ext.alloc ?_ _ | with_reducible refine Ext.drew ?_ | with_reducible refine Ext.drewN ?_ _ | with_reducible assumption | with_reducible exact Ext.refl _ | with_reducible refine Ext.trans ?_ (by with_reducible assumption)))⟩
      · have c0 : (p == 2) = false := by first | (rw [beq_iff_eq]; omega) | (rw [beq_eq_false_iff_ne]; omega) | (rw [bne_iff_ne]; omega) | (rw [bne_eq_false_iff_eq]; omega)
        have c1 : (p != 2) = true := by first | (rw [beq_iff_eq]; omega) | (rw [beq_eq_false_iff_ne]; omega) | (rw [bne_iff_ne]; omega) | (rw [bne_eq_false_iff_eq]; omega)
        have c2 : (p % 8 == 1) = true := by first | (rw [beq_iff_eq]; omega) | (rw [beq_eq_false_iff_ne]; omega) | (rw [bne_iff_ne]; omega) | (rw [bne_eq_false_iff_eq]; omega)
        have c3 : (p % 8 != 1) = false := by first | (rw [beq_iff_eq]; omega) | (rw [beq_eq_false_iff_ne]; omega) | (rw [bne_iff_ne]; omega) | (rw [bne_eq_false_iff_eq]; omega)
        clear h3
        go_enter Try.func35, Try.ntmps35
        go_wp2_with (go_at_call 60; ((with_reducible refine (within_any _ _ _ _).mono ?_); rintro e w' ⟨rfl, rfl⟩))
        refine ((HP _).out).mono ?_
        rintro e w1 ⟨rfl, hx1⟩
        obtain ⟨hc1, hf1⟩ := hx1.cells
        have hz1 := hx1.size
        try simp at hz1
        have hs1_0 := sz1 (a := w.heap.size) (b := w1.heap.size) (by omega)
        go_wp2
        refine bodyPost_ret (v := .tuple #[.agg #[.int .i64 0, .int .i64 0], .bool false]) (by simp [results, Try.results35, go_sem, *]) rfl ?_
        exact ⟨by rw [HF.out, (HZ.out HF.out).1, (HZ.out HF.out).2], (by repeat (first | (with_reducible refine Ext.setCell ?_ (by first | (simp; done) | (simp; omega)) _) | with_reducible refine Ext.alloc ?_ _ | with_reducible refine Ext.drew ?_ | with_reducible refine Ext.drewN ?_ _ | with_reducible assumption | with_reducible exact Ext.refl _ | with_reducible refine Ext.trans ?_ (by with_reducible assumption)))⟩
      · have c0 : (p == 2) = false := by first | (rw [beq_iff_eq]; omega) | (rw [beq_eq_false_iff_ne]; omega) | (rw [bne_iff_ne]; omega) | (rw [bne_eq_false_iff_eq]; omega)
        have c1 : (p != 2) = true := by first | (rw [beq_iff_eq]; omega) | (rw [beq_eq_false_iff_ne]; omega) | (rw [bne_iff_ne]; omega) | (rw [bne_eq_false_iff_eq]; omega)
        have c2 : (p % 8 == 1) = false := by first | (rw [beq_iff_eq]; omega) | (rw [beq_eq_false_iff_ne]; omega) | (rw [bne_iff_ne]; omega) | (rw [bne_eq_false_iff_eq]; omega)
        have c3 : (p % 8 != 1) = true := by first | (rw [beq_iff_eq]; omega) | (rw [beq_eq_false_iff_ne]; omega) | (rw [bne_iff_ne]; omega) | (rw [bne_eq_false_iff_eq]; omega)
        have c4 : (p % 8 == 7) = true := by first | (rw [beq_iff_eq]; omega) | (rw [beq_eq_false_iff_ne]; omega) | (rw [bne_iff_ne]; omega) | (rw [bne_eq_false_iff_eq]; omega)
        have c5 : (p % 8 != 7) = false := by first | (rw [beq_iff_eq]; omega) | (rw [beq_eq_false_iff_ne]; omega) | (rw [bne_iff_ne]; omega) | (rw [bne_eq_false_iff_eq]; omega)
        clear h3
        go_enter Try.func35, Try.ntmps35
        go_wp2_with (go_at_call 60; ((with_reducible refine (within_any _ _ _ _).mono ?_); rintro e w' ⟨rfl, rfl⟩))
        refine ((HP _).out).mono ?_
        rintro e w1 ⟨rfl, hx1⟩
        obtain ⟨hc1, hf1⟩ := hx1.cells
        have hz1 := hx1.size
        try simp at hz1
        have hs1_0 := sz1 (a := w.heap.size) (b := w1.heap.size) (by omega)
        go_wp2
        refine bodyPost_ret (v := .tuple #[.agg #[.int .i64 0, .int .i64 0], .bool false]) (by simp [results, Try.results35, go_sem, *]) rfl ?_
        exact ⟨by rw [HF.out, (HZ.out HF.out).1, (HZ.out HF.out).2], (by repeat (first | (with_reducible refine Ext.setCell ?_ (by first | (simp; done) | (simp; omega)) _) | with_reducible refine Ext.alloc ?_ _ | with_reducible refine Ext.drew ?_ | with_reducible refine Ext.drewN ?_ _ | with_reducible assumption | with_reducible exact Ext.refl _ | with_reducible refine Ext.trans ?_ (by with_reducible assumption)))⟩
    · rw [h2] at HO HP
      clear h2
      have ht : okSP p = true := HO.out.trans (show _ = true by simp; rcases h3 with h | h | h <;> simp [h])
      obtain ⟨k1, k2, k3⟩ := spQ_spec ht
      have HS := Lib.hid k2
      have HN := Lib.hid k3
      have HT : Hid (okSP p = true ∧ spR p = fq (p + 2 * spQ p * spQ p) ∧ spK p = (spQ p : Int)) := by
        unfold Hid spR spK
        rw [ht]
        exact ⟨rfl, rfl, rfl⟩
      clear k2 k3 ht HO HZ
      obtain ⟨Q0, hQ0⟩ : ∃ Q0, spQ p = Q0 := ⟨_, rfl⟩
      simp only [hQ0] at HS HN HT k1
      clear hQ0
      rcases h3 with h3 | h3 | h3
      · have c0 : (p == 2) = true := by first | (rw [beq_iff_eq]; omega) | (rw [beq_eq_false_iff_ne]; omega) | (rw [bne_iff_ne]; omega) | (rw [bne_eq_false_iff_eq]; omega)
        have c1 : (p != 2) = false := by first | (rw [beq_iff_eq]; omega) | (rw [beq_eq_false_iff_ne]; omega) | (rw [bne_iff_ne]; omega) | (rw [bne_eq_false_iff_eq]; omega)
        clear h3
        go_enter Try.func35, Try.ntmps35
        go_wp2_with (go_at_call 60; ((with_reducible refine (within_any _ _ _ _).mono ?_); rintro e w' ⟨rfl, rfl⟩))
        refine ((HP _).out).mono ?_
        rintro e w1 ⟨rfl, hx1⟩
        have hE1 : Ext w w1 := ((Ext.refl w).alloc _).trans hx1
        have hbr : w1.heap[w.heap.size]? = some (.cells #[.int .i64 0, .int .i64 0] 35 (0, 0)) := (hx1.heap (by simp)).trans (heap_alloc_new _ _)
        obtain ⟨hc1, hf1⟩ := hx1.cells
        have hz1 := hx1.size
        try simp at hz1
        have hs1_0 := sz1 (a := w.heap.size) (b := w1.heap.size) (by omega)
        have hne : w.heap.size ≠ w1.heap.size := by omega
        clear HP
        go_wp2
        go_loop [4, 5, 6] (fun qv _ _ => ∃ q : Nat, qv = .int .i64 q ∧ q ≤ Q0) (fun qv _ _ => Q0 - (intOf qv).toNat)
        case atStart => exact ⟨0, rfl, Nat.zero_le _⟩
        case round =>
          obtain ⟨q, rfl, hq⟩ := hrel
          have hqb := sp_bounds (q := q) (by omega)
          have hfb := fq_bounds (n := p + 2 * (q : Int) * q) (by omega) (by omega)
          have HL := fun w' => Lib.hid (rootOfG_any (p + 2 * (q : Int) * q) (by omega) (by omega) w')
          have hq0 : 0 ≤ (q : Int) ∧ (q : Int) ≤ 31623 ∧ 0 ≤ 2 * (q : Int) := by omega
          have HPOS : Hid (0 < p + 2 * (q : Int) * q) := by unfold Hid; omega
          obtain ⟨r, hr⟩ : ∃ r, fq (p + 2 * (q : Int) * q) = r := ⟨_, rfl⟩
          have HR := Lib.hid hr
          simp only [hr] at HL hfb
          clear hr
          by_cases hlt : q < Q0
          · have hs := HN.out q hlt
            unfold srv at hs
            rw [HR.out] at hs
            rw [hs] at HL
            clear hs
            go_wp2_with (go_at_call 86; ((with_reducible refine ((HL _).out).mono ?_); rintro e w' ⟨rfl, rfl⟩))
            go_round
            case rel => exact ⟨q + 1, by go_num, by omega⟩
            case measure => simp [intOf]; omega
          · obtain rfl : q = Q0 := by omega
            have hs := HS.out
            unfold srv at hs
            rw [HR.out] at hs
            have hrp : 0 < r := by
              rcases Int.lt_or_le 0 r with g | g
              · exact g
              · obtain rfl : r = 0 := by omega
                have := HPOS.out
                rw [beq_iff_eq] at hs
                omega
            rw [hs] at HL
            clear hs
            have hR2 : R2 r q = true := by
              unfold R2 Lim
              rw [Wn_iff.2 (by omega), Wn_iff.2 (by omega)]
              rfl
            have HI : ∀ w', Hid (Calls Try.prog 69 #[.agg #[.int .i64 r, .int .i64 q]] w' fun e w'' => e = .returned (.bool true) ∧ Ext w' w'') := by
              rw [← hR2]
              exact fun w' => Lib.hid (isRoot2_any r q w')
            clear hR2
            go_wp2_with (go_at_call 86; ((with_reducible refine ((HL _).out).mono ?_); rintro e w' ⟨rfl, rfl⟩))
            go_wp2
            refine Wr.wp_region_wr (m := 57) [⟨w1.heap.size, 35, #[.int .i64 r, .int .i64 q]⟩, ⟨w.heap.size, 35, #[.int .i64 0, .int .i64 0]⟩] (by kernel_rfl) (by kernel_rfl) rfl (by simp; try omega) ?_ ?_
            · intro s hs
              rcases s with _ | _ | s
              · exact (show (World.heap _)[w1.heap.size]? = some (Obj.cells #[.int .i64 r, .int .i64 q] 35 (0, 0)) from heap_alloc_new _ _)
              · exact (show (World.heap _)[w.heap.size]? = some (Obj.cells #[.int .i64 0, .int .i64 0] 35 (0, 0)) from heap_alloc_lt hbr)
              · simp at hs
                try omega
            refine Wr.ww_read 0 (w1.heap.size) 35 #[.int .i64 r, .int .i64 q] (by simp) rfl rfl rfl (fun hr => ?_)
            apply Exists.intro
            refine ⟨?_, ?_⟩
            · go_simp
              (try intro x)
              (try go_bits)
              rfl
            clear hr
            simp only [Act.put, List.setIfInBounds_toArray, List.set_cons_succ, List.set_cons_zero, List.nil_append, List.cons_append]
            refine Wr.ww_read 0 (w1.heap.size) 35 #[.int .i64 r, .int .i64 q] (by simp) rfl rfl rfl (fun hr => ?_)
            apply Exists.intro
            refine ⟨?_, ?_⟩
            · go_simp
              (try intro x)
              (try go_bits)
              rfl
            clear hr
            simp only [Act.put, List.setIfInBounds_toArray, List.set_cons_succ, List.set_cons_zero, List.nil_append, List.cons_append]
            (refine Wr.ww_plain ?_; apply Exists.intro; refine ⟨?_, ?_⟩; (first | (go_simp; (try intro x); (try go_bits); rfl) | (go_simp; intro x; go_at_call 69; exact (HI _).out)); simp only [Act.put, List.setIfInBounds_toArray, List.set_cons_succ, List.set_cons_zero, List.nil_append, List.cons_append])
            refine Wr.ww_store 1 (w.heap.size) 35 #[.int .i64 0, .int .i64 0] #[.int .i64 r, .int .i64 q] rfl (by simp) rfl rfl rfl (fun x => ?_) ?_
            · have hcell : ∀ kk, x.w.cell? ⟨w.heap.size, kk, none⟩ = (#[.int .i64 0, .int .i64 0] : Array Value)[kk]? := fun kk => cell_of_row _ _ _ _ _ _ x.2.2
              have hfr : ∀ kk, x.w.frozen? ⟨w.heap.size, kk, none⟩ = false := fun kk => frozen_of_row _ _ _ _ _ x.2.2
              apply Exists.intro
              refine ⟨?_, ?_⟩
              · go_simp
                (try go_bits)
                rfl
              · exact ((Fill.start x.2.2).set 0 _).set 1 _
            simp only [Act.put, List.setIfInBounds_toArray, List.set_cons_succ, List.set_cons_zero, List.nil_append, List.cons_append]
            (refine Wr.ww_plain ?_; apply Exists.intro; refine ⟨?_, ?_⟩; (first | (go_simp; (try intro x); (try go_bits); rfl)); simp only [Act.put, List.setIfInBounds_toArray, List.set_cons_succ, List.set_cons_zero, List.nil_append, List.cons_append])
            refine Wr.ww_done (by kernel_rfl) (by kernel_rfl) (fun w2 hg2 hs2 => ?_)
            have hb2_0 : w2.heap[w1.heap.size]? = some (.cells #[.int .i64 r, .int .i64 q] 35 (0, 0)) := hs2 0 (by simp)
            have hb2_1 : w2.heap[w.heap.size]? = some (.cells #[.int .i64 r, .int .i64 q] 35 (0, 0)) := hs2 1 (by simp)
            clear hs2
            simp only [List.map_cons, List.map_nil] at hg2
            have hcR : ∀ j, w2.cell? ⟨w.heap.size, j, none⟩ = (#[.int .i64 r, .int .i64 q] : Array Value)[j]? := fun j => cell_of_row _ _ _ _ _ _ hb2_1
            go_wp2
            refine bodyPost_ret (v := .tuple #[.agg #[.int .i64 r, .int .i64 q], .bool true]) (by simp [results, Try.results35, go_sem, *]) rfl ?_
            exact ⟨by rw [HT.out.1, HT.out.2.1, HT.out.2.2, HR.out], ((GX.ofExt hE1 (S := [])).join (((GX.refl _ w1).alloc _).trans hg2) (by simp; omega)).toExt (by simp)⟩
      · have c0 : (p == 2) = false := by first | (rw [beq_iff_eq]; omega) | (rw [beq_eq_false_iff_ne]; omega) | (rw [bne_iff_ne]; omega) | (rw [bne_eq_false_iff_eq]; omega)
        have c1 : (p != 2) = true := by first | (rw [beq_iff_eq]; omega) | (rw [beq_eq_false_iff_ne]; omega) | (rw [bne_iff_ne]; omega) | (rw [bne_eq_false_iff_eq]; omega)
        have c2 : (p % 8 == 1) = true := by first | (rw [beq_iff_eq]; omega) | (rw [beq_eq_false_iff_ne]; omega) | (rw [bne_iff_ne]; omega) | (rw [bne_eq_false_iff_eq]; omega)
        have c3 : (p % 8 != 1) = false := by first | (rw [beq_iff_eq]; omega) | (rw [beq_eq_false_iff_ne]; omega) | (rw [bne_iff_ne]; omega) | (rw [bne_eq_false_iff_eq]; omega)
        clear h3
        go_enter Try.func35, Try.ntmps35
        go_wp2_with (go_at_call 60; ((with_reducible refine (within_any _ _ _ _).mono ?_); rintro e w' ⟨rfl, rfl⟩))
        refine ((HP _).out).mono ?_
        rintro e w1 ⟨rfl, hx1⟩
        have hE1 : Ext w w1 := ((Ext.refl w).alloc _).trans hx1
        have hbr : w1.heap[w.heap.size]? = some (.cells #[.int .i64 0, .int .i64 0] 35 (0, 0)) := (hx1.heap (by simp)).trans (heap_alloc_new _ _)
        obtain ⟨hc1, hf1⟩ := hx1.cells
        have hz1 := hx1.size
        try simp at hz1
        have hs1_0 := sz1 (a := w.heap.size) (b := w1.heap.size) (by omega)
        have hne : w.heap.size ≠ w1.heap.size := by omega
        clear HP
        go_wp2
        go_loop [4, 5, 6] (fun qv _ _ => ∃ q : Nat, qv = .int .i64 q ∧ q ≤ Q0) (fun qv _ _ => Q0 - (intOf qv).toNat)
        case atStart => exact ⟨0, rfl, Nat.zero_le _⟩
        case round =>
          obtain ⟨q, rfl, hq⟩ := hrel
          have hqb := sp_bounds (q := q) (by omega)
          have hfb := fq_bounds (n := p + 2 * (q : Int) * q) (by omega) (by omega)
          have HL := fun w' => Lib.hid (rootOfG_any (p + 2 * (q : Int) * q) (by omega) (by omega) w')
          have hq0 : 0 ≤ (q : Int) ∧ (q : Int) ≤ 31623 ∧ 0 ≤ 2 * (q : Int) := by omega
          have HPOS : Hid (0 < p + 2 * (q : Int) * q) := by unfold Hid; omega
          obtain ⟨r, hr⟩ : ∃ r, fq (p + 2 * (q : Int) * q) = r := ⟨_, rfl⟩
          have HR := Lib.hid hr
          simp only [hr] at HL hfb
          clear hr
          by_cases hlt : q < Q0
          · have hs := HN.out q hlt
            unfold srv at hs
            rw [HR.out] at hs
            rw [hs] at HL
            clear hs
            go_wp2_with (go_at_call 86; ((with_reducible refine ((HL _).out).mono ?_); rintro e w' ⟨rfl, rfl⟩))
            go_round
            case rel => exact ⟨q + 1, by go_num, by omega⟩
            case measure => simp [intOf]; omega
          · obtain rfl : q = Q0 := by omega
            have hs := HS.out
            unfold srv at hs
            rw [HR.out] at hs
            have hrp : 0 < r := by
              rcases Int.lt_or_le 0 r with g | g
              · exact g
              · obtain rfl : r = 0 := by omega
                have := HPOS.out
                rw [beq_iff_eq] at hs
                omega
            rw [hs] at HL
            clear hs
            have hR2 : R2 r q = true := by
              unfold R2 Lim
              rw [Wn_iff.2 (by omega), Wn_iff.2 (by omega)]
              rfl
            have HI : ∀ w', Hid (Calls Try.prog 69 #[.agg #[.int .i64 r, .int .i64 q]] w' fun e w'' => e = .returned (.bool true) ∧ Ext w' w'') := by
              rw [← hR2]
              exact fun w' => Lib.hid (isRoot2_any r q w')
            clear hR2
            go_wp2_with (go_at_call 86; ((with_reducible refine ((HL _).out).mono ?_); rintro e w' ⟨rfl, rfl⟩))
            go_wp2
            refine Wr.wp_region_wr (m := 57) [⟨w1.heap.size, 35, #[.int .i64 r, .int .i64 q]⟩, ⟨w.heap.size, 35, #[.int .i64 0, .int .i64 0]⟩] (by kernel_rfl) (by kernel_rfl) rfl (by simp; try omega) ?_ ?_
            · intro s hs
              rcases s with _ | _ | s
              · exact (show (World.heap _)[w1.heap.size]? = some (Obj.cells #[.int .i64 r, .int .i64 q] 35 (0, 0)) from heap_alloc_new _ _)
              · exact (show (World.heap _)[w.heap.size]? = some (Obj.cells #[.int .i64 0, .int .i64 0] 35 (0, 0)) from heap_alloc_lt hbr)
              · simp at hs
                try omega
            refine Wr.ww_read 0 (w1.heap.size) 35 #[.int .i64 r, .int .i64 q] (by simp) rfl rfl rfl (fun hr => ?_)
            apply Exists.intro
            refine ⟨?_, ?_⟩
            · go_simp
              (try intro x)
              (try go_bits)
              rfl
            clear hr
            simp only [Act.put, List.setIfInBounds_toArray, List.set_cons_succ, List.set_cons_zero, List.nil_append, List.cons_append]
            refine Wr.ww_read 0 (w1.heap.size) 35 #[.int .i64 r, .int .i64 q] (by simp) rfl rfl rfl (fun hr => ?_)
            apply Exists.intro
            refine ⟨?_, ?_⟩
            · go_simp
              (try intro x)
              (try go_bits)
              rfl
            clear hr
            simp only [Act.put, List.setIfInBounds_toArray, List.set_cons_succ, List.set_cons_zero, List.nil_append, List.cons_append]
            (refine Wr.ww_plain ?_; apply Exists.intro; refine ⟨?_, ?_⟩; (first | (go_simp; (try intro x); (try go_bits); rfl) | (go_simp; intro x; go_at_call 69; exact (HI _).out)); simp only [Act.put, List.setIfInBounds_toArray, List.set_cons_succ, List.set_cons_zero, List.nil_append, List.cons_append])
            refine Wr.ww_store 1 (w.heap.size) 35 #[.int .i64 0, .int .i64 0] #[.int .i64 r, .int .i64 q] rfl (by simp) rfl rfl rfl (fun x => ?_) ?_
            · have hcell : ∀ kk, x.w.cell? ⟨w.heap.size, kk, none⟩ = (#[.int .i64 0, .int .i64 0] : Array Value)[kk]? := fun kk => cell_of_row _ _ _ _ _ _ x.2.2
              have hfr : ∀ kk, x.w.frozen? ⟨w.heap.size, kk, none⟩ = false := fun kk => frozen_of_row _ _ _ _ _ x.2.2
              apply Exists.intro
              refine ⟨?_, ?_⟩
              · go_simp
                (try go_bits)
                rfl
              · exact ((Fill.start x.2.2).set 0 _).set 1 _
            simp only [Act.put, List.setIfInBounds_toArray, List.set_cons_succ, List.set_cons_zero, List.nil_append, List.cons_append]
            (refine Wr.ww_plain ?_; apply Exists.intro; refine ⟨?_, ?_⟩; (first | (go_simp; (try intro x); (try go_bits); rfl)); simp only [Act.put, List.setIfInBounds_toArray, List.set_cons_succ, List.set_cons_zero, List.nil_append, List.cons_append])
            refine Wr.ww_done (by kernel_rfl) (by kernel_rfl) (fun w2 hg2 hs2 => ?_)
            have hb2_0 : w2.heap[w1.heap.size]? = some (.cells #[.int .i64 r, .int .i64 q] 35 (0, 0)) := hs2 0 (by simp)
            have hb2_1 : w2.heap[w.heap.size]? = some (.cells #[.int .i64 r, .int .i64 q] 35 (0, 0)) := hs2 1 (by simp)
            clear hs2
            simp only [List.map_cons, List.map_nil] at hg2
            have hcR : ∀ j, w2.cell? ⟨w.heap.size, j, none⟩ = (#[.int .i64 r, .int .i64 q] : Array Value)[j]? := fun j => cell_of_row _ _ _ _ _ _ hb2_1
            go_wp2
            refine bodyPost_ret (v := .tuple #[.agg #[.int .i64 r, .int .i64 q], .bool true]) (by simp [results, Try.results35, go_sem, *]) rfl ?_
            exact ⟨by rw [HT.out.1, HT.out.2.1, HT.out.2.2, HR.out], ((GX.ofExt hE1 (S := [])).join (((GX.refl _ w1).alloc _).trans hg2) (by simp; omega)).toExt (by simp)⟩
      · have c0 : (p == 2) = false := by first | (rw [beq_iff_eq]; omega) | (rw [beq_eq_false_iff_ne]; omega) | (rw [bne_iff_ne]; omega) | (rw [bne_eq_false_iff_eq]; omega)
        have c1 : (p != 2) = true := by first | (rw [beq_iff_eq]; omega) | (rw [beq_eq_false_iff_ne]; omega) | (rw [bne_iff_ne]; omega) | (rw [bne_eq_false_iff_eq]; omega)
        have c2 : (p % 8 == 1) = false := by first | (rw [beq_iff_eq]; omega) | (rw [beq_eq_false_iff_ne]; omega) | (rw [bne_iff_ne]; omega) | (rw [bne_eq_false_iff_eq]; omega)
        have c3 : (p % 8 != 1) = true := by first | (rw [beq_iff_eq]; omega) | (rw [beq_eq_false_iff_ne]; omega) | (rw [bne_iff_ne]; omega) | (rw [bne_eq_false_iff_eq]; omega)
        have c4 : (p % 8 == 7) = true := by first | (rw [beq_iff_eq]; omega) | (rw [beq_eq_false_iff_ne]; omega) | (rw [bne_iff_ne]; omega) | (rw [bne_eq_false_iff_eq]; omega)
        have c5 : (p % 8 != 7) = false := by first | (rw [beq_iff_eq]; omega) | (rw [beq_eq_false_iff_ne]; omega) | (rw [bne_iff_ne]; omega) | (rw [bne_eq_false_iff_eq]; omega)
        clear h3
        go_enter Try.func35, Try.ntmps35
        go_wp2_with (go_at_call 60; ((with_reducible refine (within_any _ _ _ _).mono ?_); rintro e w' ⟨rfl, rfl⟩))
        refine ((HP _).out).mono ?_
        rintro e w1 ⟨rfl, hx1⟩
        have hE1 : Ext w w1 := ((Ext.refl w).alloc _).trans hx1
        have hbr : w1.heap[w.heap.size]? = some (.cells #[.int .i64 0, .int .i64 0] 35 (0, 0)) := (hx1.heap (by simp)).trans (heap_alloc_new _ _)
        obtain ⟨hc1, hf1⟩ := hx1.cells
        have hz1 := hx1.size
        try simp at hz1
        have hs1_0 := sz1 (a := w.heap.size) (b := w1.heap.size) (by omega)
        have hne : w.heap.size ≠ w1.heap.size := by omega
        clear HP
        go_wp2
        go_loop [4, 5, 6] (fun qv _ _ => ∃ q : Nat, qv = .int .i64 q ∧ q ≤ Q0) (fun qv _ _ => Q0 - (intOf qv).toNat)
        case atStart => exact ⟨0, rfl, Nat.zero_le _⟩
        case round =>
          obtain ⟨q, rfl, hq⟩ := hrel
          have hqb := sp_bounds (q := q) (by omega)
          have hfb := fq_bounds (n := p + 2 * (q : Int) * q) (by omega) (by omega)
          have HL := fun w' => Lib.hid (rootOfG_any (p + 2 * (q : Int) * q) (by omega) (by omega) w')
          have hq0 : 0 ≤ (q : Int) ∧ (q : Int) ≤ 31623 ∧ 0 ≤ 2 * (q : Int) := by omega
          have HPOS : Hid (0 < p + 2 * (q : Int) * q) := by unfold Hid; omega
          obtain ⟨r, hr⟩ : ∃ r, fq (p + 2 * (q : Int) * q) = r := ⟨_, rfl⟩
          have HR := Lib.hid hr
          simp only [hr] at HL hfb
          clear hr
          by_cases hlt : q < Q0
          · have hs := HN.out q hlt
            unfold srv at hs
            rw [HR.out] at hs
            rw [hs] at HL
            clear hs
            go_wp2_with (go_at_call 86; ((with_reducible refine ((HL _).out).mono ?_); rintro e w' ⟨rfl, rfl⟩))
            go_round
            case rel => exact ⟨q + 1, by go_num, by omega⟩
            case measure => simp [intOf]; omega
          · obtain rfl : q = Q0 := by omega
            have hs := HS.out
            unfold srv at hs
            rw [HR.out] at hs
            have hrp : 0 < r := by
              rcases Int.lt_or_le 0 r with g | g
              · exact g
              · obtain rfl : r = 0 := by omega
                have := HPOS.out
                rw [beq_iff_eq] at hs
                omega
            rw [hs] at HL
            clear hs
            have hR2 : R2 r q = true := by
              unfold R2 Lim
              rw [Wn_iff.2 (by omega), Wn_iff.2 (by omega)]
              rfl
            have HI : ∀ w', Hid (Calls Try.prog 69 #[.agg #[.int .i64 r, .int .i64 q]] w' fun e w'' => e = .returned (.bool true) ∧ Ext w' w'') := by
              rw [← hR2]
              exact fun w' => Lib.hid (isRoot2_any r q w')
            clear hR2
            go_wp2_with (go_at_call 86; ((with_reducible refine ((HL _).out).mono ?_); rintro e w' ⟨rfl, rfl⟩))
            go_wp2
            refine Wr.wp_region_wr (m := 57) [⟨w1.heap.size, 35, #[.int .i64 r, .int .i64 q]⟩, ⟨w.heap.size, 35, #[.int .i64 0, .int .i64 0]⟩] (by kernel_rfl) (by kernel_rfl) rfl (by simp; try omega) ?_ ?_
            · intro s hs
              rcases s with _ | _ | s
              · exact (show (World.heap _)[w1.heap.size]? = some (Obj.cells #[.int .i64 r, .int .i64 q] 35 (0, 0)) from heap_alloc_new _ _)
              · exact (show (World.heap _)[w.heap.size]? = some (Obj.cells #[.int .i64 0, .int .i64 0] 35 (0, 0)) from heap_alloc_lt hbr)
              · simp at hs
                try omega
            refine Wr.ww_read 0 (w1.heap.size) 35 #[.int .i64 r, .int .i64 q] (by simp) rfl rfl rfl (fun hr => ?_)
            apply Exists.intro
            refine ⟨?_, ?_⟩
            · go_simp
              (try intro x)
              (try go_bits)
              rfl
            clear hr
            simp only [Act.put, List.setIfInBounds_toArray, List.set_cons_succ, List.set_cons_zero, List.nil_append, List.cons_append]
            refine Wr.ww_read 0 (w1.heap.size) 35 #[.int .i64 r, .int .i64 q] (by simp) rfl rfl rfl (fun hr => ?_)
            apply Exists.intro
            refine ⟨?_, ?_⟩
            · go_simp
              (try intro x)
              (try go_bits)
              rfl
            clear hr
            simp only [Act.put, List.setIfInBounds_toArray, List.set_cons_succ, List.set_cons_zero, List.nil_append, List.cons_append]
            (refine Wr.ww_plain ?_; apply Exists.intro; refine ⟨?_, ?_⟩; (first | (go_simp; (try intro x); (try go_bits); rfl) | (go_simp; intro x; go_at_call 69; exact (HI _).out)); simp only [Act.put, List.setIfInBounds_toArray, List.set_cons_succ, List.set_cons_zero, List.nil_append, List.cons_append])
            refine Wr.ww_store 1 (w.heap.size) 35 #[.int .i64 0, .int .i64 0] #[.int .i64 r, .int .i64 q] rfl (by simp) rfl rfl rfl (fun x => ?_) ?_
            · have hcell : ∀ kk, x.w.cell? ⟨w.heap.size, kk, none⟩ = (#[.int .i64 0, .int .i64 0] : Array Value)[kk]? := fun kk => cell_of_row _ _ _ _ _ _ x.2.2
              have hfr : ∀ kk, x.w.frozen? ⟨w.heap.size, kk, none⟩ = false := fun kk => frozen_of_row _ _ _ _ _ x.2.2
              apply Exists.intro
              refine ⟨?_, ?_⟩
              · go_simp
                (try go_bits)
                rfl
              · exact ((Fill.start x.2.2).set 0 _).set 1 _
            simp only [Act.put, List.setIfInBounds_toArray, List.set_cons_succ, List.set_cons_zero, List.nil_append, List.cons_append]
            (refine Wr.ww_plain ?_; apply Exists.intro; refine ⟨?_, ?_⟩; (first | (go_simp; (try intro x); (try go_bits); rfl)); simp only [Act.put, List.setIfInBounds_toArray, List.set_cons_succ, List.set_cons_zero, List.nil_append, List.cons_append])
            refine Wr.ww_done (by kernel_rfl) (by kernel_rfl) (fun w2 hg2 hs2 => ?_)
            have hb2_0 : w2.heap[w1.heap.size]? = some (.cells #[.int .i64 r, .int .i64 q] 35 (0, 0)) := hs2 0 (by simp)
            have hb2_1 : w2.heap[w.heap.size]? = some (.cells #[.int .i64 r, .int .i64 q] 35 (0, 0)) := hs2 1 (by simp)
            clear hs2
            simp only [List.map_cons, List.map_nil] at hg2
            have hcR : ∀ j, w2.cell? ⟨w.heap.size, j, none⟩ = (#[.int .i64 r, .int .i64 q] : Array Value)[j]? := fun j => cell_of_row _ _ _ _ _ _ hb2_1
            go_wp2
            refine bodyPost_ret (v := .tuple #[.agg #[.int .i64 r, .int .i64 q], .bool true]) (by simp [results, Try.results35, go_sem, *]) rfl ?_
            exact ⟨by rw [HT.out.1, HT.out.2.1, HT.out.2.2, HR.out], ((GX.ofExt hE1 (S := [])).join (((GX.refl _ w1).alloc _).trans hg2) (by simp; omega)).toExt (by simp)⟩
  · have HF := Lib.hid (HO.out.trans (show _ = false by cases prm p <;> simp <;> omega))
    have c0 : (p == 2) = false := by first | (rw [beq_iff_eq]; omega) | (rw [beq_eq_false_iff_ne]; omega) | (rw [bne_iff_ne]; omega) | (rw [bne_eq_false_iff_eq]; omega)
    have c1 : (p != 2) = true := by first | (rw [beq_iff_eq]; omega) | (rw [beq_eq_false_iff_ne]; omega) | (rw [bne_iff_ne]; omega) | (rw [bne_eq_false_iff_eq]; omega)
    have c2 : (p % 8 == 1) = false := by first | (rw [beq_iff_eq]; omega) | (rw [beq_eq_false_iff_ne]; omega) | (rw [bne_iff_ne]; omega) | (rw [bne_eq_false_iff_eq]; omega)
    have c3 : (p % 8 != 1) = true := by first | (rw [beq_iff_eq]; omega) | (rw [beq_eq_false_iff_ne]; omega) | (rw [bne_iff_ne]; omega) | (rw [bne_eq_false_iff_eq]; omega)
    have c4 : (p % 8 == 7) = false := by first | (rw [beq_iff_eq]; omega) | (rw [beq_eq_false_iff_ne]; omega) | (rw [bne_iff_ne]; omega) | (rw [bne_eq_false_iff_eq]; omega)
    have c5 : (p % 8 != 7) = true := by first | (rw [beq_iff_eq]; omega) | (rw [beq_eq_false_iff_ne]; omega) | (rw [bne_iff_ne]; omega) | (rw [bne_eq_false_iff_eq]; omega)
    clear h3
    go_enter Try.func35, Try.ntmps35
    go_wp2_with (go_at_call 60; ((with_reducible refine (within_any _ _ _ _).mono ?_); rintro e w' ⟨rfl, rfl⟩))
    refine bodyPost_ret (v := .tuple #[.agg #[.int .i64 0, .int .i64 0], .bool false]) (by simp [results, Try.results35, go_sem, *]) rfl ?_
    exact ⟨by rw [HF.out, (HZ.out HF.out).1, (HZ.out HF.out).2], (by repeat (first | (with_reducible refine Ext.setCell ?_ (by first | (simp; done) | (simp; omega)) _) | with_reducible refine Ext.alloc ?_ _ | with_reducible refine Ext.drew ?_ | with_reducible refine Ext.drewN ?_ _ | with_reducible assumption | with_reducible exact Ext.refl _ | with_reducible refine Ext.trans ?_ (by with_reducible assumption)))⟩

theorem eqRoot2_sameS (a b : Int) (w : World) :
    Calls Try.prog 24 #[.agg #[.int .i64 a, .int .i64 b], .agg #[.int .i64 a, .int .i64 b]] w fun e w' => e = .returned (.bool true) ∧ Ext w w' := by
  go_enter Try.func24, Try.ntmps24
  go_wp2
  go_ret
  exact ⟨rfl, (by repeat (first | exact Ext.refl _ | assumption | refine Ext.alloc ?_ _ | refine Ext.drew ?_ | refine Ext.drewN ?_ _ | refine Ext.setCell ?_ (by first | omega | (dsimp only; omega) | (simp; done) | (simp; omega)) _ | refine Ext.trans ?_ (by assumption)))⟩

theorem law_SplitPrime (p : Int) (w : World) :
    Calls Try.prog 8 #[.int .i64 p] w fun e w' => e = .returned (.bool true) ∧ Ext w w' := by
  have HS := fun w' => Lib.hid (s_splitPrime_any p w')
  have HI := fun w' => Lib.hid (splitPrime_any p w')
  generalize spR p = r at *
  generalize spK p = k at *
  generalize okSP p = o at *
  go_enter Try.func8, Try.ntmps8
  go_wp2_with fail
  refine ((HS _).out).mono ?_
  rintro e w1 ⟨rfl, hx1⟩
  obtain ⟨hc1, hf1⟩ := hx1.cells
  have hz1 := hx1.size
  try simp at hz1
  go_wp2_with fail
  refine ((HI _).out).mono ?_
  rintro e w2 ⟨rfl, hx2⟩
  obtain ⟨hc2, hf2⟩ := hx2.cells
  have hz2 := hx2.size
  try simp at hz2
  have hs2_0 := sz1 (a := w1.heap.size) (b := w2.heap.size) (by omega)
  go_wp2_with fail
  refine (eqRoot2_sameS _ _ _).mono ?_
  rintro e w3 ⟨rfl, hx3⟩
  obtain ⟨hc3, hf3⟩ := hx3.cells
  have hz3 := hx3.size
  try simp at hz3
  have hs3_0 := sz1 (a := w1.heap.size) (b := w3.heap.size) (by omega)
  have hs3_1 := sz1 (a := w2.heap.size) (b := w3.heap.size) (by omega)
  go_wp2
  go_ret
  exact ⟨rfl, (by repeat (first | (with_reducible refine Ext.setCell ?_ (by first | (simp; done) | (simp; omega)) _) | with_reducible refine Ext.alloc ?_ _ | with_reducible refine Ext.drew ?_ | with_reducible refine Ext.drewN ?_ _ | with_reducible assumption | with_reducible exact Ext.refl _ | with_reducible refine Ext.trans ?_ (by with_reducible assumption)))⟩

end Go.Proofs.Ytkjamaacapaokaa
