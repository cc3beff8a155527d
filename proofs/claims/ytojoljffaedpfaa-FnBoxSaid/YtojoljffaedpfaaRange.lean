/- Doubly positive numbers; numbers in ranges. -/
import Derived.Test.YtojoljffaedpfaaRows
import Derived.Test.YtojoljffaedpfaaSgn
namespace Go.Proofs.Ytojoljffaedpfaa
open Go.RowKit

theorem compareRoot2_eq (p q r s u v : Int) (hu : p - r = u) (hv : q - s = v) (h1 : Cf u = true) (h2 : Cf v = true) (w : World) :
    Calls Try.prog 42 #[.agg #[.int .i64 p, .int .i64 q], .agg #[.int .i64 r, .int .i64 s]] w fun e w' => e = .returned (.int .i64 (S2 u v)) ∧ Ext w w' := by
  subst hu
  subst hv
  exact compareRoot2_any p q r s h1 h2 w

/-- the number and its conjugate are not negative -/
def Dp (p q : Int) : Bool := decide (0 ≤ S2 p q) && decide (0 ≤ S2 p (-q))
theorem Cf_neg {n : Int} (h : Cf n = true) : Cf (-n) = true := Cf_mk (by have := Cf_bd h; omega)
theorem Cf_lim {n : Int} (h : -1000000 ≤ n ∧ n ≤ 1000000) : Cf n = true := Cf_mk (by omega)

theorem conjugate_any (p q : Int) (h : -1000000000 ≤ q ∧ q ≤ 1000000000) (w : World) :
    Calls Try.prog 68 #[.agg #[.int .i64 p, .int .i64 q]] w fun e w' => e = .returned (.agg #[.int .i64 p, .int .i64 (-q)]) ∧ Ext w w' := by
  go_enter Try.func68, Try.ntmps68
  go_wp2
  refine bodyPost_ret (v := .agg #[.int .i64 p, .int .i64 (-q)]) (by simp [results, Try.results68, go_sem]) rfl ⟨rfl, ?_⟩
  exact (by repeat (first | exact Ext.refl _ | assumption | refine Ext.alloc ?_ _ | refine Ext.drew ?_ | refine Ext.drewN ?_ _ | refine Ext.setCell ?_ (by first | omega | (dsimp only; omega) | (simp; done) | (simp; omega)) _ | refine Ext.trans ?_ (by assumption)))

/-! ### Ranges -/
/-- (p + q sqrt 2)/st lies in lo/den .. hi/den -/
def Lies (p q st lo hi den : Int) : Bool := decide (0 ≤ S2 (den * p - st * lo) (den * q)) && decide (0 ≤ S2 (st * hi - den * p) (-den * q))
structure Fine (p q st lo hi den : Int) : Prop where
  p : -4000000 ≤ p ∧ p ≤ 4000000
  q : -4000000 ≤ q ∧ q ≤ 4000000
  st : 1 ≤ st ∧ st ≤ 2
  lo : -1000000 ≤ lo ∧ lo ≤ 1000000
  hi : -1000000 ≤ hi ∧ hi ≤ 1000000
  den : 1 ≤ den ∧ den ≤ 100
theorem Fine.bds {p q st lo hi den : Int} (h : Fine p q st lo hi den) : (-400000000 ≤ den * p ∧ den * p ≤ 400000000) ∧ (-400000000 ≤ den * q ∧ den * q ≤ 400000000) ∧
    (-2000000 ≤ st * lo ∧ st * lo ≤ 2000000) ∧ (-2000000 ≤ st * hi ∧ st * hi ≤ 2000000) ∧ (-400000000 ≤ -den * q ∧ -den * q ≤ 400000000) := by
  have h1 := mul_bd (a := den) (b := p) (A := 100) (B := 4000000) (by have := h.den; omega) h.den.2 h.p.1 h.p.2
  have h2 := mul_bd (a := den) (b := q) (A := 100) (B := 4000000) (by have := h.den; omega) h.den.2 h.q.1 h.q.2
  have h3 := mul_bd (a := st) (b := lo) (A := 2) (B := 1000000) (by have := h.st; omega) h.st.2 h.lo.1 h.lo.2
  have h4 := mul_bd (a := st) (b := hi) (A := 2) (B := 1000000) (by have := h.st; omega) h.st.2 h.hi.1 h.hi.2
  rw [Int.neg_mul]
  omega

set_option maxHeartbeats 400000 in
theorem lies_any (p q st lo hi den : Int) (h : Fine p q st lo hi den) (w : World) :
    Calls Try.prog 59 #[.agg #[.int .i64 p, .int .i64 q], .int .i64 st, .agg #[.int .i64 lo, .int .i64 hi, .int .i64 den]] w fun e w' => e = .returned (.bool (Lies p q st lo hi den)) ∧ Ext w w' := by
  have b := h.bds
  have bden := h.den
  clear h
  have bs := S2_bd (den * p - st * lo) (den * q)
  have bs' := S2_bd (st * hi - den * p) (-den * q)
  have HS : Hid (rsV (den * p - st * lo) (den * q) = S2 (den * p - st * lo) (den * q)) := by unfold Hid rsV; rw [Cf_mk (by omega), Cf_mk (by omega)]; rfl
  have HS' : Hid (rsV (st * hi - den * p) (-den * q) = S2 (st * hi - den * p) (-den * q)) := by unfold Hid rsV; rw [Cf_mk (by omega), Cf_mk (by omega)]; rfl
  by_cases ha : 0 ≤ S2 (den * p - st * lo) (den * q)
  · have HD : Hid (Lies p q st lo hi den = decide (0 ≤ S2 (st * hi - den * p) (-den * q))) := by unfold Hid Lies; simp [ha]
    go_enter Try.func59, Try.ntmps59
    go_wp2_with fail
    refine (realSign_any _ _ _).mono ?_
    rw [HS.out]
    rintro e w' ⟨rfl, rfl⟩
    go_wp2_with fail
    refine (realSign_any _ _ _).mono ?_
    rw [HS'.out]
    rintro e w' ⟨rfl, rfl⟩
    go_wp2
    go_ret
    exact ⟨ret_bool (by rw [HD.out]), (by repeat (first | exact Ext.refl _ | assumption | refine Ext.alloc ?_ _ | refine Ext.drew ?_ | refine Ext.drewN ?_ _ | refine Ext.setCell ?_ (by first | omega | (dsimp only; omega) | (simp; done) | (simp; omega)) _ | refine Ext.trans ?_ (by assumption)))⟩
  · have HD : Hid (Lies p q st lo hi den = false) := by unfold Hid Lies; simp [ha]
    have ha' : S2 (den * p - st * lo) (den * q) < 0 := by omega
    clear ha
    go_enter Try.func59, Try.ntmps59
    go_wp2_with fail
    refine (realSign_any _ _ _).mono ?_
    rw [HS.out]
    rintro e w' ⟨rfl, rfl⟩
    go_wp2_with fail
    refine (realSign_any _ _ _).mono ?_
    rw [HS'.out]
    rintro e w' ⟨rfl, rfl⟩
    go_wp2
    go_ret
    exact ⟨ret_bool (by rw [HD.out]), (by repeat (first | exact Ext.refl _ | assumption | refine Ext.alloc ?_ _ | refine Ext.drew ?_ | refine Ext.drewN ?_ _ | refine Ext.setCell ?_ (by first | omega | (dsimp only; omega) | (simp; done) | (simp; omega)) _ | refine Ext.trans ?_ (by assumption)))⟩

theorem l25Over_any (p q en den : Int) (h : Fine p q 1 en en den) (w : World) :
    Calls Try.prog 79 #[.int .i64 p, .int .i64 q, .int .i64 en, .int .i64 den] w fun e w' => e = .returned (.int .i64 (S2 (den * p - en) (den * q))) ∧ w = w' := by
  have b := h.bds
  have ben := h.lo
  clear h
  go_enter Try.func79, Try.ntmps79
  go_wp2_with fail
  refine (l2Sign_any _ _ (Cf_mk (by omega)) (Cf_mk (by omega)) _).mono ?_
  rintro e w' ⟨rfl, rfl⟩
  go_wp2
  go_ret
  exact ⟨rfl, rfl⟩

theorem Lies_one (p q lo hi den : Int) : Lies p q 1 lo hi den = (decide (0 ≤ S2 (den * p - lo) (den * q)) && decide (S2 (den * p - hi) (den * q) ≤ 0)) := by
  unfold Lies
  rw [show (1 : Int) * hi - den * p = -(den * p - hi) by omega, Int.one_mul, Int.neg_mul, S2_anti]
  congr 1
  rw [Bool.eq_iff_iff]
  simp

set_option maxHeartbeats 400000 in
theorem l25In_any (p q lo hi den : Int) (h : Fine p q 1 lo hi den) (w : World) :
    Calls Try.prog 58 #[.int .i64 p, .int .i64 q, .agg #[.int .i64 lo, .int .i64 hi, .int .i64 den]] w fun e w' => e = .returned (.bool (Lies p q 1 lo hi den)) ∧ Ext w w' := by
  have hl : Fine p q 1 lo lo den := ⟨h.p, h.q, h.st, h.lo, h.lo, h.den⟩
  have hh : Fine p q 1 hi hi den := ⟨h.p, h.q, h.st, h.hi, h.hi, h.den⟩
  have HL := Lib.hid (Lies_one p q lo hi den)
  have bs := S2_bd (den * p - lo) (den * q)
  have bs' := S2_bd (den * p - hi) (den * q)
  by_cases ha : 0 ≤ S2 (den * p - lo) (den * q)
  · have HD : Hid (Lies p q 1 lo hi den = decide (S2 (den * p - hi) (den * q) ≤ 0)) := by unfold Hid; rw [HL.out]; simp [ha]
    go_enter Try.func58, Try.ntmps58
    go_wp2_with fail
    refine (l25Over_any _ _ _ _ hl _).mono ?_
    rintro e w' ⟨rfl, rfl⟩
    go_wp2_with fail
    refine (l25Over_any _ _ _ _ hh _).mono ?_
    rintro e w' ⟨rfl, rfl⟩
    go_wp2
    go_ret
    exact ⟨ret_bool (by rw [HD.out]), (by repeat (first | exact Ext.refl _ | assumption | refine Ext.alloc ?_ _ | refine Ext.drew ?_ | refine Ext.drewN ?_ _ | refine Ext.setCell ?_ (by first | omega | (dsimp only; omega) | (simp; done) | (simp; omega)) _ | refine Ext.trans ?_ (by assumption)))⟩
  · have HD : Hid (Lies p q 1 lo hi den = false) := by unfold Hid; rw [HL.out]; simp [ha]
    have ha' : S2 (den * p - lo) (den * q) < 0 := by omega
    clear ha
    go_enter Try.func58, Try.ntmps58
    go_wp2_with fail
    refine (l25Over_any _ _ _ _ hl _).mono ?_
    rintro e w' ⟨rfl, rfl⟩
    go_wp2
    go_ret
    exact ⟨ret_bool (by rw [HD.out]), (by repeat (first | exact Ext.refl _ | assumption | refine Ext.alloc ?_ _ | refine Ext.drew ?_ | refine Ext.drewN ?_ _ | refine Ext.setCell ?_ (by first | omega | (dsimp only; omega) | (simp; done) | (simp; omega)) _ | refine Ext.trans ?_ (by assumption)))⟩

def inV (p q lo hi den : Int) : Bool := R2 p q && Rng lo hi den && Lies p q 1 lo hi den
theorem fine_of {p q lo hi den : Int} (h1 : R2 p q = true) (h2 : Rng lo hi den = true) : Fine p q 1 lo hi den := by
  have b1 := R2_bd h1
  have b2 := Rng_bd h2
  exact ⟨by omega, by omega, by omega, by omega, by omega, by omega⟩

theorem inRange_any (p q lo hi den : Int) (w : World) :
    Calls Try.prog 31 #[.agg #[.int .i64 p, .int .i64 q], .agg #[.int .i64 lo, .int .i64 hi, .int .i64 den]] w fun e w' =>
      e = .returned (.tuple #[.bool (inV p q lo hi den), .bool (R2 p q && Rng lo hi den)]) ∧ Ext w w' := by
  have HV : Hid (inV p q lo hi den = (R2 p q && Rng lo hi den && Lies p q 1 lo hi den)) := rfl
  cases h1 : R2 p q
  · go_enter Try.func31, Try.ntmps31
    go_wp2_with fail
    refine (isRoot2_any _ _ _).mono ?_
    rintro e w1 ⟨rfl, hx1⟩
    obtain ⟨hc1, hf1⟩ := hx1.cells
    have hz1 := hx1.size
    try simp at hz1
    go_wp2
    go_ret2
    exact ⟨by rw [HV.out, h1]; rfl, (by repeat (first | exact Ext.refl _ | assumption | refine Ext.alloc ?_ _ | refine Ext.drew ?_ | refine Ext.drewN ?_ _ | refine Ext.setCell ?_ (by first | omega | (dsimp only; omega) | (simp; done) | (simp; omega)) _ | refine Ext.trans ?_ (by assumption)))⟩
  cases h2 : Rng lo hi den
  · go_enter Try.func31, Try.ntmps31
    go_wp2_with fail
    refine (isRoot2_any _ _ _).mono ?_
    rintro e w1 ⟨rfl, hx1⟩
    obtain ⟨hc1, hf1⟩ := hx1.cells
    have hz1 := hx1.size
    try simp at hz1
    have hs1_0 := sz2 (a := w.heap.size) (b := w1.heap.size) (by omega)
    go_wp2_with fail
    refine (isValidRange_any _ _ _ _).mono ?_
    rintro e w2 ⟨rfl, hx2⟩
    obtain ⟨hc2, hf2⟩ := hx2.cells
    have hz2 := hx2.size
    try simp at hz2
    go_wp2
    go_ret2
    exact ⟨by rw [HV.out, h1, h2]; rfl, (by repeat (first | exact Ext.refl _ | assumption | refine Ext.alloc ?_ _ | refine Ext.drew ?_ | refine Ext.drewN ?_ _ | refine Ext.setCell ?_ (by first | omega | (dsimp only; omega) | (simp; done) | (simp; omega)) _ | refine Ext.trans ?_ (by assumption)))⟩
  have hf := fine_of h1 h2
  go_enter Try.func31, Try.ntmps31
  go_wp2_with fail
  refine (isRoot2_any _ _ _).mono ?_
  rintro e w1 ⟨rfl, hx1⟩
  obtain ⟨hc1, hf1⟩ := hx1.cells
  have hz1 := hx1.size
  try simp at hz1
  have hs1_0 := sz2 (a := w.heap.size) (b := w1.heap.size) (by omega)
  go_wp2_with fail
  refine (isValidRange_any _ _ _ _).mono ?_
  rintro e w2 ⟨rfl, hx2⟩
  obtain ⟨hc2, hf2⟩ := hx2.cells
  have hz2 := hx2.size
  try simp at hz2
  have hs2_0 := sz2 (a := w.heap.size) (b := w2.heap.size) (by omega)
  go_wp2_with fail
  refine (lies_any _ _ _ _ _ _ hf _).mono ?_
  rintro e w3 ⟨rfl, hx3⟩
  obtain ⟨hc3, hf3⟩ := hx3.cells
  have hz3 := hx3.size
  try simp at hz3
  go_wp2
  go_ret2
  exact ⟨by rw [HV.out, h1, h2]; rfl, (by repeat (first | exact Ext.refl _ | assumption | refine Ext.alloc ?_ _ | refine Ext.drew ?_ | refine Ext.drewN ?_ _ | refine Ext.setCell ?_ (by first | omega | (dsimp only; omega) | (simp; done) | (simp; omega)) _ | refine Ext.trans ?_ (by assumption)))⟩

theorem s_inRange_any (p q lo hi den : Int) (w : World) :
    Calls Try.prog 30 #[.agg #[.int .i64 p, .int .i64 q], .agg #[.int .i64 lo, .int .i64 hi, .int .i64 den]] w fun e w' =>
      e = .returned (.tuple #[.bool (inV p q lo hi den), .bool (R2 p q && Rng lo hi den)]) ∧ Ext w w' := by
  have HV : Hid (inV p q lo hi den = (R2 p q && Rng lo hi den && Lies p q 1 lo hi den)) := rfl
  cases h1 : R2 p q
  · go_enter Try.func30, Try.ntmps30
    go_wp2_with fail
    refine (l25Good_any _ _ _).mono ?_
    rintro e w1 ⟨rfl, hx1⟩
    obtain ⟨hc1, hf1⟩ := hx1.cells
    have hz1 := hx1.size
    try simp at hz1
    go_wp2
    go_ret2
    exact ⟨by rw [HV.out, h1]; rfl, (by repeat (first | exact Ext.refl _ | assumption | refine Ext.alloc ?_ _ | refine Ext.drew ?_ | refine Ext.drewN ?_ _ | refine Ext.setCell ?_ (by first | omega | (dsimp only; omega) | (simp; done) | (simp; omega)) _ | refine Ext.trans ?_ (by assumption)))⟩
  cases h2 : Rng lo hi den
  · go_enter Try.func30, Try.ntmps30
    go_wp2_with fail
    refine (l25Good_any _ _ _).mono ?_
    rintro e w1 ⟨rfl, hx1⟩
    obtain ⟨hc1, hf1⟩ := hx1.cells
    have hz1 := hx1.size
    try simp at hz1
    have hs1_0 := sz2 (a := w.heap.size) (b := w1.heap.size) (by omega)
    go_wp2_with fail
    refine (l25Valid_any _ _ _ _).mono ?_
    rintro e w2 ⟨rfl, hx2⟩
    obtain ⟨hc2, hf2⟩ := hx2.cells
    have hz2 := hx2.size
    try simp at hz2
    go_wp2
    go_ret2
    exact ⟨by rw [HV.out, h1, h2]; rfl, (by repeat (first | exact Ext.refl _ | assumption | refine Ext.alloc ?_ _ | refine Ext.drew ?_ | refine Ext.drewN ?_ _ | refine Ext.setCell ?_ (by first | omega | (dsimp only; omega) | (simp; done) | (simp; omega)) _ | refine Ext.trans ?_ (by assumption)))⟩
  have hf := fine_of h1 h2
  go_enter Try.func30, Try.ntmps30
  go_wp2_with fail
  refine (l25Good_any _ _ _).mono ?_
  rintro e w1 ⟨rfl, hx1⟩
  obtain ⟨hc1, hf1⟩ := hx1.cells
  have hz1 := hx1.size
  try simp at hz1
  have hs1_0 := sz2 (a := w.heap.size) (b := w1.heap.size) (by omega)
  go_wp2_with fail
  refine (l25Valid_any _ _ _ _).mono ?_
  rintro e w2 ⟨rfl, hx2⟩
  obtain ⟨hc2, hf2⟩ := hx2.cells
  have hz2 := hx2.size
  try simp at hz2
  have hs2_0 := sz2 (a := w.heap.size) (b := w2.heap.size) (by omega)
  go_wp2_with fail
  refine (l25In_any _ _ _ _ _ hf _).mono ?_
  rintro e w3 ⟨rfl, hx3⟩
  obtain ⟨hc3, hf3⟩ := hx3.cells
  have hz3 := hx3.size
  try simp at hz3
  go_wp2
  go_ret2
  exact ⟨by rw [HV.out, h1, h2]; rfl, (by repeat (first | exact Ext.refl _ | assumption | refine Ext.alloc ?_ _ | refine Ext.drew ?_ | refine Ext.drewN ?_ _ | refine Ext.setCell ?_ (by first | omega | (dsimp only; omega) | (simp; done) | (simp; omega)) _ | refine Ext.trans ?_ (by assumption)))⟩

end Go.Proofs.Ytojoljffaedpfaa
