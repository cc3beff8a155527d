/- Doubly positive numbers; numbers in ranges. -/
import Derived.Test.YtbffcpnpdpgfeaaRows
import Derived.Test.YtbffcpnpdpgfeaaSgn
namespace Go.Proofs.Ytbffcpnpdpgfeaa
open Go.RowKit

theorem compareRoot2_eq (p q r s u v : Int) (hu : p - r = u) (hv : q - s = v) (h1 : Cf u = true) (h2 : Cf v = true) (w : World) :
    Calls Try.prog 35 #[.agg #[.int .i64 p, .int .i64 q], .agg #[.int .i64 r, .int .i64 s]] w fun e w' => e = .returned (.int .i64 (S2 u v)) ∧ Ext w w' := by
  subst hu
  subst hv
  exact compareRoot2_any p q r s h1 h2 w

/-- the number and its conjugate are not negative -/
def Dp (p q : Int) : Bool := decide (0 ≤ S2 p q) && decide (0 ≤ S2 p (-q))
theorem Cf_neg {n : Int} (h : Cf n = true) : Cf (-n) = true := Cf_mk (by have := Cf_bd h; omega)
theorem Cf_lim {n : Int} (h : -1000000 ≤ n ∧ n ≤ 1000000) : Cf n = true := Cf_mk (by omega)

theorem conjugate_any (p q : Int) (h : -1000000000 ≤ q ∧ q ≤ 1000000000) (w : World) :
    Calls Try.prog 53 #[.agg #[.int .i64 p, .int .i64 q]] w fun e w' => e = .returned (.agg #[.int .i64 p, .int .i64 (-q)]) ∧ Ext w w' := by
  go_enter Try.func53, Try.ntmps53
  go_wp2
  refine bodyPost_ret (v := .agg #[.int .i64 p, .int .i64 (-q)]) (by simp [results, Try.results53, go_sem]) rfl ⟨rfl, ?_⟩
  exact (by repeat (first | exact Ext.refl _ | assumption | refine Ext.alloc ?_ _ | refine Ext.drew ?_ | refine Ext.drewN ?_ _ | refine Ext.setCell ?_ (by first | omega | (dsimp only; omega) | (simp; done) | (simp; omega)) _ | refine Ext.trans ?_ (by assumption)))

theorem isDoublyPositive_any (p q : Int) (h1 : Cf p = true) (h2 : Cf q = true) (w : World) :
    Calls Try.prog 31 #[.agg #[.int .i64 p, .int .i64 q]] w fun e w' => e = .returned (.bool (Dp p q)) ∧ Ext w w' := by
  have h3 := Cf_neg h2
  have b2 := Cf_bd h2
  have bs := S2_bd p q
  have bs' := S2_bd p (-q)
  by_cases ha : 0 ≤ S2 p q
  · have HD : Hid (Dp p q = decide (0 ≤ S2 p (-q))) := by unfold Hid Dp; simp [ha]
    go_enter Try.func31, Try.ntmps31
    go_wp2_with fail
    refine (compareRoot2_eq p q 0 0 p q (by omega) (by omega) h1 h2 _).mono ?_
    rintro e w1 ⟨rfl, hx1⟩
    obtain ⟨hc1, hf1⟩ := hx1.cells
    have hz1 := hx1.size
    try simp at hz1
    have hs1_0 := sz1 (a := w.heap.size) (b := w1.heap.size) (by omega)
    go_wp2_with fail
    refine (conjugate_any _ _ b2 _).mono ?_
    rintro e w2 ⟨rfl, hx2⟩
    obtain ⟨hc2, hf2⟩ := hx2.cells
    have hz2 := hx2.size
    try simp at hz2
    have hs2_0 := sz1 (a := w.heap.size) (b := w2.heap.size) (by omega)
    go_wp2_with fail
    refine (compareRoot2_eq p (-q) 0 0 p (-q) (by omega) (by omega) h1 h3 _).mono ?_
    rintro e w3 ⟨rfl, hx3⟩
    obtain ⟨hc3, hf3⟩ := hx3.cells
    have hz3 := hx3.size
    try simp at hz3
    go_wp2
    go_ret
    exact ⟨ret_bool (by rw [HD.out]), (by repeat (first | exact Ext.refl _ | assumption | refine Ext.alloc ?_ _ | refine Ext.drew ?_ | refine Ext.drewN ?_ _ | refine Ext.setCell ?_ (by first | omega | (dsimp only; omega) | (simp; done) | (simp; omega)) _ | refine Ext.trans ?_ (by assumption)))⟩
  · have HD : Hid (Dp p q = false) := by unfold Hid Dp; simp [ha]
    have ha' : S2 p q < 0 := by omega
    clear ha
    go_enter Try.func31, Try.ntmps31
    go_wp2_with fail
    refine (compareRoot2_eq p q 0 0 p q (by omega) (by omega) h1 h2 _).mono ?_
    rintro e w1 ⟨rfl, hx1⟩
    obtain ⟨hc1, hf1⟩ := hx1.cells
    have hz1 := hx1.size
    try simp at hz1
    have hs1_0 := sz1 (a := w.heap.size) (b := w1.heap.size) (by omega)
    go_wp2
    go_ret
    exact ⟨ret_bool (by rw [HD.out]), (by repeat (first | exact Ext.refl _ | assumption | refine Ext.alloc ?_ _ | refine Ext.drew ?_ | refine Ext.drewN ?_ _ | refine Ext.setCell ?_ (by first | omega | (dsimp only; omega) | (simp; done) | (simp; omega)) _ | refine Ext.trans ?_ (by assumption)))⟩

theorem l26Double_any (p q : Int) (h1 : Cf p = true) (h2 : Cf q = true) (w : World) :
    Calls Try.prog 47 #[.agg #[.int .i64 p, .int .i64 q]] w fun e w' => e = .returned (.bool (Dp p q)) ∧ Ext w w' := by
  have h3 := Cf_neg h2
  have b2 := Cf_bd h2
  have bs := S2_bd p q
  have bs' := S2_bd p (-q)
  by_cases ha : 0 ≤ S2 p q
  · have HD : Hid (Dp p q = decide (0 ≤ S2 p (-q))) := by unfold Hid Dp; simp [ha]
    go_enter Try.func47, Try.ntmps47
    go_wp2_with fail
    refine (l2Sign_any _ _ h1 h2 _).mono ?_
    rintro e w' ⟨rfl, rfl⟩
    go_wp2_with fail
    refine (l2Sign_any _ _ h1 h3 _).mono ?_
    rintro e w' ⟨rfl, rfl⟩
    go_wp2
    go_ret
    exact ⟨ret_bool (by rw [HD.out]), (by repeat (first | exact Ext.refl _ | assumption | refine Ext.alloc ?_ _ | refine Ext.drew ?_ | refine Ext.drewN ?_ _ | refine Ext.setCell ?_ (by first | omega | (dsimp only; omega) | (simp; done) | (simp; omega)) _ | refine Ext.trans ?_ (by assumption)))⟩
  · have HD : Hid (Dp p q = false) := by unfold Hid Dp; simp [ha]
    have ha' : S2 p q < 0 := by omega
    clear ha
    go_enter Try.func47, Try.ntmps47
    go_wp2_with fail
    refine (l2Sign_any _ _ h1 h2 _).mono ?_
    rintro e w' ⟨rfl, rfl⟩
    go_wp2
    go_ret
    exact ⟨ret_bool (by rw [HD.out]), (by repeat (first | exact Ext.refl _ | assumption | refine Ext.alloc ?_ _ | refine Ext.drew ?_ | refine Ext.drewN ?_ _ | refine Ext.setCell ?_ (by first | omega | (dsimp only; omega) | (simp; done) | (simp; omega)) _ | refine Ext.trans ?_ (by assumption)))⟩

/-! ### Ranges -/
/-- (p + q sqrt 2)/st lies in lo/den .. hi/den -/
def Lies (p q st lo hi den : Int) : Bool := decide (0 ≤ S2 (den * p - st * lo) (den * q)) && decide (0 ≤ S2 (st * hi - den * p) (-den * q))
structure Fine (p q st lo hi den : Int) : Prop where
  p : -4000000 ≤ p ∧ p ≤ 4000000
  q : -4000000 ≤ q ∧ q ≤ 4000000
  st : 1 ≤ st ∧ st ≤ 2
  lo : -1000000 ≤ lo ∧ lo ≤ 1000000
  hi : -1000000 ≤ hi ∧ hi ≤ 1000000
  den : 1 ≤ den ∧ den ≤ 100
theorem Fine.bds {p q st lo hi den : Int} (h : Fine p q st lo hi den) : (-400000000 ≤ den * p ∧ den * p ≤ 400000000) ∧ (-400000000 ≤ den * q ∧ den * q ≤ 400000000) ∧
    (-2000000 ≤ st * lo ∧ st * lo ≤ 2000000) ∧ (-2000000 ≤ st * hi ∧ st * hi ≤ 2000000) ∧ (-400000000 ≤ -den * q ∧ -den * q ≤ 400000000) := by
  have h1 := mul_bd (a := den) (b := p) (A := 100) (B := 4000000) (by have := h.den; omega) h.den.2 h.p.1 h.p.2
  have h2 := mul_bd (a := den) (b := q) (A := 100) (B := 4000000) (by have := h.den; omega) h.den.2 h.q.1 h.q.2
  have h3 := mul_bd (a := st) (b := lo) (A := 2) (B := 1000000) (by have := h.st; omega) h.st.2 h.lo.1 h.lo.2
  have h4 := mul_bd (a := st) (b := hi) (A := 2) (B := 1000000) (by have := h.st; omega) h.st.2 h.hi.1 h.hi.2
  rw [Int.neg_mul]
  omega

theorem Lies_one (p q lo hi den : Int) : Lies p q 1 lo hi den = (decide (0 ≤ S2 (den * p - lo) (den * q)) && decide (S2 (den * p - hi) (den * q) ≤ 0)) := by
  unfold Lies
  rw [show (1 : Int) * hi - den * p = -(den * p - hi) by omega, Int.one_mul, Int.neg_mul, S2_anti]
  congr 1
  rw [Bool.eq_iff_iff]
  simp

def inV (p q lo hi den : Int) : Bool := R2 p q && Rng lo hi den && Lies p q 1 lo hi den
theorem fine_of {p q lo hi den : Int} (h1 : R2 p q = true) (h2 : Rng lo hi den = true) : Fine p q 1 lo hi den := by
  have b1 := R2_bd h1
  have b2 := Rng_bd h2
  exact ⟨by omega, by omega, by omega, by omega, by omega, by omega⟩

end Go.Proofs.Ytbffcpnpdpgfeaa
