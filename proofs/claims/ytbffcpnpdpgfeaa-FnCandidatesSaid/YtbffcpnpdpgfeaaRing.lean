/- Numbers of the ring: which are valid, the absolute square. -/
import Derived.Test.YtbffcpnpdpgfeaaRows
import Derived.Test.YtbffcpnpdpgfeaaRoot2
namespace Go.Proofs.Ytbffcpnpdpgfeaa
open Go.RowKit

def Rg (a b c d : Int) : Bool := Cf a && Cf b && Cf c && Cf d
def sqU (a b c d : Int) : Int := a * a + b * b + c * c + d * d
def sqV (a b c d : Int) : Int := a * b + b * c + c * d - d * a
theorem Rg_bd {a b c d : Int} (h : Rg a b c d = true) : (-1000000000 ≤ a ∧ a ≤ 1000000000) ∧ (-1000000000 ≤ b ∧ b ≤ 1000000000) ∧ (-1000000000 ≤ c ∧ c ≤ 1000000000) ∧ (-1000000000 ≤ d ∧ d ≤ 1000000000) := by
  simp only [Rg, Cf, Wn, Bool.and_eq_true, decide_eq_true_eq] at h
  omega
theorem Rg_mk {a b c d : Int} (h : (-1000000000 ≤ a ∧ a ≤ 1000000000) ∧ (-1000000000 ≤ b ∧ b ≤ 1000000000) ∧ (-1000000000 ≤ c ∧ c ≤ 1000000000) ∧ (-1000000000 ≤ d ∧ d ≤ 1000000000)) : Rg a b c d = true := by
  simp only [Rg, Cf, Wn, Bool.and_eq_true, decide_eq_true_eq]
  omega
/-- the products of two coefficients -/
theorem prod_bd {a b : Int} (ha : -1000000000 ≤ a ∧ a ≤ 1000000000) (hb : -1000000000 ≤ b ∧ b ≤ 1000000000) : -1000000000000000000 ≤ a * b ∧ a * b ≤ 1000000000000000000 :=
  mul_bd ha.1 ha.2 hb.1 hb.2

theorem isValidRing_any (a b c d : Int) (w : World) :
    Calls Try.prog 68 #[.agg #[.int .i64 a, .int .i64 b, .int .i64 c, .int .i64 d]] w fun e w' => e = .returned (.bool (Rg a b c d)) ∧ Ext w w' := by
  have HR : Hid (Rg a b c d = (Cf a && Cf b && Cf c && Cf d)) := rfl
  cases h1 : Cf a
  · go_enter Try.func68, Try.ntmps68
    go_wp2_with (go_at_call 66; ((with_reducible refine (isCoef_any _ _).mono ?_); rintro e w' ⟨rfl, rfl⟩))
    go_ret
    exact ⟨ret_bool (by rw [HR.out, h1]; rfl), (by repeat (first | exact Ext.refl _ | assumption | refine Ext.alloc ?_ _ | refine Ext.drew ?_ | refine Ext.drewN ?_ _ | refine Ext.setCell ?_ (by first | omega | (dsimp only; omega) | (simp; done) | (simp; omega)) _ | refine Ext.trans ?_ (by assumption)))⟩
  cases h2 : Cf b
  · go_enter Try.func68, Try.ntmps68
    go_wp2_with (go_at_call 66; ((with_reducible refine (isCoef_any _ _).mono ?_); rintro e w' ⟨rfl, rfl⟩))
    go_ret
    exact ⟨ret_bool (by rw [HR.out, h1, h2]; rfl), (by repeat (first | exact Ext.refl _ | assumption | refine Ext.alloc ?_ _ | refine Ext.drew ?_ | refine Ext.drewN ?_ _ | refine Ext.setCell ?_ (by first | omega | (dsimp only; omega) | (simp; done) | (simp; omega)) _ | refine Ext.trans ?_ (by assumption)))⟩
  cases h3 : Cf c
  · go_enter Try.func68, Try.ntmps68
    go_wp2_with (go_at_call 66; ((with_reducible refine (isCoef_any _ _).mono ?_); rintro e w' ⟨rfl, rfl⟩))
    go_ret
    exact ⟨ret_bool (by rw [HR.out, h1, h2, h3]; rfl), (by repeat (first | exact Ext.refl _ | assumption | refine Ext.alloc ?_ _ | refine Ext.drew ?_ | refine Ext.drewN ?_ _ | refine Ext.setCell ?_ (by first | omega | (dsimp only; omega) | (simp; done) | (simp; omega)) _ | refine Ext.trans ?_ (by assumption)))⟩
  · go_enter Try.func68, Try.ntmps68
    go_wp2_with (go_at_call 66; ((with_reducible refine (isCoef_any _ _).mono ?_); rintro e w' ⟨rfl, rfl⟩))
    go_ret
    exact ⟨ret_bool (by rw [HR.out, h1, h2, h3]; rfl), (by repeat (first | exact Ext.refl _ | assumption | refine Ext.alloc ?_ _ | refine Ext.drew ?_ | refine Ext.drewN ?_ _ | refine Ext.setCell ?_ (by first | omega | (dsimp only; omega) | (simp; done) | (simp; omega)) _ | refine Ext.trans ?_ (by assumption)))⟩

def okSq (a b c d : Int) : Bool := Rg a b c d && Cf (sqU a b c d) && Cf (sqV a b c d)
def absU (a b c d : Int) : Int := if okSq a b c d then sqU a b c d else 0
def absV (a b c d : Int) : Int := if okSq a b c d then sqV a b c d else 0
structure Prods (a b c d : Int) : Prop where
  aa : 0 ≤ a * a ∧ a * a ≤ 1000000000000000000
  bb : 0 ≤ b * b ∧ b * b ≤ 1000000000000000000
  cc : 0 ≤ c * c ∧ c * c ≤ 1000000000000000000
  dd : 0 ≤ d * d ∧ d * d ≤ 1000000000000000000
  ab : -1000000000000000000 ≤ a * b ∧ a * b ≤ 1000000000000000000
  bc : -1000000000000000000 ≤ b * c ∧ b * c ≤ 1000000000000000000
  cd : -1000000000000000000 ≤ c * d ∧ c * d ≤ 1000000000000000000
  da : -1000000000000000000 ≤ d * a ∧ d * a ≤ 1000000000000000000
theorem prods {a b c d : Int} (h : Rg a b c d = true) : Prods a b c d := by
  have b := Rg_bd h
  exact ⟨sq_bd b.1.1 b.1.2, sq_bd b.2.1.1 b.2.1.2, sq_bd b.2.2.1.1 b.2.2.1.2, sq_bd b.2.2.2.1 b.2.2.2.2, prod_bd b.1 b.2.1, prod_bd b.2.1 b.2.2.1, prod_bd b.2.2.1 b.2.2.2, prod_bd b.2.2.2 b.1⟩

set_option maxHeartbeats 1000000 in
theorem absSquare_any (a b c d : Int) (w : World) :
    Calls Try.prog 54 #[.agg #[.int .i64 a, .int .i64 b, .int .i64 c, .int .i64 d]] w fun e w' => e = .returned (.tuple #[.int .i64 (absU a b c d), .int .i64 (absV a b c d), .bool (okSq a b c d)]) ∧ Ext w w' := by
  cases h1 : Rg a b c d
  · have hu : Hid (absU a b c d = 0) := by unfold Hid absU okSq; rw [h1]; rfl
    have hv : Hid (absV a b c d = 0) := by unfold Hid absV okSq; rw [h1]; rfl
    have ho : Hid (okSq a b c d = false) := by unfold Hid okSq; rw [h1]; rfl
    go_enter Try.func54, Try.ntmps54
    go_wp2_with fail
    refine (isValidRing_any _ _ _ _ _).mono ?_
    rintro e w1 ⟨rfl, hx1⟩
    obtain ⟨hc1, hf1⟩ := hx1.cells
    have hz1 := hx1.size
    try simp at hz1
    go_wp2
    go_ret3
    exact ⟨by rw [hu.out, hv.out, ho.out]; rfl, (by repeat (first | exact Ext.refl _ | assumption | refine Ext.alloc ?_ _ | refine Ext.drew ?_ | refine Ext.drewN ?_ _ | refine Ext.setCell ?_ (by first | omega | (dsimp only; omega) | (simp; done) | (simp; omega)) _ | refine Ext.trans ?_ (by assumption)))⟩
  have p1 := (prods h1).aa
  have p2 := (prods h1).bb
  have p3 := (prods h1).cc
  have p4 := (prods h1).dd
  have p5 := (prods h1).ab
  have p6 := (prods h1).bc
  have p7 := (prods h1).cd
  have p8 := (prods h1).da
  cases h2 : Cf (a * a + b * b + c * c + d * d)
  · have hu : Hid (absU a b c d = 0) := by unfold Hid absU okSq sqU; rw [h1, h2]; rfl
    have hv : Hid (absV a b c d = 0) := by unfold Hid absV okSq sqU; rw [h1, h2]; rfl
    have ho : Hid (okSq a b c d = false) := by unfold Hid okSq sqU; rw [h1, h2]; rfl
    go_enter Try.func54, Try.ntmps54
    go_wp2_with fail
    refine (isValidRing_any _ _ _ _ _).mono ?_
    rintro e w1 ⟨rfl, hx1⟩
    obtain ⟨hc1, hf1⟩ := hx1.cells
    have hz1 := hx1.size
    try simp at hz1
    have hs1_0 := sz1 (a := w.heap.size) (b := w1.heap.size) (by omega)
    go_wp2
    refine wp_region_xt (by kernel_rfl) (by kernel_rfl) (fun hxc => ?_)
    repeat (first | go_big_quiet_step (fail) | quiet_step (fail))
    refine wpQuiet_nil (forall_xt ?_)
    clear hxc
    intro w2 hx2
    obtain ⟨hc2, hf2⟩ := hx2.cells
    have hz2 := hx2.size
    try simp at hz2
    go_wp2_with (go_at_call 66; ((with_reducible refine (isCoef_any _ _).mono ?_); rintro e w' ⟨rfl, rfl⟩))
    go_ret3
    exact ⟨by rw [hu.out, hv.out, ho.out]; rfl, (by repeat (first | exact Ext.refl _ | assumption | refine Ext.alloc ?_ _ | refine Ext.drew ?_ | refine Ext.drewN ?_ _ | refine Ext.setCell ?_ (by first | omega | (dsimp only; omega) | (simp; done) | (simp; omega)) _ | refine Ext.trans ?_ (by assumption)))⟩
  cases h3 : Cf (a * b + b * c + c * d - d * a)
  · have hu : Hid (absU a b c d = 0) := by unfold Hid absU okSq sqU sqV; rw [h1, h2, h3]; rfl
    have hv : Hid (absV a b c d = 0) := by unfold Hid absV okSq sqU sqV; rw [h1, h2, h3]; rfl
    have ho : Hid (okSq a b c d = false) := by unfold Hid okSq sqU sqV; rw [h1, h2, h3]; rfl
    go_enter Try.func54, Try.ntmps54
    go_wp2_with fail
    refine (isValidRing_any _ _ _ _ _).mono ?_
    rintro e w1 ⟨rfl, hx1⟩
    obtain ⟨hc1, hf1⟩ := hx1.cells
    have hz1 := hx1.size
    try simp at hz1
    have hs1_0 := sz1 (a := w.heap.size) (b := w1.heap.size) (by omega)
    go_wp2
    refine wp_region_xt (by kernel_rfl) (by kernel_rfl) (fun hxc => ?_)
    repeat (first | go_big_quiet_step (fail) | quiet_step (fail))
    refine wpQuiet_nil (forall_xt ?_)
    clear hxc
    intro w2 hx2
    obtain ⟨hc2, hf2⟩ := hx2.cells
    have hz2 := hx2.size
    try simp at hz2
    go_wp2_with (go_at_call 66; ((with_reducible refine (isCoef_any _ _).mono ?_); rintro e w' ⟨rfl, rfl⟩))
    go_ret3
    exact ⟨by rw [hu.out, hv.out, ho.out]; rfl, (by repeat (first | exact Ext.refl _ | assumption | refine Ext.alloc ?_ _ | refine Ext.drew ?_ | refine Ext.drewN ?_ _ | refine Ext.setCell ?_ (by first | omega | (dsimp only; omega) | (simp; done) | (simp; omega)) _ | refine Ext.trans ?_ (by assumption)))⟩
  · have hu : Hid (absU a b c d = a * a + b * b + c * c + d * d) := by unfold Hid absU okSq sqU sqV; rw [h1, h2, h3]; rfl
    have hv : Hid (absV a b c d = a * b + b * c + c * d - d * a) := by unfold Hid absV okSq sqU sqV; rw [h1, h2, h3]; rfl
    have ho : Hid (okSq a b c d = true) := by unfold Hid okSq sqU sqV; rw [h1, h2, h3]; rfl
    go_enter Try.func54, Try.ntmps54
    go_wp2_with fail
    refine (isValidRing_any _ _ _ _ _).mono ?_
    rintro e w1 ⟨rfl, hx1⟩
    obtain ⟨hc1, hf1⟩ := hx1.cells
    have hz1 := hx1.size
    try simp at hz1
    have hs1_0 := sz1 (a := w.heap.size) (b := w1.heap.size) (by omega)
    go_wp2
    refine wp_region_xt (by kernel_rfl) (by kernel_rfl) (fun hxc => ?_)
    repeat (first | go_big_quiet_step (fail) | quiet_step (fail))
    refine wpQuiet_nil (forall_xt ?_)
    clear hxc
    intro w2 hx2
    obtain ⟨hc2, hf2⟩ := hx2.cells
    have hz2 := hx2.size
    try simp at hz2
    go_wp2_with (go_at_call 66; ((with_reducible refine (isCoef_any _ _).mono ?_); rintro e w' ⟨rfl, rfl⟩))
    go_ret3
    exact ⟨by rw [hu.out, hv.out, ho.out]; rfl, (by repeat (first | exact Ext.refl _ | assumption | refine Ext.alloc ?_ _ | refine Ext.drew ?_ | refine Ext.drewN ?_ _ | refine Ext.setCell ?_ (by first | omega | (dsimp only; omega) | (simp; done) | (simp; omega)) _ | refine Ext.trans ?_ (by assumption)))⟩

set_option maxHeartbeats 1000000 in
theorem l1Abs_any (a b c d : Int) (h1 : Rg a b c d = true) (w : World) :
    Calls Try.prog 64 #[.agg #[.int .i64 a, .int .i64 b, .int .i64 c, .int .i64 d]] w fun e w' => e = .returned (.tuple #[.int .i64 (sqU a b c d), .int .i64 (sqV a b c d)]) ∧ Ext w w' := by
  have p1 := (prods h1).aa
  have p2 := (prods h1).bb
  have p3 := (prods h1).cc
  have p4 := (prods h1).dd
  have p5 := (prods h1).ab
  have p6 := (prods h1).bc
  have p7 := (prods h1).cd
  have p8 := (prods h1).da
  clear h1
  go_enter Try.func64, Try.ntmps64
  go_wp2
  refine wp_region_xt (by kernel_rfl) (by kernel_rfl) (fun hxc => ?_)
  repeat (first | go_big_quiet_step (fail) | quiet_step (fail))
  refine wpQuiet_nil (forall_xt ?_)
  clear hxc
  intro w2 hx2
  obtain ⟨hc2, hf2⟩ := hx2.cells
  have hz2 := hx2.size
  try simp at hz2
  go_wp2
  go_ret2
  exact ⟨rfl, (by repeat (first | exact Ext.refl _ | assumption | refine Ext.alloc ?_ _ | refine Ext.drew ?_ | refine Ext.drewN ?_ _ | refine Ext.setCell ?_ (by first | omega | (dsimp only; omega) | (simp; done) | (simp; omega)) _ | refine Ext.trans ?_ (by assumption)))⟩

end Go.Proofs.Ytbffcpnpdpgfeaa
