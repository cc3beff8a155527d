/- Numbers of the ring: which are valid, the absolute square. -/
import Derived.Test.YtamiploliebplaaDoorRows
import Derived.Test.YtamiploliebplaaDoorRoot2
namespace Go.Proofs.YtamiploliebplaaDoor
open Go.RowKit

def Rg (a b c d : Int) : Bool := Cf a && Cf b && Cf c && Cf d
def sqU (a b c d : Int) : Int := a * a + b * b + c * c + d * d
def sqV (a b c d : Int) : Int := a * b + b * c + c * d - d * a
theorem Rg_bd {a b c d : Int} (h : Rg a b c d = true) : (-1000000000 ≤ a ∧ a ≤ 1000000000) ∧ (-1000000000 ≤ b ∧ b ≤ 1000000000) ∧ (-1000000000 ≤ c ∧ c ≤ 1000000000) ∧ (-1000000000 ≤ d ∧ d ≤ 1000000000) := by
  simp only [Rg, Cf, Wn, Bool.and_eq_true, decide_eq_true_eq] at h
  omega
theorem Rg_mk {a b c d : Int} (h : (-1000000000 ≤ a ∧ a ≤ 1000000000) ∧ (-1000000000 ≤ b ∧ b ≤ 1000000000) ∧ (-1000000000 ≤ c ∧ c ≤ 1000000000) ∧ (-1000000000 ≤ d ∧ d ≤ 1000000000)) : Rg a b c d = true := by
  simp only [Rg, Cf, Wn, Bool.and_eq_true, decide_eq_true_eq]
  omega
/-- the products of two coefficients -/
theorem prod_bd {a b : Int} (ha : -1000000000 ≤ a ∧ a ≤ 1000000000) (hb : -1000000000 ≤ b ∧ b ≤ 1000000000) : -1000000000000000000 ≤ a * b ∧ a * b ≤ 1000000000000000000 :=
  mul_bd ha.1 ha.2 hb.1 hb.2

theorem toRing_any (a b c d : Int) (w : World) :
    Calls Tryd.prog 76 #[.agg #[.int .i64 a, .int .i64 b, .int .i64 c, .int .i64 d]] w fun e w' => e = .returned (.agg #[.int .i64 a, .int .i64 b, .int .i64 c, .int .i64 d]) ∧ Ext w w' := by
  go_enter Tryd.func76, Tryd.ntmps76
  go_wp2
  refine bodyPost_ret (v := .agg #[.int .i64 a, .int .i64 b, .int .i64 c, .int .i64 d]) (by simp [results, Tryd.results76, go_sem]) rfl ⟨rfl, ?_⟩
  exact (by repeat (first | exact Ext.refl _ | assumption | refine Ext.alloc ?_ _ | refine Ext.drew ?_ | refine Ext.drewN ?_ _ | refine Ext.setCell ?_ (by first | omega | (dsimp only; omega) | (simp; done) | (simp; omega)) _ | refine Ext.trans ?_ (by assumption)))

theorem isValidRing_any (a b c d : Int) (w : World) :
    Calls Tryd.prog 61 #[.agg #[.int .i64 a, .int .i64 b, .int .i64 c, .int .i64 d]] w fun e w' => e = .returned (.bool (Rg a b c d)) ∧ Ext w w' := by
  have HR : Hid (Rg a b c d = (Cf a && Cf b && Cf c && Cf d)) := rfl
  cases h1 : Cf a
  · go_enter Tryd.func61, Tryd.ntmps61
    go_wp2_with (go_at_call 86; ((with_reducible refine (isCoef_any _ _).mono ?_); rintro e w' ⟨rfl, rfl⟩))
    go_ret
    exact ⟨ret_bool (by rw [HR.out, h1]; rfl), (by repeat (first | exact Ext.refl _ | assumption | refine Ext.alloc ?_ _ | refine Ext.drew ?_ | refine Ext.drewN ?_ _ | refine Ext.setCell ?_ (by first | omega | (dsimp only; omega) | (simp; done) | (simp; omega)) _ | refine Ext.trans ?_ (by assumption)))⟩
  cases h2 : Cf b
  · go_enter Tryd.func61, Tryd.ntmps61
    go_wp2_with (go_at_call 86; ((with_reducible refine (isCoef_any _ _).mono ?_); rintro e w' ⟨rfl, rfl⟩))
    go_ret
    exact ⟨ret_bool (by rw [HR.out, h1, h2]; rfl), (by repeat (first | exact Ext.refl _ | assumption | refine Ext.alloc ?_ _ | refine Ext.drew ?_ | refine Ext.drewN ?_ _ | refine Ext.setCell ?_ (by first | omega | (dsimp only; omega) | (simp; done) | (simp; omega)) _ | refine Ext.trans ?_ (by assumption)))⟩
  cases h3 : Cf c
  · go_enter Tryd.func61, Tryd.ntmps61
    go_wp2_with (go_at_call 86; ((with_reducible refine (isCoef_any _ _).mono ?_); rintro e w' ⟨rfl, rfl⟩))
    go_ret
    exact ⟨ret_bool (by rw [HR.out, h1, h2, h3]; rfl), (by repeat (first | exact Ext.refl _ | assumption | refine Ext.alloc ?_ _ | refine Ext.drew ?_ | refine Ext.drewN ?_ _ | refine Ext.setCell ?_ (by first | omega | (dsimp only; omega) | (simp; done) | (simp; omega)) _ | refine Ext.trans ?_ (by assumption)))⟩
  · go_enter Tryd.func61, Tryd.ntmps61
    go_wp2_with (go_at_call 86; ((with_reducible refine (isCoef_any _ _).mono ?_); rintro e w' ⟨rfl, rfl⟩))
    go_ret
    exact ⟨ret_bool (by rw [HR.out, h1, h2, h3]; rfl), (by repeat (first | exact Ext.refl _ | assumption | refine Ext.alloc ?_ _ | refine Ext.drew ?_ | refine Ext.drewN ?_ _ | refine Ext.setCell ?_ (by first | omega | (dsimp only; omega) | (simp; done) | (simp; omega)) _ | refine Ext.trans ?_ (by assumption)))⟩

def okSq (a b c d : Int) : Bool := Rg a b c d && Cf (sqU a b c d) && Cf (sqV a b c d)
def absU (a b c d : Int) : Int := if okSq a b c d then sqU a b c d else 0
def absV (a b c d : Int) : Int := if okSq a b c d then sqV a b c d else 0
structure Prods (a b c d : Int) : Prop where
  aa : 0 ≤ a * a ∧ a * a ≤ 1000000000000000000
  bb : 0 ≤ b * b ∧ b * b ≤ 1000000000000000000
  cc : 0 ≤ c * c ∧ c * c ≤ 1000000000000000000
  dd : 0 ≤ d * d ∧ d * d ≤ 1000000000000000000
  ab : -1000000000000000000 ≤ a * b ∧ a * b ≤ 1000000000000000000
  bc : -1000000000000000000 ≤ b * c ∧ b * c ≤ 1000000000000000000
  cd : -1000000000000000000 ≤ c * d ∧ c * d ≤ 1000000000000000000
  da : -1000000000000000000 ≤ d * a ∧ d * a ≤ 1000000000000000000
theorem prods {a b c d : Int} (h : Rg a b c d = true) : Prods a b c d := by
  have b := Rg_bd h
  exact ⟨sq_bd b.1.1 b.1.2, sq_bd b.2.1.1 b.2.1.2, sq_bd b.2.2.1.1 b.2.2.1.2, sq_bd b.2.2.2.1 b.2.2.2.2, prod_bd b.1 b.2.1, prod_bd b.2.1 b.2.2.1, prod_bd b.2.2.1 b.2.2.2, prod_bd b.2.2.2 b.1⟩

end Go.Proofs.YtamiploliebplaaDoor
