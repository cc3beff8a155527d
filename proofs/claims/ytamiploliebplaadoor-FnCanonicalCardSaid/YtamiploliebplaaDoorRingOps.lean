/- The program's ring operations that end in ringIf. -/
import Derived.Test.YtamiploliebplaaDoorRows
import Derived.Test.YtamiploliebplaaDoorRingIf
namespace Go.Proofs.YtamiploliebplaaDoor
open Go.RowKit

theorem allRgN2 (a b c d e f g h p q r s : Int) : AllRg ([a, b, c, d, e, f, g, h] ++ [p, q, r, s]) (2 + 1) = (Rg a b c d && Rg e f g h && Rg p q r s) := by
  simp [AllRg, RgAt, List.range_succ, Bool.and_assoc]
theorem allRgN1 (a b c d p q r s : Int) : AllRg ([a, b, c, d] ++ [p, q, r, s]) (1 + 1) = (Rg a b c d && Rg p q r s) := by
  simp [AllRg, RgAt, List.range_succ]

def okAddRing (a b c d e f g h : Int) : Bool := Rg a b c d && Rg e f g h && Rg (a + e) (b + f) (c + g) (d + h)

def okSubRing (a b c d e f g h : Int) : Bool := Rg a b c d && Rg e f g h && Rg (a - e) (b - f) (c - g) (d - h)

def okMulRootTwo (a b c d : Int) : Bool := Rg a b c d && Rg (b - d) (a + c) (b + d) (c - a)

def okConjugate (a b c d : Int) : Bool := Rg a b c d && Rg (a) (-d) (-c) (-b)


open Go.RowKit

def evR (a b c d : Int) : Bool := (Int.tmod (a + c) 2 == 0) && (Int.tmod (b + d) 2 == 0)

theorem isEven_any (a b c d : Int) (h : Rg a b c d = true) (w : World) :
    Calls Tryd.prog 77 #[.agg #[.int .i64 a, .int .i64 b, .int .i64 c, .int .i64 d]] w fun e w' => e = .returned (.bool (evR a b c d)) ∧ Ext w w' := by
  obtain ⟨ba, bb, bc, bd⟩ := Rg_bd h
  cases h1 : (Int.tmod (a + c) 2 == 0)
  · have HE : Hid (evR a b c d = false) := by unfold Hid evR; rw [h1]; rfl
    go_enter Tryd.func77, Tryd.ntmps77
    go_wp2
    go_ret
    exact ⟨ret_bool (by rw [HE.out]), (by repeat (first | exact Ext.refl _ | assumption | refine Ext.alloc ?_ _ | refine Ext.drew ?_ | refine Ext.drewN ?_ _ | refine Ext.setCell ?_ (by first | omega | (dsimp only; omega) | (simp; done) | (simp; omega)) _ | refine Ext.trans ?_ (by assumption)))⟩
  · have HE : Hid (evR a b c d = (Int.tmod (b + d) 2 == 0)) := by unfold Hid evR; rw [h1]; rfl
    go_enter Tryd.func77, Tryd.ntmps77
    go_wp2
    go_ret
    exact ⟨ret_bool (by rw [HE.out]), (by repeat (first | exact Ext.refl _ | assumption | refine Ext.alloc ?_ _ | refine Ext.drew ?_ | refine Ext.drewN ?_ _ | refine Ext.setCell ?_ (by first | omega | (dsimp only; omega) | (simp; done) | (simp; omega)) _ | refine Ext.trans ?_ (by assumption)))⟩

theorem l1Even_any (a b c d : Int) (h : Rg a b c d = true) (w : World) :
    Calls Tryd.prog 70 #[.agg #[.int .i64 a, .int .i64 b, .int .i64 c, .int .i64 d]] w fun e w' => e = .returned (.bool (evR a b c d)) ∧ Ext w w' := by
  obtain ⟨ba, bb, bc, bd⟩ := Rg_bd h
  cases h1 : (Int.tmod (a + c) 2 == 0)
  · have HE : Hid (evR a b c d = false) := by unfold Hid evR; rw [h1]; rfl
    go_enter Tryd.func70, Tryd.ntmps70
    go_wp2
    go_ret
    exact ⟨ret_bool (by rw [HE.out]), (by repeat (first | exact Ext.refl _ | assumption | refine Ext.alloc ?_ _ | refine Ext.drew ?_ | refine Ext.drewN ?_ _ | refine Ext.setCell ?_ (by first | omega | (dsimp only; omega) | (simp; done) | (simp; omega)) _ | refine Ext.trans ?_ (by assumption)))⟩
  · have HE : Hid (evR a b c d = (Int.tmod (b + d) 2 == 0)) := by unfold Hid evR; rw [h1]; rfl
    go_enter Tryd.func70, Tryd.ntmps70
    go_wp2
    go_ret
    exact ⟨ret_bool (by rw [HE.out]), (by repeat (first | exact Ext.refl _ | assumption | refine Ext.alloc ?_ _ | refine Ext.drew ?_ | refine Ext.drewN ?_ _ | refine Ext.setCell ?_ (by first | omega | (dsimp only; omega) | (simp; done) | (simp; omega)) _ | refine Ext.trans ?_ (by assumption)))⟩

theorem l1Root_any (a b c d : Int) (h : Rg a b c d = true) (w : World) :
    Calls Tryd.prog 101 #[.agg #[.int .i64 a, .int .i64 b, .int .i64 c, .int .i64 d]] w fun e w' => e = .returned (.agg #[.int .i64 (b - d), .int .i64 (a + c), .int .i64 (b + d), .int .i64 (c - a)]) ∧ Ext w w' := by
  obtain ⟨ba, bb, bc, bd⟩ := Rg_bd h
  go_enter Tryd.func101, Tryd.ntmps101
  go_wp2
  refine bodyPost_ret (v := .agg #[.int .i64 (b - d), .int .i64 (a + c), .int .i64 (b + d), .int .i64 (c - a)]) (by simp [results, Tryd.results101, go_sem, *]) rfl ⟨rfl, ?_⟩
  exact (by repeat (first | (with_reducible refine Ext.setCell ?_ (by first | (simp; done) | (simp; omega)) _) | with_reducible refine Ext.alloc ?_ _ | with_reducible refine Ext.drew ?_ | with_reducible refine Ext.drewN ?_ _ | with_reducible assumption | with_reducible exact Ext.refl _ | with_reducible refine Ext.trans ?_ (by with_reducible assumption)))


open Go.RowKit

theorem half_bd {x y : Int} (hx : -1000000000 ≤ x ∧ x ≤ 1000000000) (hy : -1000000000 ≤ y ∧ y ≤ 1000000000) : (-1000000000 ≤ Int.tdiv (x - y) 2 ∧ Int.tdiv (x - y) 2 ≤ 1000000000) ∧ (-1000000000 ≤ Int.tdiv (x + y) 2 ∧ Int.tdiv (x + y) 2 ≤ 1000000000) := by
  have h3 : (Int.tdiv (x - y) 2).natAbs = (x - y).natAbs / 2 := by rw [Int.natAbs_tdiv]; rfl
  have h4 : (Int.tdiv (x + y) 2).natAbs = (x + y).natAbs / 2 := by rw [Int.natAbs_tdiv]; rfl
  omega

theorem l1Half_any (a b c d : Int) (h : Rg a b c d = true) (w : World) :
    Calls Tryd.prog 92 #[.agg #[.int .i64 a, .int .i64 b, .int .i64 c, .int .i64 d]] w fun e w' => e = .returned (.agg #[.int .i64 (Int.tdiv (b - d) 2), .int .i64 (Int.tdiv (a + c) 2), .int .i64 (Int.tdiv (b + d) 2), .int .i64 (Int.tdiv (c - a) 2)]) ∧ Ext w w' := by
  obtain ⟨ba, bb, bc, bd⟩ := Rg_bd h
  go_enter Tryd.func92, Tryd.ntmps92
  go_wp2_with fail
  refine (l1Root_any _ _ _ _ h _).mono ?_
  rintro e w1 ⟨rfl, hx1⟩
  obtain ⟨hc1, hf1⟩ := hx1.cells
  have hz1 := hx1.size
  try simp at hz1
  have hs1_0 := sz2 (a := w.heap.size) (b := w1.heap.size) (by omega)
  go_wp2
  refine bodyPost_ret (v := .agg #[.int .i64 (Int.tdiv (b - d) 2), .int .i64 (Int.tdiv (a + c) 2), .int .i64 (Int.tdiv (b + d) 2), .int .i64 (Int.tdiv (c - a) 2)]) (by simp [results, Tryd.results92, go_sem, *]) rfl ⟨rfl, ?_⟩
  exact (by repeat (first | (with_reducible refine Ext.setCell ?_ (by first | (simp; done) | (simp; omega)) _) | with_reducible refine Ext.alloc ?_ _ | with_reducible refine Ext.drew ?_ | with_reducible refine Ext.drewN ?_ _ | with_reducible assumption | with_reducible exact Ext.refl _ | with_reducible refine Ext.trans ?_ (by with_reducible assumption)))

theorem eqDyadic_same (a b c d k : Int) (w : World) :
    Calls Tryd.prog 49 #[.agg #[.int .i64 a, .int .i64 b, .int .i64 c, .int .i64 d, .int .i64 k], .agg #[.int .i64 a, .int .i64 b, .int .i64 c, .int .i64 d, .int .i64 k]] w fun e w' => e = .returned (.bool true) ∧ Ext w w' := by
  go_enter Tryd.func49, Tryd.ntmps49
  go_wp2
  go_ret
  exact ⟨rfl, (by repeat (first | exact Ext.refl _ | assumption | refine Ext.alloc ?_ _ | refine Ext.drew ?_ | refine Ext.drewN ?_ _ | refine Ext.setCell ?_ (by first | omega | (dsimp only; omega) | (simp; done) | (simp; omega)) _ | refine Ext.trans ?_ (by assumption)))⟩

end Go.Proofs.YtamiploliebplaaDoor
