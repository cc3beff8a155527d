/- Halving by the root of two; dyadic numbers: the laws' helpers. -/
import Derived.Test.YtlaajkdhegkpdaaRows
import Derived.Test.YtlaajkdhegkpdaaRingE
namespace Go.Proofs.Ytlaajkdhegkpdaa
open Go.RowKit

theorem half_bd {x y : Int} (hx : -1000000000 ≤ x ∧ x ≤ 1000000000) (hy : -1000000000 ≤ y ∧ y ≤ 1000000000) : (-1000000000 ≤ Int.tdiv (x - y) 2 ∧ Int.tdiv (x - y) 2 ≤ 1000000000) ∧ (-1000000000 ≤ Int.tdiv (x + y) 2 ∧ Int.tdiv (x + y) 2 ≤ 1000000000) := by
  have h3 : (Int.tdiv (x - y) 2).natAbs = (x - y).natAbs / 2 := by rw [Int.natAbs_tdiv]; rfl
  have h4 : (Int.tdiv (x + y) 2).natAbs = (x + y).natAbs / 2 := by rw [Int.natAbs_tdiv]; rfl
  omega

theorem l1Half_any (a b c d : Int) (h : Rg a b c d = true) (w : World) :
    Calls Try.prog 47 #[.agg #[.int .i64 a, .int .i64 b, .int .i64 c, .int .i64 d]] w fun e w' => e = .returned (.agg #[.int .i64 (Int.tdiv (b - d) 2), .int .i64 (Int.tdiv (a + c) 2), .int .i64 (Int.tdiv (b + d) 2), .int .i64 (Int.tdiv (c - a) 2)]) ∧ Ext w w' := by
  obtain ⟨ba, bb, bc, bd⟩ := Rg_bd h
  go_enter Try.func47, Try.ntmps47
  go_wp2_with fail
  refine (l1Root_any _ _ _ _ h _).mono ?_
  rintro e w1 ⟨rfl, hx1⟩
  obtain ⟨hc1, hf1⟩ := hx1.cells
  have hz1 := hx1.size
  try simp at hz1
  have hs1_0 := sz2 (a := w.heap.size) (b := w1.heap.size) (by omega)
  go_wp2
  refine bodyPost_ret (v := .agg #[.int .i64 (Int.tdiv (b - d) 2), .int .i64 (Int.tdiv (a + c) 2), .int .i64 (Int.tdiv (b + d) 2), .int .i64 (Int.tdiv (c - a) 2)]) (by simp [results, Try.results47, go_sem, *]) rfl ⟨rfl, ?_⟩
  exact (by repeat (first | (with_reducible refine Ext.setCell ?_ (by first | (simp; done) | (simp; omega)) _) | with_reducible refine Ext.alloc ?_ _ | with_reducible refine Ext.drew ?_ | with_reducible refine Ext.drewN ?_ _ | with_reducible assumption | with_reducible exact Ext.refl _ | with_reducible refine Ext.trans ?_ (by with_reducible assumption)))

theorem eqDyadic_same (a b c d k : Int) (w : World) :
    Calls Try.prog 33 #[.agg #[.int .i64 a, .int .i64 b, .int .i64 c, .int .i64 d, .int .i64 k], .agg #[.int .i64 a, .int .i64 b, .int .i64 c, .int .i64 d, .int .i64 k]] w fun e w' => e = .returned (.bool true) ∧ Ext w w' := by
  go_enter Try.func33, Try.ntmps33
  go_wp2
  go_ret
  exact ⟨rfl, (by repeat (first | exact Ext.refl _ | assumption | refine Ext.alloc ?_ _ | refine Ext.drew ?_ | refine Ext.drewN ?_ _ | refine Ext.setCell ?_ (by first | omega | (dsimp only; omega) | (simp; done) | (simp; omega)) _ | refine Ext.trans ?_ (by assumption)))⟩

end Go.Proofs.Ytlaajkdhegkpdaa
