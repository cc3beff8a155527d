/- Matrices with up to two million cells: equality, marks. -/
import Derived.Test.YtamiploliebplaaDoorMat
import Derived.Test.YtamiploliebplaaDoorWro
namespace Go.Proofs.YtamiploliebplaaDoor
open Go.RowKit Go.Lib
set_option linter.unusedVariables false
set_option linter.unusedSimpArgs false

theorem eqMatrix_big (r c : Int) {n b1 b2 : Nat} {v1 v2 : Value} {xs : List Int} (hl : xs.length = n * 5) (hn : n ≤ 2000000) (w : World) (h1 : w.ownsRow b1 46 5 v1 n (IL xs)) (h2 : w.ownsRow b2 46 5 v2 n (IL xs)) :
    Calls Tryd.prog 9 #[.agg #[.int .i64 r, .int .i64 c, v1], .agg #[.int .i64 r, .int .i64 c, v2]] w fun e w' => e = .returned (.bool true) ∧ Ext w w' := by
  have HE := fun w' (hx : Ext w w') => Lib.hid (eqDyadicS_same hl (by omega) w' (own_ext h1 hx) (own_ext h2 hx))
  obtain ⟨a1, cp1, rfl, q1, q2, q3⟩ := own_shape h1
  obtain ⟨a2, cp2, rfl, q4, q5, q6⟩ := own_shape h2
  clear q3 q6 h1 h2
  go_enter Tryd.func9, Tryd.ntmps9
  go_wp2_with fail
  refine (HE _ (by repeat (first | exact Ext.refl _ | assumption | refine Ext.alloc ?_ _ | refine Ext.drew ?_ | refine Ext.drewN ?_ _ | refine Ext.setCell ?_ (by first | omega | (dsimp only; omega) | (simp; done) | (simp; omega)) _ | refine Ext.trans ?_ (by assumption)))).out.mono ?_
  rintro e w1 ⟨rfl, hx1⟩
  obtain ⟨hc1, hf1⟩ := hx1.cells
  have hz1 := hx1.size
  try simp at hz1
  have hs1_0 := sz2 (a := w.heap.size) (b := w1.heap.size) (by omega)
  go_wp2
  go_ret
  exact ⟨rfl, (by repeat (first | exact Ext.refl _ | assumption | refine Ext.alloc ?_ _ | refine Ext.drew ?_ | refine Ext.drewN ?_ _ | refine Ext.setCell ?_ (by first | omega | (dsimp only; omega) | (simp; done) | (simp; omega)) _ | refine Ext.trans ?_ (by assumption)))⟩

theorem heap_set3 {w : World} {g : Nat} {t : TypeId} {a b c x y z : Value} (h : w.heap[g]? = some (.cells #[a, b, c] t (0, 0))) : (((w.setCell ⟨g, 0, none⟩ x).setCell ⟨g, 1, none⟩ y).setCell ⟨g, 2, none⟩ z).heap[g]? = some (.cells #[x, y, z] t (0, 0)) :=
  heap_set_at (heap_set_at (heap_set_at h 0 x) 1 y) 2 z
theorem heap_keep {W W' : World} {k : Nat} {x : Obj} (hx : Ext W W') (h : W.heap[k]? = some x) : W'.heap[k]? = some x := (hx.heap (Array.getElem?_eq_some_iff.1 h).1).trans h
theorem heap_far {W W' : World} {row : Option Nat} {k : Nat} {x : Obj} (hg : W.grownBy W' row) (h : W.heap[k]? = some x) (hne : ∀ j, row = some j → j ≠ k) : W'.heap[k]? = some x :=
  (hg.block k (Array.getElem?_eq_some_iff.1 h).1 (fun e => hne k e.symm rfl)).trans h
theorem own_far {w w' : World} {base : Nat} {e : TypeId} {size : Nat} {v : Value} {n : Nat} {xs : List Value} {row : Option Nat} (h : w.ownsRow base e size v n xs) (hg : w.grownBy w' row) (hne : ∀ j, row = some j → ∀ k, v.ownBlock = some k → j ≠ k) : w'.ownsRow base e size v n xs := by
  refine h.kept hg ?_
  cases hv : v.ownBlock with
  | none => exact .inl rfl
  | some k => exact .inr fun he => hne k he.symm k hv rfl

end Go.Proofs.YtamiploliebplaaDoor
