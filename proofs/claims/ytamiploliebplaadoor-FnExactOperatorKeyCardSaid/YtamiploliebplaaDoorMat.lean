/- Matrices: whether they are equal, marking them, whether a mark holds. -/
import Derived.Test.YtamiploliebplaaDoorSlDyadic
namespace Go.Proofs.YtamiploliebplaaDoor
open Go.RowKit Go.Lib
set_option linter.unusedVariables false
set_option linter.unusedSimpArgs false

theorem eqMatrix_same (r c : Int) {n b1 b2 : Nat} {v1 v2 : Value} {xs : List Int} (hl : xs.length = n * 5) (hn : n ≤ 1000000) (w : World) (h1 : w.ownsRow b1 46 5 v1 n (IL xs)) (h2 : w.ownsRow b2 46 5 v2 n (IL xs)) :
    Calls Tryd.prog 9 #[.agg #[.int .i64 r, .int .i64 c, v1], .agg #[.int .i64 r, .int .i64 c, v2]] w fun e w' => e = .returned (.bool true) ∧ Ext w w' := by
  have HE := fun w' (hx : Ext w w') => Lib.hid (eqDyadicS_same hl (by omega) w' (own_ext h1 hx) (own_ext h2 hx))
  obtain ⟨a1, cp1, rfl, q1, q2, q3⟩ := own_shape h1
  obtain ⟨a2, cp2, rfl, q4, q5, q6⟩ := own_shape h2
  clear q3 q6 h1 h2
  go_enter Tryd.func9, Tryd.ntmps9
  go_wp2_with fail
  refine (HE _ (by repeat (first | exact Ext.refl _ | assumption | refine Ext.alloc ?_ _ | refine Ext.drew ?_ | refine Ext.drewN ?_ _ | refine Ext.setCell ?_ (by first | omega | (dsimp only; omega) | (simp; done) | (simp; omega)) _ | refine Ext.trans ?_ (by assumption)))).out.mono ?_
  rintro e w1 ⟨rfl, hx1⟩
  obtain ⟨hc1, hf1⟩ := hx1.cells
  have hz1 := hx1.size
  try simp at hz1
  have hs1_0 := sz2 (a := w.heap.size) (b := w1.heap.size) (by omega)
  go_wp2
  go_ret
  exact ⟨rfl, (by repeat (first | exact Ext.refl _ | assumption | refine Ext.alloc ?_ _ | refine Ext.drew ?_ | refine Ext.drewN ?_ _ | refine Ext.setCell ?_ (by first | omega | (dsimp only; omega) | (simp; done) | (simp; omega)) _ | refine Ext.trans ?_ (by assumption)))⟩

end Go.Proofs.YtamiploliebplaaDoor
