/- Draws: some number comes, nothing that was there is changed. -/
import Derived.Test.YtamiploliebplaaDoorCur
import Derived.Test.YtamiploliebplaaDoorArg
namespace Go.Proofs.YtamiploliebplaaDoor
open Go.RowKit Go.Lib
set_option linter.unusedVariables false
set_option linter.unusedSimpArgs false

theorem lit_cells {w : World} {t : TypeId} (xs : List Int) : ∀ i, i < xs.length → (w.alloc (.cells (xs.map (Value.int .i64)).toArray t)).cell? ⟨w.heap.size, i, none⟩ = some (.int .i64 (xs.getD i 0)) := by
  intro i hi
  rw [World.cell?_alloc_at _ _ _ _ rfl]
  simp [hi]
/-- a cursor that was made -/
theorem cu_new {w : World} {v : Value} {n : Nat} (h : BY w.heap.size w v n) : CU w.heap.size v n 0 (w.alloc (.cells #[v, .int .i64 0, .int .u64 0] 57)) :=
  ⟨h.gx (Nat.le_refl _) (GX.ofExt (S := []) ((Ext.refl w).alloc _)) (by simp), 0, heap_alloc_new _ _⟩
theorem BY.later {w w' : World} {v : Value} {n : Nat} (h : BY w.heap.size w v n) (hx : Ext w w') : BY w'.heap.size w' v n := by
  obtain ⟨a, cap, h1, h2, h3, h4⟩ := h.gx (Nat.le_refl _) (GX.ofExt (S := []) hx) (by simp)
  refine ⟨a, cap, h1, h2, h3, fun h0 => ?_⟩
  obtain ⟨b, off, e, hb, hc⟩ := h4 h0
  exact ⟨b, off, e, by have := hx.size; omega, hc⟩
theorem CU.keep {B : Nat} {v : Value} {n : Nat} {a : Int} {w w' : World} (h : CU B v n a w) (hx : Ext w w') : CU B v n a w' := by
  obtain ⟨h1, s, h2⟩ := h
  have hl := (Array.getElem?_eq_some_iff.1 h2).1
  exact ⟨h1.gx (by omega) (GX.ofExt (S := []) hx) (by simp), s, (hx.heap hl).trans h2⟩
theorem CU.lt {B : Nat} {v : Value} {n : Nat} {a : Int} {w : World} (h : CU B v n a w) : B < w.heap.size := by
  obtain ⟨_, s, h2⟩ := h
  exact (Array.getElem?_eq_some_iff.1 h2).1

end Go.Proofs.YtamiploliebplaaDoor
