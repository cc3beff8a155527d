/- Draws of grids. -/
import Derived.Test.YtbffcpnpdpgfeaaDrw
import Derived.Test.YtbffcpnpdpgfeaaByt
namespace Go.Proofs.Ytbffcpnpdpgfeaa
open Go.RowKit Go.Lib
set_option linter.unusedVariables false
set_option linter.unusedSimpArgs false

theorem CU.set' {B : Nat} {v : Value} {n : Nat} {a : Int} {w : World} (h : CU B v n a w) {p : Addr} (hp : B < p.block) (u : Value) : CU B v n a (w.setCell p u) := by
  have hl := h.lt
  obtain ⟨h1, s, h2⟩ := h
  exact ⟨h1.gx (by omega) ((GX.refl [p.block] w).setCell (.inl (by simp)) u) (by simp; omega), s, heap_set_ne (by omega) h2⟩
theorem CU.box' {B : Nat} {v : Value} {n : Nat} {a : Int} {w : World} (h : CU B v n a w) (o : Obj) : CU B v n a (w.alloc o) := h.keep ((Ext.refl w).alloc o)
/-- a box laid ahead of a cursor's call stands -/
theorem box_kept' {B : Nat} {w w' : World} {c : Array Value} {t : TypeId} (hl : B < w.heap.size) (h : GX [B] (w.alloc (.cells c t)) w') : w'.heap[w.heap.size]? = some (.cells c t (0, 0)) :=
  (h.heap (by simp) (by simp; omega)).trans (heap_alloc_new _ _)
theorem lit_cells' {w : World} {t : TypeId} {N : Nat} (hN : w.heap.size = N) (xs : List Int) : ∀ i, i < xs.length → (w.alloc (.cells (xs.map (Value.int .i64)).toArray t)).cell? ⟨N, i, none⟩ = some (.int .i64 (xs.getD i 0)) := by
  subst hN
  exact lit_cells xs
theorem cu_new1' {w : World} {v : Value} {n : Nat} (h : BY w.heap.size w v n) (o : Obj) : CU (w.heap.size + 1) v n 0 ((w.alloc o).alloc (.cells #[v, .int .i64 0, .int .u64 0] 69)) := by
  have := cu_new (h.later ((Ext.refl w).alloc o))
  rwa [show (w.alloc o).heap.size = w.heap.size + 1 by simp] at this
theorem cu_new2' {w : World} {v : Value} {n : Nat} (h : BY w.heap.size w v n) (o o' : Obj) : CU (w.heap.size + 1 + 1) v n 0 (((w.alloc o).alloc o').alloc (.cells #[v, .int .i64 0, .int .u64 0] 69)) := by
  have := cu_new (h.later (((Ext.refl w).alloc o).alloc o'))
  rwa [show ((w.alloc o).alloc o').heap.size = w.heap.size + 1 + 1 by simp] at this
/-- what is drawn is not too great -/
def B7 (x : Int) : Prop := -10000000 ≤ x ∧ x ≤ 10000000

end Go.Proofs.Ytbffcpnpdpgfeaa
