/- Draws of numbers of the ring and of dyadic numbers. -/
import Derived.Test.YtbddgeoaaklgpaaCur
import Derived.Test.YtbddgeoaaklgpaaDyL
namespace Go.Proofs.Ytbddgeoaaklgpaa
open Go.RowKit Go.Lib
set_option linter.unusedVariables false
set_option linter.unusedSimpArgs false

theorem CU.set {B : Nat} {v : Value} {n : Nat} {a : Int} {w : World} (h : CU B v n a w) {p : Addr} (hp : B < p.block) (u : Value) : CU B v n a (w.setCell p u) := by
  have hl := h.lt
  obtain ⟨h1, s, h2⟩ := h
  exact ⟨h1.gx (by omega) ((GX.refl [p.block] w).setCell (.inl (by simp)) u) (by simp; omega), s, heap_set_ne (by omega) h2⟩
theorem CU.box {B : Nat} {v : Value} {n : Nat} {a : Int} {w : World} (h : CU B v n a w) (o : Obj) : CU B v n a (w.alloc o) := h.keep ((Ext.refl w).alloc o)
theorem CU.drew {B : Nat} {v : Value} {n : Nat} {a : Int} {w : World} (h : CU B v n a w) : CU B v n a w.drew := h.keep (Ext.refl w).drew
/-- a box laid ahead of a cursor's call stands -/
theorem box_kept {B : Nat} {w w' : World} {c : Array Value} {t : TypeId} (hl : B < w.heap.size) (h : GX [B] (w.alloc (.cells c t)) w') : w'.heap[w.heap.size]? = some (.cells c t (0, 0)) :=
  (h.heap (by simp) (by simp; omega)).trans (heap_alloc_new _ _)

theorem rg_small {a b c d : Int} (h1 : -4 ≤ a ∧ a ≤ 4) (h2 : -4 ≤ b ∧ b ≤ 4) (h3 : -4 ≤ c ∧ c ≤ 4) (h4 : -4 ≤ d ∧ d ≤ 4) : (R4.mk a b c d).rg = true := by
  show Rg a b c d = true
  exact Rg_mk ⟨by omega, by omega, by omega, by omega⟩

end Go.Proofs.Ytbddgeoaaklgpaa
