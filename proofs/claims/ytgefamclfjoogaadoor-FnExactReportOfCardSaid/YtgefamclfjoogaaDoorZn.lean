/- Marks on data of two slices. -/
import Derived.Test.YtgefamclfjoogaaDoorCirM
import Derived.Test.YtgefamclfjoogaaDoorCopy
namespace Go.Proofs.YtgefamclfjoogaaDoor
open Go.RowKit Go.Lib
set_option linter.unusedVariables false
set_option linter.unusedSimpArgs false

theorem heap_dr {w : World} {k : Nat} {x : Option Obj} (h : w.heap[k]? = x) : w.drew.heap[k]? = x := h
/-- nothing but blocks from lo up to hi has changed -/
structure Zn (lo hi : Nat) (w w' : World) : Prop where
  os : w'.os = w.os
  tape : w'.tape = w.tape
  output : w'.output = w.output
  size : w.heap.size ≤ w'.heap.size
  blk : ∀ k, k < w.heap.size → (k < lo ∨ hi ≤ k) → w'.heap[k]? = w.heap[k]?
theorem Zn.ofExt {lo hi : Nat} {w w' : World} (h : Ext w w') : Zn lo hi w w' := by
  have h' : Below w.heap.size w w' := h
  exact ⟨h'.os, h'.tape, h'.output, h'.size, fun k hk _ => h'.block k hk⟩
theorem Zn.trans {lo hi : Nat} {a b c : World} (h : Zn lo hi a b) (k : Zn lo hi b c) : Zn lo hi a c :=
  ⟨k.os.trans h.os, k.tape.trans h.tape, k.output.trans h.output, Nat.le_trans h.size k.size, fun i hi' hx => (k.blk i (Nat.lt_of_lt_of_le hi' h.size) hx).trans (h.blk i hi' hx)⟩
theorem Zn.ofGrown {lo hi : Nat} {w w' : World} {row : Option Nat} (h : w.grownBy w' row) (hr : ∀ k, row = some k → lo ≤ k ∧ k < hi) : Zn lo hi w w' := by
  have hg := h
  refine ⟨hg.os, hg.tape, hg.output, hg.size, fun k hk hx => hg.block k hk (fun e => ?_)⟩
  have := hr k e.symm
  omega
theorem Ext.zn {lo hi : Nat} {a b c : World} (h : Ext a b) (hz : Zn lo hi b c) (hl : a.heap.size ≤ lo) : Ext a c := by
  have h' : Below a.heap.size a b := h
  exact ⟨hz.os.trans h'.os, hz.tape.trans h'.tape, hz.output.trans h'.output, Nat.le_trans h'.size hz.size, fun k hk => (hz.blk k (Nat.lt_of_lt_of_le hk h'.size) (.inl (by omega))).trans (h'.block k hk)⟩
theorem heap_zn {lo hi : Nat} {W W' : World} {k : Nat} {x : Obj} (hz : Zn lo hi W W') (h : W.heap[k]? = some x) (hne : k < lo ∨ hi ≤ k) : W'.heap[k]? = some x :=
  (hz.blk k (Array.getElem?_eq_some_iff.1 h).1 hne).trans h
theorem own_zn {lo hi : Nat} {w w' : World} {base : Nat} {e : TypeId} {size : Nat} {v : Value} {n : Nat} {xs : List Value} (h : w.ownsRow base e size v n xs) (hz : Zn lo hi w w') (hne : ∀ k, v.ownBlock = some k → k < lo ∨ hi ≤ k) : w'.ownsRow base e size v n xs := by
  refine ⟨h.1, ?_⟩
  rcases h.2 with hn | ⟨g, cap, cur, hv, hb, hg, r⟩
  · exact .inl hn
  · exact .inr ⟨g, cap, cur, hv, hb, heap_zn hz hg (hne g (by rw [hv]; rfl)), r⟩

end Go.Proofs.YtgefamclfjoogaaDoor
