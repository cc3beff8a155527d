/- matrixOf: the loops that gather the cells. -/
import Derived.Test.YtamiploliebplaaDoorHasM
import Derived.Test.YtamiploliebplaaDoorSlB
import Derived.Test.YtamiploliebplaaDoorWr
namespace Go.Proofs.YtamiploliebplaaDoor
open Go.RowKit
set_option linter.unusedVariables false
set_option linter.unusedSimpArgs false

/-- the cells, one after the other -/
def moL (X : Nat → R4) (E : Nat → Int) : Nat → List Int
  | 0 => []
  | n + 1 => moL X E n ++ [(X n).a, (X n).b, (X n).c, (X n).d, E n]
theorem moL_len (X : Nat → R4) (E : Nat → Int) : ∀ n, (moL X E n).length = n * 5
  | 0 => rfl
  | n + 1 => by rw [moL, List.length_append, moL_len X E n]; simp; omega
theorem moL_succ (X : Nat → R4) (E : Nat → Int) (n : Nat) : IL (moL X E (n + 1)) = IL (moL X E n) ++ [.int .i64 (X n).a, .int .i64 (X n).b, .int .i64 (X n).c, .int .i64 (X n).d, .int .i64 (E n)] := by
  simp [moL, IL]
theorem moL_congr {X Y : Nat → R4} {E F : Nat → Int} : ∀ {n : Nat}, (∀ k, k < n → X k = Y k ∧ E k = F k) → moL X E n = moL Y F n
  | 0, _ => rfl
  | n + 1, h => by
    obtain ⟨h1, h2⟩ := h n (by omega)
    rw [moL, moL, moL_congr (n := n) (fun k hk => h k (by omega)), h1, h2]

def ifN (b : Bool) (n : Nat) : Nat := if b then n else 0
def ifL (b : Bool) (l : List Int) : List Int := if b then l else []
theorem ifNL_len (b : Bool) {n : Nat} {l : List Int} (h : l.length = n * 5) : (ifL b l).length = ifN b n * 5 := by
  cases b
  · rfl
  · exact h
theorem ifN_le (b : Bool) (n : Nat) : ifN b n ≤ n := by
  cases b
  · exact Nat.zero_le _
  · exact Nat.le_refl _
/-- the state of the loops: the matrix in its box, its cells a row of its own -/
structure MR (r c : Int) (w : World) (L : List Int) (k : Nat) (v : Value) (wr : World) : Prop where
  own : wr.ownsRow (w.heap.size + 2) 46 5 v k (IL L)
  res : wr.heap[w.heap.size]? = some (.cells #[.int .i64 0, .int .i64 0, .slice none 0 0] 30 (0, 0))
  out : wr.heap[w.heap.size + 1]? = some (.cells #[.int .i64 r, .int .i64 c, v] 30 (0, 0))
  ext : Ext w wr
theorem MR.lt {r c : Int} {w : World} {L : List Int} {k : Nat} {v : Value} {wr : World} (h : MR r c w L k v wr) : w.heap.size + 1 < wr.heap.size := (Array.getElem?_eq_some_iff.1 h.out).1
theorem MR.keep {r c : Int} {w : World} {L : List Int} {k : Nat} {v : Value} {wr wr' : World} (h : MR r c w L k v wr) (hx : Ext wr wr') : MR r c w L k v wr' :=
  ⟨own_ext h.own hx, (hx.heap (by have := h.lt; omega)).trans h.res, (hx.heap h.lt).trans h.out, h.ext.trans hx⟩
theorem MR.step {r c : Int} {w : World} {L L' : List Int} {k k' : Nat} {v v' : Value} {wr wa wb : World} (h : MR r c w L k v wr) (hx : Ext wr wa) (hg : wa.grownBy wb v.ownBlock) (hown : wb.ownsRow (w.heap.size + 2) 46 5 v' k' (IL L')) :
    MR r c w L' k' v' (wb.setCell ⟨w.heap.size + 1, 2, none⟩ v') := by
  have hl := h.lt
  have hs := hx.size
  have hb : ∀ j, v.ownBlock = some j → w.heap.size + 2 ≤ j := fun j hj => (h.own.lt j hj).1
  refine ⟨own_set hown (by simp) _, heap_set_ne (by simp) ((hg.block _ (by omega) (fun e => by have := hb _ e.symm; omega)).trans ((hx.heap (by omega)).trans h.res)), ?_, Ext.setCell (Ext.grown (h.ext.trans hx) hg (fun j hj => by have := hb j hj; omega)) (by simp) _⟩
  exact heap_set_at ((hg.block _ (by omega) (fun e => by have := hb _ e.symm; omega)).trans ((hx.heap (by omega)).trans h.out)) 2 v'

end Go.Proofs.YtamiploliebplaaDoor
