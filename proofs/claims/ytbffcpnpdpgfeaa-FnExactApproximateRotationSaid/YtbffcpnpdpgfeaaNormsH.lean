/- Lists of numbers in memory: the reference's walk. -/
import Derived.Test.YtbffcpnpdpgfeaaNormL
import Derived.Test.YtbffcpnpdpgfeaaNorms
import Derived.Test.YtbffcpnpdpgfeaaRing
import Derived.Test.YtbffcpnpdpgfeaaOwn
import Derived.Test.YtbffcpnpdpgfeaaMade
namespace Go.Proofs.Ytbffcpnpdpgfeaa
open Go.RowKit
set_option linter.unusedVariables false
set_option linter.unusedSimpArgs false

theorem info_ring : (Try.prog.info? 33).map (fun i => (i.zero, i.size, i.bytes)) = some (some (.agg #[.int .i64 0, .int .i64 0, .int .i64 0, .int .i64 0]), 4, 32) := by kernel_rfl

theorem rg_small {a b c d : Int} (ha : -20 ≤ a ∧ a ≤ 20) (hb : -20 ≤ b ∧ b ≤ 20) (hc : -20 ≤ c ∧ c ≤ 20) (hd : -20 ≤ d ∧ d ≤ 20) : Rg a b c d = true := by
  simp [Rg, Cf, Wn]; omega
/-- the list so far -/
def RL (w wr : World) (ul : Value) (pre : List (Int × Int × Int × Int)) (P Q : Int) : Prop :=
  wr.ownsRow (w.heap.size + 1) 33 4 ul pre.length (flat4 pre) ∧ Ext w wr ∧ wr.heap[w.heap.size]? = some (.cells #[.int .i64 P, .int .i64 Q] 53 (0, 0))
theorem RL.start (w : World) (P Q : Int) : RL w (w.alloc (.cells #[.int .i64 P, .int .i64 Q] 53)) (.slice none 0 0) [] P Q := ⟨own_nil _ _ _ _, (Ext.refl w).alloc _, heap_alloc_new _ _⟩
theorem RL.ext {w wr wr' : World} {ul : Value} {pre : List (Int × Int × Int × Int)} {P Q : Int} (h : RL w wr ul pre P Q) (hx : Ext wr wr') : RL w wr' ul pre P Q :=
  ⟨own_ext h.1 hx, h.2.1.trans hx, (hx.heap (Array.getElem?_eq_some_iff.1 h.2.2).1).trans h.2.2⟩
theorem RL.app {w w2 w3 : World} {ul v3 : Value} {pre : List (Int × Int × Int × Int)} {P Q : Int} {o : Obj} {a b c d : Int} (h : RL w w2 ul pre P Q) (h3 : w3.ownsRow (w.heap.size + 1) 33 4 v3 (pre.length + 1) (flat4 pre ++ [.int .i64 a, .int .i64 b, .int .i64 c, .int .i64 d])) (hg : (w2.alloc o).grownBy w3 ul.ownBlock) : RL w w3 v3 (pre ++ [(a, b, c, d)]) P Q := by
  refine ⟨by rw [flat4_snoc]; simpa using h3, Ext.grown (h.2.1.alloc o) hg fun k hk => by have := (h.1.lt k hk).1; omega, ?_⟩
  have hX := (((Ext.refl w2).alloc o).heap (Array.getElem?_eq_some_iff.1 h.2.2).1).trans h.2.2
  exact (hg.block w.heap.size (Array.getElem?_eq_some_iff.1 hX).1 (fun e => by have := (h.1.lt w.heap.size e.symm).1; omega)).trans hX
theorem keep_block {w2 w3 : World} {ul : Value} {o o' : Obj} {A : Nat} (hg : (w2.alloc o).grownBy w3 ul.ownBlock) (hA : w2.heap[A]? = some o') (hne : ∀ k, ul.ownBlock = some k → k ≠ A) : w3.heap[A]? = some o' := by
  have hX := (((Ext.refl w2).alloc o).heap (Array.getElem?_eq_some_iff.1 hA).1).trans hA
  exact (hg.block A (Array.getElem?_eq_some_iff.1 hX).1 (fun e => hne A e.symm rfl)).trans hX
/-- what is left of the last parts -/
def remA (P Q a b c e r : Int) : Nat → List (Int × Int × Int × Int)
  | 0 => eL P Q a b c e ++ if r = 0 then [] else eL P Q a b c r
  | 1 => if r = 0 then [] else eL P Q a b c r
  | _ => []
/-- nothing so far -/
def RF (w wr : World) (ul : Value) (P Q : Int) : Prop :=
  ul = .slice none 0 0 ∧ Ext w wr ∧ wr.heap[w.heap.size]? = some (.cells #[.int .i64 P, .int .i64 Q] 53 (0, 0))
theorem RF.start (w : World) (P Q : Int) : RF w (w.alloc (.cells #[.int .i64 P, .int .i64 Q] 53)) (.slice none 0 0) P Q := ⟨rfl, (Ext.refl w).alloc _, heap_alloc_new _ _⟩
theorem RF.ext {w wr wr' : World} {ul : Value} {P Q : Int} (h : RF w wr ul P Q) (hx : Ext wr wr') : RF w wr' ul P Q :=
  ⟨h.1, h.2.1.trans hx, (hx.heap (Array.getElem?_eq_some_iff.1 h.2.2).1).trans h.2.2⟩

end Go.Proofs.Ytbffcpnpdpgfeaa
