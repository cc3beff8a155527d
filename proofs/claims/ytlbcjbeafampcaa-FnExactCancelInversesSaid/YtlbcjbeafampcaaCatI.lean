/- slices.Grow of nil and slices.Concat, at int. -/
import Derived.Test.YtlbcjbeafampcaaLs
import Derived.Lib.AppendZeros
import Derived.Test.YtlbcjbeafampcaaCatG
namespace Go.Proofs.Ytlbcjbeafampcaa
open Go.RowKit Go.Lib
set_option linter.unusedVariables false
set_option linter.unusedSimpArgs false

theorem elt_CI : Elt Try.prog 41 3 1 8 := elt_of (z := .int .i64 0) Try.underlying41 (by kernel_rfl) rfl (by decide) (by decide)

theorem own_roomI {w : World} {e : TypeId} {k cap : Nat} {cs : Array Value} (hm : cap ≤ maxLen) (hs : cs.size = cap * k) : (w.alloc (.cells cs e)).ownsRow w.heap.size e k (.slice (some ⟨w.heap.size, 0, none⟩) 0 cap) 0 [] :=
  ⟨by simp, .inr ⟨w.heap.size, cap, cs, rfl, Nat.le_refl _, heap_alloc_new w _, Nat.zero_le _, hm, hs, by simp⟩⟩

end Go.Proofs.Ytlbcjbeafampcaa
