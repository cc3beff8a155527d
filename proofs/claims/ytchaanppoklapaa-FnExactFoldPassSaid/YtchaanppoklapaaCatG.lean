/- slices.Grow of nil and slices.Concat, at impl.Gate. -/
import Derived.Test.YtchaanppoklapaaLs
import Derived.Lib.AppendZeros
namespace Go.Proofs.Ytchaanppoklapaa
open Go.RowKit Go.Lib
set_option linter.unusedVariables false
set_option linter.unusedSimpArgs false

/-- sums and joins of the first -/
def sumN (N : Nat → Nat) : Nat → Nat
  | 0 => 0
  | n + 1 => sumN N n + N n
def catX (X : Nat → List Int) : Nat → List Int
  | 0 => []
  | n + 1 => catX X n ++ X n
theorem sumN_le {N : Nat → Nat} {c : Nat} : ∀ {n : Nat}, (∀ i, i < n → N i ≤ c) → sumN N n ≤ n * c
  | 0, _ => by simp [sumN]
  | n + 1, h => by
    have h1 := sumN_le (n := n) (fun i hi => h i (by omega))
    have h2 := h n (by omega)
    unfold sumN
    rw [Nat.succ_mul]
    omega

theorem elt_CG : Elt Try.prog 29 72 3 24 := elt_of (z := .agg #[.int .i64 0, .int .i64 0, .int .i64 0]) Try.underlying29 (by kernel_rfl) rfl (by decide) (by decide)

theorem own_room {w : World} {e : TypeId} {k cap : Nat} {cs : Array Value} (hm : cap ≤ maxLen) (hs : cs.size = cap * k) : (w.alloc (.cells cs e)).ownsRow w.heap.size e k (.slice (some ⟨w.heap.size, 0, none⟩) 0 cap) 0 [] :=
  ⟨by simp, .inr ⟨w.heap.size, cap, cs, rfl, Nat.le_refl _, heap_alloc_new w _, Nat.zero_le _, hm, hs, by simp⟩⟩

end Go.Proofs.Ytchaanppoklapaa
