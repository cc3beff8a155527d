/- The sign of u + v sqrt 2 as the reference reckons it; comparisons; ranges. -/
import Derived.Test.YtamiploliebplaaDoorRows
import Derived.Test.YtamiploliebplaaDoorRoot2
namespace Go.Proofs.YtamiploliebplaaDoor
open Go.RowKit

theorem S2_eq {u v k : Int} (h : (0 ≤ u ∧ 0 ≤ v ∧ 0 < u + v ∧ k = 1) ∨ (u ≤ 0 ∧ v ≤ 0 ∧ u + v < 0 ∧ k = -1) ∨ (0 ≤ u ∧ u ≤ 0 ∧ 0 ≤ v ∧ v ≤ 0 ∧ k = 0) ∨
    (0 < u ∧ v < 0 ∧ k = sg (u * u - 2 * v * v)) ∨ (u < 0 ∧ 0 < v ∧ k = - sg (u * u - 2 * v * v))) : S2 u v = k := by
  rcases h with h | h | h | ⟨h1, h2, h3⟩ | ⟨h1, h2, h3⟩
  · rw [S2_same _ _ (.inl ⟨h.1, h.2.1⟩), sg_pos h.2.2.1]; exact h.2.2.2.symm
  · rw [S2_same _ _ (.inr ⟨h.1, h.2.1⟩), sg_neg h.2.2.1]; exact h.2.2.2.symm
  · obtain rfl : u = 0 := by omega
    obtain rfl : v = 0 := by omega
    rw [h.2.2.2.2]; rfl
  · rw [S2_pos _ _ h1 h2, h3]; omega
  · rw [S2_neg _ _ h1 h2, h3]; omega

def cmpV (p q r s : Int) : Int := if R2 p q && R2 r s then S2 (p - r) (q - s) else 0

end Go.Proofs.YtamiploliebplaaDoor
