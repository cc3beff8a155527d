/- Slices of structs of ints: literals. -/
import Derived.Test.YtamiploliebplaaDoorSl
namespace Go.Proofs.YtamiploliebplaaDoor
open Go.RowKit

theorem own_lit3 {w : World} {N : Nat} (hN : w.heap.size = N) {cs : Array Value} {e : TypeId} {size n : Nat} {xs : List Value} (hm : n ≤ maxLen) (hs : cs.size = n * size) (hx : cs.toList = xs) :
    (w.alloc (.cells cs e)).ownsRow N e size (.slice (some ⟨N, 0, none⟩) n n) n xs := by
  subst hN
  subst hx
  exact World.ownsRow_lit w cs n (Nat.le_refl _) hm hs
theorem news3 {w : World} {c : Array Value} {t : TypeId} {xs : List Value} {N : Nat} (hN : w.heap.size = N) (h : c.toList = xs) : ∀ j u, xs[j]? = some u → (w.alloc (.cells c t)).cell? ((⟨N, 0, none⟩ : Addr).add j) = some u := by
  subst hN
  exact news1 h

end Go.Proofs.YtamiploliebplaaDoor
