/- Certificates: marks on steps, what is held of them, copies. -/
import Derived.Test.YtgefamclfjoogaaDoorCgL
import Derived.Test.YtgefamclfjoogaaDoorCertT
namespace Go.Proofs.YtgefamclfjoogaaDoor
open Go.RowKit Go.Lib
set_option linter.unusedVariables false
set_option linter.unusedSimpArgs false

theorem set_int {zs : List Value} {p q b : Nat} {kd : IntKind} {t : Int} {x : Value} (h : (zs.set p (.int kd t))[q]? = some x) (hb : x.ownBlock = some b) : zs[q]? = some x := by
  by_cases e : p = q
  · subst e
    rw [List.getElem?_set] at h
    simp only [if_true] at h
    split at h
    · have h2 : Value.int kd t = x := by simpa using h
      rw [← h2] at hb
      simp [Value.ownBlock] at hb
    · cases h
  · rwa [List.getElem?_set_ne e] at h
theorem own_z {w : World} {base lo hi : Nat} {e : TypeId} {k : Nat} {v : Value} {n : Nat} {xs : List Value} (h : w.ownsRow base e k v n xs) (hz : ∀ g, v.ownBlock = some g → lo ≤ g ∧ g < hi) : w.ownsRow lo e k v n xs := by
  refine ⟨h.1, ?_⟩
  rcases h.2 with hn | ⟨g, cap, cur, hv, hb, r⟩
  · exact .inl hn
  · exact .inr ⟨g, cap, cur, hv, (hz g (by rw [hv]; rfl)).1, r⟩

end Go.Proofs.YtgefamclfjoogaaDoor
