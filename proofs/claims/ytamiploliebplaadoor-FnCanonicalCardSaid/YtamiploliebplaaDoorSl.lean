/- Slices of structs of ints: marks. -/
import Derived.Test.YtamiploliebplaaDoorOwn
namespace Go.Proofs.YtamiploliebplaaDoor
open Go.RowKit

def IL (xs : List Int) : List Value := xs.map (.int .i64)
theorem il_get {xs : List Int} {k : Nat} (h : k < xs.length) : (IL xs)[k]? = some (.int .i64 xs[k]) := by simp [IL, h]
theorem il_length (xs : List Int) : (IL xs).length = xs.length := by simp [IL]
/-- m, m + 1, .. -/
def marks (m : Int) (N : Nat) : List Int := (List.range N).map fun (i : Nat) => m + (i : Int)
theorem marks_length (m : Int) (N : Nat) : (marks m N).length = N := by simp [marks]
theorem marks_get {m : Int} {N k : Nat} (h : k < N) : (IL (marks m N))[k]? = some (.int .i64 (m + k)) := by simp [IL, marks, h]
/-- the first k are marked -/
def MK (zs : List Value) (m : Int) (k : Nat) : Prop := ∀ j, j < k → zs[j]? = some (.int .i64 (m + j))
theorem MK.zero (zs : List Value) (m : Int) (sz : Nat) : MK zs m (0 * sz) := by intro j hj; simp at hj
theorem MK.snoc {zs : List Value} {m x : Int} {k k' i : Nat} (h : MK zs m k) (hk : k < zs.length) (hi : i = k) (hx : x = m + k) (hk' : k' = k + 1) : MK (zs.set i (.int .i64 x)) m k' := by
  subst hi; subst hx; subst hk'
  intro j hj
  rw [List.getElem?_set]
  split
  · rename_i e; subst e; first | rw [if_pos hk] | rfl
  · exact h j (by omega)
theorem MK.full {zs : List Value} {m : Int} {k : Nat} (h : MK zs m k) (hl : zs.length = k) : zs = IL (marks m k) := by
  apply List.ext_getElem?
  intro j
  by_cases hj : j < k
  · rw [h j hj, marks_get hj]
  · rw [List.getElem?_eq_none (by omega), List.getElem?_eq_none (by rw [il_length, marks_length]; omega)]
theorem own_at {w : World} {b g n cap N : Nat} {t : TypeId} {size : Nat} {zs : List Value} (h : w.ownsRow b t size (.slice (some ⟨g, 0, none⟩) n cap) n zs) (hl : zs.length = N) {k : Nat} (hk : k < N) : ∃ u, w.cell? ⟨g, k, none⟩ = some u := by
  have hz : ∃ u, zs[k]? = some u := ⟨zs[k]'(by omega), by simp⟩
  obtain ⟨u, hu⟩ := hz
  refine ⟨u, ?_⟩
  have := h.cells (g := g) rfl k u hu
  rwa [show (⟨g, 0, none⟩ : Addr).add k = ⟨g, k, none⟩ by unfold Addr.add; split <;> simp_all] at this

end Go.Proofs.YtamiploliebplaaDoor
