/- Slices that a call made: what they hold, and that they keep it. -/
import Derived.Test.YtamiploliebplaaDoorBase
import Derived.Deep.AppendLies
namespace Go.Proofs.YtamiploliebplaaDoor
open Go.RowKit

theorem own_ext {w w' : World} {base : Nat} {e : TypeId} {size : Nat} {v : Value} {n : Nat} {xs : List Value} (h : w.ownsRow base e size v n xs) (hx : Ext w w') : w'.ownsRow base e size v n xs := by
  refine ⟨h.1, ?_⟩
  rcases h.2 with hn | ⟨g, cap, cur, hv, hb, hg, r⟩
  · exact .inl hn
  · exact .inr ⟨g, cap, cur, hv, hb, (hx.heap (Array.getElem?_eq_some_iff.1 hg).1).trans hg, r⟩
theorem own_base {w : World} {base base' : Nat} {e : TypeId} {size : Nat} {v : Value} {n : Nat} {xs : List Value} (h : w.ownsRow base e size v n xs) (hb : base' ≤ base) : w.ownsRow base' e size v n xs := by
  refine ⟨h.1, ?_⟩
  rcases h.2 with hn | ⟨g, cap, cur, hv, hb', r⟩
  · exact .inl hn
  · exact .inr ⟨g, cap, cur, hv, by omega, r⟩
/-- the shape of such a slice -/
theorem own_shape {w : World} {base : Nat} {e : TypeId} {size : Nat} {v : Value} {n : Nat} {xs : List Value} (h : w.ownsRow base e size v n xs) :
    ∃ (a : Option Addr) (cap : Nat), v = .slice a n cap ∧ n ≤ cap ∧ cap ≤ maxLen ∧ (0 < n → ∃ g, a = some ⟨g, 0, none⟩ ∧ base ≤ g ∧ g < w.heap.size ∧ (∀ j u, xs[j]? = some u → w.cell? ⟨g, j, none⟩ = some u) ∧ ∀ j, w.frozen? ⟨g, j, none⟩ = false) := by
  rcases h.2 with ⟨rfl, rfl⟩ | ⟨g, cap, cur, hv, hb, hg, hn, hc, r⟩
  · exact ⟨none, 0, rfl, Nat.le_refl _, Nat.zero_le _, fun h => absurd h (by omega)⟩
  · refine ⟨_, cap, hv, hn, hc, fun hpos => ⟨g, rfl, hb, (Array.getElem?_eq_some_iff.1 hg).1, fun j u hu => ?_, fun j => ?_⟩⟩
    · subst hv
      have := h.cells (g := g) rfl j u hu
      rwa [show (⟨g, 0, none⟩ : Addr).add j = ⟨g, j, none⟩ by unfold Addr.add; split <;> simp_all] at this
    · subst hv
      exact h.frozenAt j
theorem own_set {w : World} {base : Nat} {e : TypeId} {size : Nat} {v : Value} {n : Nat} {xs : List Value} (h : w.ownsRow base e size v n xs) {p : Addr} (hp : p.block < base) (u : Value) : (w.setCell p u).ownsRow base e size v n xs := by
  refine ⟨h.1, ?_⟩
  rcases h.2 with hn | ⟨g, cap, cur, hv, hb, hg, r⟩
  · exact .inl hn
  · exact .inr ⟨g, cap, cur, hv, hb, by rw [Below.heap_setCell _ _ _ _ (by omega)]; exact hg, r⟩
/-- the slice of nothing -/
theorem own_nil (w : World) (base : Nat) (e : TypeId) (size : Nat) : w.ownsRow base e size (.slice none 0 0) 0 [] := ⟨by simp, .inl ⟨rfl, rfl⟩⟩
theorem own_grown {w w' : World} {base g : Nat} {e : TypeId} {size : Nat} {v : Value} {n : Nat} {xs : List Value} {row : Option Nat} (h : w.ownsRow base e size v n xs) (hg : w.grownBy w' row) (hr : ∀ k, row = some k → g ≤ k) (hb : ∀ k, v.ownBlock = some k → k < g) : w'.ownsRow base e size v n xs := by
  refine h.kept hg ?_
  cases hv : v.ownBlock with
  | none => exact .inl rfl
  | some k =>
    refine .inr fun he => ?_
    have h1 := hb k hv
    have h2 := hr k he.symm
    omega
theorem news1 {w : World} {c : Array Value} {t : TypeId} {xs : List Value} (h : c.toList = xs) : ∀ j u, xs[j]? = some u → (w.alloc (.cells c t)).cell? ((⟨w.heap.size, 0, none⟩ : Addr).add j) = some u := by
  intro j u hu
  rw [show (⟨w.heap.size, 0, none⟩ : Addr).add j = ⟨w.heap.size, j, none⟩ by unfold Addr.add; split <;> simp_all]
  rw [World.cell?_alloc_at _ _ _ _ rfl, ← hu, ← h]
  simp
/-- the pairs, cell by cell -/
def flat2 (l : List (Int × Int)) : List Value := l.flatMap fun x => [.int .i64 x.1, .int .i64 x.2]
theorem flat2_snoc (l : List (Int × Int)) (a b : Int) : flat2 (l ++ [(a, b)]) = flat2 l ++ [.int .i64 a, .int .i64 b] := by simp [flat2]
theorem flat2_get (l : List (Int × Int)) : ∀ (k : Nat) (h : k < l.length), (flat2 l)[k * 2]? = some (.int .i64 l[k].1) ∧ (flat2 l)[k * 2 + 1]? = some (.int .i64 l[k].2) := by
  induction l with
  | nil => intro k h; simp at h
  | cons x l ih =>
    intro k h
    cases k with
    | zero => simp [flat2]
    | succ k =>
      have := ih k (by simpa using h)
      rw [show (k + 1) * 2 = k * 2 + 1 + 1 by omega]
      simpa [flat2] using this

end Go.Proofs.YtamiploliebplaaDoor
