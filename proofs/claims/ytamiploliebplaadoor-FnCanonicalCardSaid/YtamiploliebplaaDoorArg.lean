/- Slices of structs of ints that can be read: a slice that came in, or one that a call made. -/
import Derived.Test.YtamiploliebplaaDoorRow
import Derived.Test.YtamiploliebplaaDoorSl
import Derived.Deep.Slices
namespace Go.Proofs.YtamiploliebplaaDoor
open Go.RowKit Go.Deep

/-- v is a slice of n elements of k cells, which hold xs -/
def RV (w : World) (k : Nat) (v : Value) (n : Nat) (xs : List Int) : Prop :=
  xs.length = n * k ∧ ∃ (a : Option Addr) (cap : Nat), v = .slice a n cap ∧ n ≤ cap ∧ cap ≤ maxLen ∧
    (0 < n → ∃ b off, a = some ⟨b, off, none⟩ ∧ b < w.heap.size ∧ ∀ j u, (IL xs)[j]? = some u → w.cell? ⟨b, off + j, none⟩ = some u)
theorem RV.ext {w w' : World} {k : Nat} {v : Value} {n : Nat} {xs : List Int} (h : RV w k v n xs) (hx : Ext w w') : RV w' k v n xs := by
  obtain ⟨h1, a, cap, h2, h3, h4, h5⟩ := h
  refine ⟨h1, a, cap, h2, h3, h4, fun hp => ?_⟩
  obtain ⟨b, off, e1, e2, e3⟩ := h5 hp
  exact ⟨b, off, e1, by have := hx.size; omega, fun j u hu => (hx.cells.1 b (off + j) e2).trans (e3 j u hu)⟩
theorem RV.own {w : World} {base : Nat} {e : TypeId} {k : Nat} {v : Value} {n : Nat} {xs : List Int} (h : w.ownsRow base e k v n (IL xs)) (hl : xs.length = n * k) : RV w k v n xs := by
  obtain ⟨a, cap, h1, h2, h3, h4⟩ := own_shape h
  refine ⟨hl, a, cap, h1, h2, h3, fun hp => ?_⟩
  obtain ⟨g, e1, _, e2, e3, _⟩ := h4 hp
  exact ⟨g, 0, e1, e2, fun j u hu => by rw [Nat.zero_add]; exact e3 j u hu⟩
/-- a part of it -/
theorem RV.part {w : World} {k : Nat} {n : Nat} {xs : List Int} {b off cap : Nat} (h : RV w k (.slice (some ⟨b, off, none⟩) n cap) n xs) (i m c : Nat) (him : i + m ≤ n) (hc : m ≤ c) (hm : c ≤ maxLen) :
    RV w k (.slice (some ⟨b, off + i * k, none⟩) m c) m ((xs.drop (i * k)).take (m * k)) := by
  obtain ⟨h1, a, cap, h2, h3, h4, h5⟩ := h
  have hik : i * k + m * k ≤ n * k := by rw [← Nat.add_mul]; exact Nat.mul_le_mul_right k him
  refine ⟨by simp; omega, _, c, rfl, hc, hm, fun hp => ?_⟩
  obtain ⟨b', off', e1, e2, e3⟩ := h5 (by omega)
  rw [e1] at h2
  simp only [Value.slice.injEq, Option.some.injEq, Addr.mk.injEq, and_true, true_and] at h2
  obtain ⟨⟨rfl, rfl⟩, rfl⟩ := h2
  refine ⟨b, off + i * k, rfl, e2, fun j u hu => ?_⟩
  have : (IL xs)[i * k + j]? = some u := by
    simp only [IL, List.map_take, List.map_drop] at hu ⊢
    rw [List.getElem?_take] at hu
    split at hu
    · rw [List.getElem?_drop] at hu; exact hu
    · cases hu
  have := e3 _ _ this
  rwa [← Nat.add_assoc] at this

section
variable {P : Program}
theorem rv_of_shape {w : World} {m n : Nat} {t e : TypeId} {k : Nat} {c : Value} (ht : P.underlying t = some (.slice e)) (he : allInt P m e = true) (hk : P.cellsOf e = k) (hk0 : 0 < k) (hs : Shape P w n t [c]) :
    ∃ (l : Nat) (xs : List Int), RV w k c l xs := by
  cases n with
  | zero => exact hs.elim
  | succ n =>
    unfold Shape at hs
    rw [ht] at hs
    rcases hs with h | ⟨a, len, cap, h, h1, h2, h3⟩
    · injection h with h _
      subst h
      exact ⟨0, [], by simp, none, 0, rfl, Nat.le_refl _, Nat.zero_le _, fun h => absurd h (by omega)⟩
    · injection h with h _
      subst h
      rw [hk] at h3
      have hcell : ∀ j, j < len * k → ∃ x : Int, w.cell? (a.add j) = some (.int .i64 x) := by
        intro j hj
        have hi : j / k < len := Nat.div_lt_of_lt_mul (by rwa [Nat.mul_comm])
        obtain ⟨ecs, e1, e2⟩ := h3 (j / k) hi
        obtain ⟨_, _, e3⟩ := World.cells?_some e1
        obtain ⟨f1, f2⟩ := Shape.cell m n e ecs he e2
        have hr : j % k < k := Nat.mod_lt _ hk0
        obtain ⟨x, hx, _⟩ := f2 (j % k) (by rw [hk]; exact hr)
        refine ⟨x, ?_⟩
        rw [← hx, ← e3 _ hr]
        congr 1
        have hd := Nat.div_add_mod j k
        rw [Nat.mul_comm] at hd
        generalize j / k * k = q at *
        generalize j % k = r at *
        subst hd
        unfold Addr.add
        by_cases h0 : q = 0 <;> by_cases hr0 : r = 0 <;> simp_all [Nat.add_assoc]
      obtain ⟨X, hX⟩ := choose_lt hcell
      refine ⟨len, (List.range (len * k)).map X, by simp, some a, cap, rfl, h1, h2, fun hp => ?_⟩
      have h0 := hX 0 (Nat.mul_pos hp hk0)
      have hadd0 : a.add 0 = a := by unfold Addr.add; simp
      rw [hadd0] at h0
      have hsp : a.spot = none := by
        unfold World.cell? at h0
        split at h0
        · split at h0
          · cases h0
          · rename_i hn; simpa using hn
        · cases h0
      obtain ⟨b, off, sp⟩ := a
      simp only at hsp
      subst hsp
      refine ⟨b, off, rfl, lt_of_cell h0, fun j u hu => ?_⟩
      simp only [IL, List.getElem?_map, Option.map_eq_some_iff] at hu
      obtain ⟨x, ⟨y, hy, rfl⟩, rfl⟩ := hu
      obtain ⟨hj, rfl⟩ := List.getElem?_eq_some_iff.1 hy
      rw [List.length_range] at hj
      rw [List.getElem_range]
      have := hX j hj
      rwa [show (⟨b, off, none⟩ : Addr).add j = ⟨b, off + j, none⟩ by unfold Addr.add; split <;> simp_all] at this
end
end Go.Proofs.YtamiploliebplaaDoor
