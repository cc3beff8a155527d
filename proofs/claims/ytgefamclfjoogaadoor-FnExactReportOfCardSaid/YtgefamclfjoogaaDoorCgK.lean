/- Certificates: what the law wants besides. -/
import Derived.Test.YtgefamclfjoogaaDoorCgB
import Derived.Test.YtgefamclfjoogaaDoorCirM
namespace Go.Proofs.YtgefamclfjoogaaDoor
open Go.RowKit Go.Lib
set_option linter.unusedVariables false
set_option linter.unusedSimpArgs false

theorem CV.shape {w : World} {v1 vs v2 : Value} {c : Cv} (h : CV w v1 vs v2 c) : ∃ (a1 a3 a2 : Option Addr) (c1 c3 c2 : Nat), v1 = .slice a1 c.n1 c1 ∧ vs = .slice a3 c.n c3 ∧ v2 = .slice a2 c.n2 c2 := by
  obtain ⟨⟨_, a1, c1, rfl, _, _, _⟩, ⟨a2, c2, rfl, _, _, _⟩, ⟨_, a3, c3, rfl, _, _, _⟩⟩ := h
  exact ⟨a1, a2, a3, c1, c2, c3, rfl, by rw [RL_len], rfl⟩
theorem CZ.set {w : World} {lo hi : Nat} {v1 vs v2 : Value} {c : Cv} (h : CZ w lo hi v1 vs v2 c) {p : Addr} (hp : p.block < lo) (u : Value) : CZ (w.setCell p u) lo hi v1 vs v2 c := by
  obtain ⟨h1, h2, h3, h4, h5, S, h6, h7⟩ := h
  exact ⟨own_set h1 hp u, own_set h2 hp u, h3, h4, h5, S, h6.set hp u, h7⟩
theorem CZ.grown {w w' : World} {lo hi : Nat} {v1 vs v2 : Value} {c : Cv} {row : Option Nat} (h : CZ w lo hi v1 vs v2 c) (hg : w.grownBy w' row) (hne : ∀ j, row = some j → j < lo ∨ hi ≤ j) : CZ w' lo hi v1 vs v2 c := by
  obtain ⟨h1, h2, h3, h4, h5, S, h6, h7⟩ := h
  have hz : Zs (fun k => row = some k) w w' := Zs.ofGrown hg (fun k hk => hk)
  refine ⟨own_zs h1 hz (fun k hk hr => ?_), own_zs h2 hz (fun k hk hr => ?_), h3, h4, h5, S, h6.zs hz (fun k hk hr => ?_), h7⟩
  · have := h3 k hk; have := (h1.lt k hk).1; have := hne k hr; omega
  · have := h4 k hk; have := (h2.lt k hk).1; have := hne k hr; omega
  · have := (h7 k hk).1; have := hne k hr; omega
theorem heap_set5 {w : World} {g : Nat} {t : TypeId} {a b c d e x y z u v : Value} (h : w.heap[g]? = some (.cells #[a, b, c, d, e] t (0, 0))) : (((((w.setCell ⟨g, 0, none⟩ x).setCell ⟨g, 1, none⟩ y).setCell ⟨g, 2, none⟩ z).setCell ⟨g, 3, none⟩ u).setCell ⟨g, 4, none⟩ v).heap[g]? = some (.cells #[x, y, z, u, v] t (0, 0)) :=
  heap_set_at (heap_set_at (heap_set_at (heap_set_at (heap_set_at h 0 x) 1 y) 2 z) 3 u) 4 v
theorem CZ.alloc1 {w : World} {lo hi lo' : Nat} {v1 vs v2 : Value} {c : Cv} {o : Obj} (h : CZ w lo hi v1 vs v2 c) (hl : lo' ≤ lo) (hh : hi ≤ w.heap.size) : CZ (w.alloc o) lo' (w.alloc o).heap.size v1 vs v2 c :=
  CZ.weak (CZ.ext h ((Ext.refl _).alloc _)) hl (by simp; omega)
theorem CZ.set5 {w : World} {lo hi lo' g : Nat} {v1 vs v2 : Value} {c : Cv} {x y z u v : Value} (h : CZ w lo hi v1 vs v2 c) (hg : g < lo) (hl : lo' ≤ lo) (hh : hi ≤ w.heap.size) :
    CZ (((((w.setCell ⟨g, 0, none⟩ x).setCell ⟨g, 1, none⟩ y).setCell ⟨g, 2, none⟩ z).setCell ⟨g, 3, none⟩ u).setCell ⟨g, 4, none⟩ v) lo' (((((w.setCell ⟨g, 0, none⟩ x).setCell ⟨g, 1, none⟩ y).setCell ⟨g, 2, none⟩ z).setCell ⟨g, 3, none⟩ u).setCell ⟨g, 4, none⟩ v).heap.size v1 vs v2 c :=
  CZ.weak (CZ.set (CZ.set (CZ.set (CZ.set (CZ.set h hg _) hg _) hg _) hg _) hg _) hl (by simp only [size_setCell]; exact hh)
theorem endC_bd (m : Int) {c : Cv} (h : c.tot ≤ 1048576) : m ≤ endC m c ∧ endC m c ≤ m + 4000000 := by
  have hts : c.tot = c.n1 + (c.n + gsR c.R c.n) + c.n2 := rfl
  have hof := offR_gs c.R c.n
  unfold endC
  omega

end Go.Proofs.YtgefamclfjoogaaDoor
