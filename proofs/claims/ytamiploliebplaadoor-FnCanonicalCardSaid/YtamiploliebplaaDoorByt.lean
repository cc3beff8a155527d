/- An argument of bytes. -/
import Derived.Test.YtamiploliebplaaDoorRow
import Derived.Test.YtamiploliebplaaDoorCur
import Derived.Deep.Slices
namespace Go.Proofs.YtamiploliebplaaDoor
open Go.RowKit Go.Deep
set_option linter.unusedVariables false

variable {P : Program}
theorem by_of_shape {w : World} {m : Nat} {t e : TypeId} {v : Value} (ht : P.underlying t = some (.slice e)) (he : P.underlying e = some (.int .u8)) (hk : P.cellsOf e = 1) (hs : Shape P w m t [v]) : ∃ n, BY w.heap.size w v n := by
  cases m with
  | zero => exact hs.elim
  | succ m =>
    unfold Shape at hs
    rw [ht] at hs
    rcases hs with h | ⟨a, len, cap, h, h1, h2, h3⟩
    · injection h with h _
      subst h
      exact ⟨0, none, 0, rfl, Nat.le_refl _, Nat.zero_le _, fun h => absurd h (by omega)⟩
    · injection h with h _
      subst h
      have hcell : ∀ j, j < len → ∃ y : Int, w.cell? (a.add j) = some (.int .u8 y) ∧ 0 ≤ y ∧ y ≤ 255 := by
        intro j hj
        obtain ⟨ecs, e1, e2⟩ := h3 j hj
        rw [hk] at e1
        cases m with
        | zero => exact e2.elim
        | succ m =>
          unfold Shape at e2
          rw [he] at e2
          obtain ⟨y, rfl, hw⟩ := e2
          obtain ⟨_, _, e3⟩ := World.cells?_some e1
          have e4 := e3 0 (by omega)
          refine ⟨y, ?_, ?_⟩
          · rw [Nat.mul_one] at e4
            have : (a.add j).add 0 = a.add j := by unfold Addr.add; split <;> simp_all
            rw [this] at e4
            exact e4
          · simp only [Lit.wf, Bool.and_eq_true, decide_eq_true_eq, show IntKind.u8.min = 0 by decide, show IntKind.u8.max = 255 by decide] at hw
            exact hw
      refine ⟨len, some a, cap, rfl, h1, h2, fun hp => ?_⟩
      obtain ⟨y0, h0, _⟩ := hcell 0 hp
      have hadd0 : a.add 0 = a := by unfold Addr.add; simp
      rw [hadd0] at h0
      have hsp : a.spot = none := by
        unfold World.cell? at h0
        split at h0
        · split at h0
          · cases h0
          · rename_i hn; simpa using hn
        · cases h0
      obtain ⟨b, off, sp⟩ := a
      simp only at hsp
      subst hsp
      refine ⟨b, off, rfl, lt_of_cell h0, fun i hi => ?_⟩
      have := hcell i hi
      rwa [show (⟨b, off, none⟩ : Addr).add i = ⟨b, off + i, none⟩ by unfold Addr.add; split <;> simp_all] at this
theorem BY.noarg {w : World} {v : Value} {n : Nat} (h : BY w.heap.size w v n) : ∃ a cap, v = .slice a n cap := by
  obtain ⟨a, cap, h, _⟩ := h
  exact ⟨a, cap, h⟩

end Go.Proofs.YtamiploliebplaaDoor
