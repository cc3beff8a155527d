/- Arguments that are matrices. -/
import Derived.Test.YtamiploliebplaaDoorArg
namespace Go.Proofs.YtamiploliebplaaDoor
open Go.RowKit

section
variable {P : Program}
theorem list_three' {α : Type} {l : List α} (h : l.length = 3) : ∃ a b c, l = [a, b, c] := by match l, h with | [a, b, c], _ => exact ⟨a, b, c, rfl⟩
theorem int_of_shape' {w : World} {n : Nat} {t : TypeId} {c : Value} (ht : P.underlying t = some (.int .i64)) (hs : Shape P w n t [c]) : ∃ a : Int, c = .int .i64 a ∧ Wi a := by
  cases n with
  | zero => exact hs.elim
  | succ n =>
    unfold Shape at hs
    rw [ht] at hs
    obtain ⟨a, h, hw⟩ := hs
    injection h with h _
    exact ⟨a, h, wi_of hw⟩
/-- two ints and a slice of structs of ints -/
theorem mat_of_shape {w : World} {m n : Nat} {t e : TypeId} {k : Nat} {cs : Array Value} {f0 f1 f2 : Field} (ht : P.underlying t = some (.struct #[f0, f1, f2])) (hc : P.cellsOf t = 3) (o0 : f0.offset = 0) (o1 : f1.offset = 1) (o2 : f2.offset = 2) (c0 : P.cellsOf f0.type = 1) (c1 : P.cellsOf f1.type = 1) (c2 : P.cellsOf f2.type = 1)
    (h0 : P.underlying f0.type = some (.int .i64)) (h1 : P.underlying f1.type = some (.int .i64)) (h2 : P.underlying f2.type = some (.slice e)) (he : allInt P m e = true) (hk : P.cellsOf e = k) (hk0 : 0 < k) (hs : Shape P w n t (Value.agg cs).cells.toList) :
    ∃ (r c : Int) (v : Value) (l : Nat) (xs : List Int), cs = #[.int .i64 r, .int .i64 c, v] ∧ RV w k v l xs ∧ Wi r ∧ Wi c := by
  cases n with
  | zero => exact hs.elim
  | succ n =>
    unfold Shape at hs
    rw [ht] at hs
    obtain ⟨hl, hf⟩ := hs
    rw [hc] at hl
    have e0 : (Value.agg cs).cells = cs := rfl
    rw [e0] at hl hf
    obtain ⟨a, b, c, hab⟩ := list_three' hl
    have g0 := hf 0 f0 rfl
    have g1 := hf 1 f1 rfl
    have g2 := hf 2 f2 rfl
    rw [hab, o0, c0] at g0
    rw [hab, o1, c1] at g1
    rw [hab, o2, c2] at g2
    obtain ⟨q, rfl, hq⟩ := int_of_shape' h0 g0
    obtain ⟨p, rfl, hp⟩ := int_of_shape' h1 g1
    obtain ⟨l, xs, hr⟩ := rv_of_shape h2 he hk hk0 g2
    exact ⟨q, p, c, l, xs, by rw [← hab], hr, hq, hp⟩
end
theorem mat_arg {w : World} {n : Nat} {cs : Array Value} (hs : Shape Tryd.prog w n 24 (Value.agg cs).cells.toList) : ∃ (r c : Int) (v : Value) (l : Nat) (xs : List Int), cs = #[.int .i64 r, .int .i64 c, v] ∧ RV w 5 v l xs ∧ Wi r ∧ Wi c :=
  mat_of_shape (m := 5) Tryd.underlying24 (by kernel_rfl) rfl rfl rfl (by kernel_rfl) (by kernel_rfl) (by kernel_rfl) Tryd.underlying3 Tryd.underlying3 Tryd.underlying22 (by kernel_rfl) (by kernel_rfl) (by decide) hs

end Go.Proofs.YtamiploliebplaaDoor
