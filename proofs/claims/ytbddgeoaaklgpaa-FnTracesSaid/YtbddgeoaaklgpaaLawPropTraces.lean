/- The law FnTraces returns true for every input: circuits that differ by exchanges of gates without common qubits have the same sorted circuit, depth and operator. No condition. -/
import Derived.Test.YtbddgeoaaklgpaaRow
import Derived.Test.YtbddgeoaaklgpaaTrF
namespace Go.Proofs.Ytbddgeoaaklgpaa
open Go.ChangeShapes Go.WideShapes Go.ChangeAt Go.RowKit

namespace fnTraces
set_option linter.unusedVariables false
set_option maxRecDepth 100000 in
theorem lifted (os : Os) (started : os.Started) (H : Type) (enc : TypeId × Value → H) :
    ReturnsInHanded {} Try.checked os 4 .any (Rows.fnTracesSpec.pre6 enc Try.prog Try.f4 Rows.fnTracesRow.domain false) (Rows.fnTracesSpec.post enc Try.prog Try.f4 false true false false) := by
  refine returnsInHanded_of_change (C := Try.checked) own started (by kernel_rfl) Try.func4
    (ChangeSpec.witness6 (enc := enc) (C := Try.checked) false ⟨#[], #[.slice none 0 0, .slice none 0 0], []⟩ 8 (by kernel_rfl) (by kernel_rfl) (by kernel_rfl) (by kernel_rfl)) ?_
  intro W base args ds gs before hval0 hW hcnd _
  have hval : ∀ (j : Nat) t v, Try.f4.params[j]? = some t → args[j]? = some v → Value.okWide Try.prog W .any base t v := hval0
  have hW' := hW
  obtain ⟨p, q, hA0, hV, rfl, hfz, hnd⟩ := hW
  have hA : DataW.TrodAll enc Try.prog W 0 (fun _ => true) true Try.f4.params.toList args.toList ds p := hA0
  rw [Try.params4] at hA hval
  obtain ⟨v0, vs0, d0, ds0, p0, q0, hargs, rfl, rfl, h0, r0⟩ := trodAll_cons hA
  obtain ⟨v1, vs1, d1, ds1, p1, q1, rfl, rfl, rfl, h1, r1⟩ := trodAll_cons r0
  obtain ⟨rfl, rfl, rfl⟩ := trodAll_nil r1
  obtain rfl : args = #[v0, v1] := by cases args; simp_all
  obtain ⟨ba0, bl0, bc0, rfl⟩ := okWide_slice Try.underlying22 (hval 0 22 v0 rfl rfl)
  obtain ⟨n0, hs0⟩ := Shape.ofT h0
  obtain ⟨ba1, bl1, bc1, rfl⟩ := okWide_slice Try.underlying22 (hval 1 22 v1 rfl rfl)
  obtain ⟨n1, hs1⟩ := Shape.ofT h1
  obtain ⟨rfl, rfl⟩ := trodVars_none hV
  clear hA0 hval0
  refine (law_FnTraces_c (.slice ba0 bl0 bc0) (.slice ba1 bl1 bc1) hs0 hs1 W).mono fun e W' ⟨he, hx⟩ => ?_
  subst he
  exact ⟨_, rfl, post_of_ext laid (by kernel_rfl) (by kernel_rfl) Try.underlying4 hW' rfl rfl hx⟩
theorem over : Rows.fnTracesRow.holds Try.pinned (OpenSpec.ofChange Rows.fnTracesSpec) :=
  OpenClaim.holds_of_wide 4 Try.f4 rfl rfl rfl rfl rfl rfl rfl ⟨rfl, rfl, rfl, rfl, rfl⟩ rfl rfl rfl rfl rfl (by kernel_rfl) Try.func4 (by kernel_rfl)
    (of_decide_eq_true (by kernel_rfl)) (by unfold Func.isWrapper; first | (rw [if_pos (by decide +kernel)]; kernel_rfl) | (rw [if_neg (by decide +kernel)]; exact ⟨rfl, rfl⟩))
    (fun os started H enc _ => lifted os started H enc)
/-- the given statement -/
theorem proved : Rows.FnTracesSaid :=
  over
end fnTraces

end Go.Proofs.Ytbddgeoaaklgpaa
