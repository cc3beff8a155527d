/- The law FnExactPassNames returns true: the program's PassNames and the reference's return the same, the result shares no memory. No condition. -/
import Derived.Test.YtolpmoicinijdaaRow
import Derived.Test.YtolpmoicinijdaaStrs
namespace Go.Proofs.Ytolpmoicinijdaa
open Go.ChangeShapes Go.WideShapes Go.ChangeAt Go.RowKit

namespace fnExactPassNames
set_option linter.unusedVariables false
set_option maxRecDepth 100000 in
theorem lifted (os : Os) (started : os.Started) (H : Type) (enc : TypeId × Value → H) :
    ReturnsInHanded {} Try.checked os 3 .any (Rows.fnExactPassNamesSpec.pre6 enc Try.prog Try.f3 Rows.fnExactPassNamesRow.domain false) (Rows.fnExactPassNamesSpec.post enc Try.prog Try.f3 false true false false) := by
  refine returnsInHanded_of_change (C := Try.checked) own started (by kernel_rfl) Try.func3
    (ChangeSpec.witness6 (enc := enc) (C := Try.checked) false ⟨#[], #[], []⟩ 8 (by kernel_rfl) (by kernel_rfl) (by kernel_rfl) (by kernel_rfl)) ?_
  intro W base args ds gs before hval0 hW hcnd _
  have hval : ∀ (j : Nat) t v, Try.f3.params[j]? = some t → args[j]? = some v → Value.okWide Try.prog W .any base t v := hval0
  have hW' := hW
  obtain ⟨p, q, hA0, hV, rfl, hfz, hnd⟩ := hW
  have hA : DataW.TrodAll enc Try.prog W 0 (fun _ => true) true Try.f3.params.toList args.toList ds p := hA0
  rw [Try.params3] at hA hval
  obtain ⟨hargs, rfl, rfl⟩ := trodAll_nil hA
  obtain rfl : args = #[] := by cases args; simp_all
  obtain ⟨rfl, rfl⟩ := trodVars_none hV
  clear hA0 hval0
  refine ((fun w => law_PassNames w) W).mono fun e W' ⟨he, hx⟩ => ?_
  subst he
  exact ⟨_, rfl, post_of_ext laid (by kernel_rfl) (by kernel_rfl) Try.underlying4 hW' rfl rfl hx⟩
theorem over : Rows.fnExactPassNamesRow.holds Try.pinned (OpenSpec.ofChange Rows.fnExactPassNamesSpec) :=
  OpenClaim.holds_of_wide 3 Try.f3 rfl rfl rfl rfl rfl rfl rfl ⟨rfl, rfl, rfl, rfl, rfl⟩ rfl rfl rfl rfl rfl (by kernel_rfl) Try.func3 (by kernel_rfl)
    (of_decide_eq_true (by kernel_rfl)) (by unfold Func.isWrapper; first | (rw [if_pos (by decide +kernel)]; kernel_rfl) | (rw [if_neg (by decide +kernel)]; exact ⟨rfl, rfl⟩))
    (fun os started H enc _ => lifted os started H enc)
/-- the given statement -/
theorem proved : Rows.FnExactPassNamesSaid :=
  over
end fnExactPassNames

end Go.Proofs.Ytolpmoicinijdaa
