/- The law FnExactFoldPass returns true for every input: the program's FoldPass and the reference's return the same, the argument is not changed, the result shares no memory. No condition. -/
import Derived.Test.YtchaanppoklapaaRow
import Derived.Test.YtchaanppoklapaaPsW
namespace Go.Proofs.Ytchaanppoklapaa
open Go.ChangeShapes Go.WideShapes Go.ChangeAt Go.RowKit

namespace fnExactFoldPass
set_option linter.unusedVariables false
set_option maxRecDepth 100000 in
theorem lifted (os : Os) (started : os.Started) (H : Type) (enc : TypeId × Value → H) :
    ReturnsInHanded {} Try.checked os 5 .any (Rows.fnExactFoldPassSpec.pre6 enc Try.prog Try.f5 Rows.fnExactFoldPassRow.domain false) (Rows.fnExactFoldPassSpec.post enc Try.prog Try.f5 false true false false) := by
  refine returnsInHanded_of_change (C := Try.checked) own started (by kernel_rfl) Try.func5
    (ChangeSpec.witness6 (enc := enc) (C := Try.checked) false ⟨#[], #[.agg #[.int .i64 0, .slice none 0 0]], []⟩ 8 (by kernel_rfl) (by kernel_rfl) (by kernel_rfl) (by kernel_rfl)) ?_
  intro W base args ds gs before hval0 hW hcnd _
  have hval : ∀ (j : Nat) t v, Try.f5.params[j]? = some t → args[j]? = some v → Value.okWide Try.prog W .any base t v := hval0
  have hW' := hW
  obtain ⟨p, q, hA0, hV, rfl, hfz, hnd⟩ := hW
  have hA : DataW.TrodAll enc Try.prog W 0 (fun _ => true) true Try.f5.params.toList args.toList ds p := hA0
  rw [Try.params5] at hA hval
  obtain ⟨v0, vs0, d0, ds0, p0, q0, hargs, rfl, rfl, h0, r0⟩ := trodAll_cons hA
  obtain ⟨rfl, rfl, rfl⟩ := trodAll_nil r0
  obtain rfl : args = #[v0] := by cases args; simp_all
  obtain ⟨cs0, rfl, hl0⟩ := okWide_struct Try.underlying24 (hval 0 24 v0 rfl rfl)
  obtain ⟨n0, hs0⟩ := Shape.ofT h0
  obtain ⟨rfl, rfl⟩ := trodVars_none hV
  clear hA0 hval0
  refine (law_FoldPass_c cs0 hs0 W).mono fun e W' ⟨he, hx⟩ => ?_
  subst he
  exact ⟨_, rfl, post_of_ext laid (by kernel_rfl) (by kernel_rfl) Try.underlying4 hW' rfl rfl hx⟩
theorem over : Rows.fnExactFoldPassRow.holds Try.pinned (OpenSpec.ofChange Rows.fnExactFoldPassSpec) :=
  OpenClaim.holds_of_wide 5 Try.f5 rfl rfl rfl rfl rfl rfl rfl ⟨rfl, rfl, rfl, rfl, rfl⟩ rfl rfl rfl rfl rfl (by kernel_rfl) Try.func5 (by kernel_rfl)
    (of_decide_eq_true (by kernel_rfl)) (by unfold Func.isWrapper; first | (rw [if_pos (by decide +kernel)]; kernel_rfl) | (rw [if_neg (by decide +kernel)]; exact ⟨rfl, rfl⟩))
    (fun os started H enc _ => lifted os started H enc)
/-- the given statement -/
theorem proved : Rows.FnExactFoldPassSaid :=
  over
end fnExactFoldPass

end Go.Proofs.Ytchaanppoklapaa
