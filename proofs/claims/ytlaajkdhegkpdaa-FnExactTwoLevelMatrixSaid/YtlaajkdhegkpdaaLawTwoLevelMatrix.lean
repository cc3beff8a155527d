/- The law FnExactTwoLevelMatrix returns true for every input: the program's TwoLevelMatrix and the reference's return the same, the result shares no memory. No condition. -/
import Derived.Test.YtlaajkdhegkpdaaRow
import Derived.Test.YtlaajkdhegkpdaaTlY
namespace Go.Proofs.Ytlaajkdhegkpdaa
open Go.ChangeShapes Go.WideShapes Go.ChangeAt Go.RowKit

namespace fnExactTwoLevelMatrix
set_option linter.unusedVariables false
set_option maxRecDepth 100000 in
theorem lifted (os : Os) (started : os.Started) (H : Type) (enc : TypeId × Value → H) :
    ReturnsInHanded {} Try.checked os 3 .any (Rows.fnExactTwoLevelMatrixSpec.pre6 enc Try.prog Try.f3 Rows.fnExactTwoLevelMatrixRow.domain false) (Rows.fnExactTwoLevelMatrixSpec.post enc Try.prog Try.f3 false true false false) := by
  refine returnsInHanded_of_change (C := Try.checked) own started (by kernel_rfl) Try.func3
    (ChangeSpec.witness6 (enc := enc) (C := Try.checked) false ⟨#[], #[.int .i64 0, .agg #[.int .i64 0, .int .i64 0, .int .i64 0, .int .i64 0]], []⟩ 8 (by kernel_rfl) (by kernel_rfl) (by kernel_rfl) (by kernel_rfl)) ?_
  intro W base args ds gs before hval0 hW hcnd _
  have hval : ∀ (j : Nat) t v, Try.f3.params[j]? = some t → args[j]? = some v → Value.okWide Try.prog W .any base t v := hval0
  have hW' := hW
  obtain ⟨p, q, hA0, hV, rfl, hfz, hnd⟩ := hW
  have hA : DataW.TrodAll enc Try.prog W 0 (fun _ => true) true Try.f3.params.toList args.toList ds p := hA0
  rw [Try.params3] at hA hval
  obtain ⟨v0, vs0, d0, ds0, p0, q0, hargs, rfl, rfl, h0, r0⟩ := trodAll_cons hA
  obtain ⟨v1, vs1, d1, ds1, p1, q1, rfl, rfl, rfl, h1, r1⟩ := trodAll_cons r0
  obtain ⟨rfl, rfl, rfl⟩ := trodAll_nil r1
  obtain rfl : args = #[v0, v1] := by cases args; simp_all
  obtain ⟨xa, rfl, hi0⟩ := int_arg Try.underlying3 (hval 0 3 v0 rfl rfl) h0
  obtain ⟨ns1, rfl, hk1, hi1⟩ := ints_arg (m := 5) (k := 4) Try.underlying23 (by kernel_rfl) (by kernel_rfl) (hval 1 23 v1 rfl rfl) h1
  obtain ⟨xb, xc, xd, xe, rfl⟩ := list4 hk1
  obtain ⟨rfl, rfl⟩ := trodVars_none hV
  clear hA0 hval0
  refine ((fun n a b c d _ _ w => law_TwoLevelMatrix n a b c d w) xa xb xc xd xe hi0 hi1 W).mono fun e W' ⟨he, hx⟩ => ?_
  subst he
  exact ⟨_, rfl, post_of_ext laid (by kernel_rfl) (by kernel_rfl) Try.underlying4 hW' rfl rfl hx⟩
theorem over : Rows.fnExactTwoLevelMatrixRow.holds Try.pinned (OpenSpec.ofChange Rows.fnExactTwoLevelMatrixSpec) :=
  OpenClaim.holds_of_wide 3 Try.f3 rfl rfl rfl rfl rfl rfl rfl ⟨rfl, rfl, rfl, rfl, rfl⟩ rfl rfl rfl rfl rfl (by kernel_rfl) Try.func3 (by kernel_rfl)
    (of_decide_eq_true (by kernel_rfl)) (by unfold Func.isWrapper; first | (rw [if_pos (by decide +kernel)]; kernel_rfl) | (rw [if_neg (by decide +kernel)]; exact ⟨rfl, rfl⟩))
    (fun os started H enc _ => lifted os started H enc)
/-- the given statement -/
theorem proved : Rows.FnExactTwoLevelMatrixSaid :=
  over
end fnExactTwoLevelMatrix

end Go.Proofs.Ytlaajkdhegkpdaa
