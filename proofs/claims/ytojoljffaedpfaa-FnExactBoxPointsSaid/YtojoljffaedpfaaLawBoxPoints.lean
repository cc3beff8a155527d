/- The law FnExactBoxPoints returns true for every input: the program's BoxPoints and the reference's return the same, the result shares no memory. No condition. -/
import Derived.Test.YtojoljffaedpfaaRow
import Derived.Test.YtojoljffaedpfaaBxX
namespace Go.Proofs.Ytojoljffaedpfaa
open Go.ChangeShapes Go.WideShapes Go.ChangeAt Go.RowKit

namespace fnExactBoxPoints
set_option linter.unusedVariables false
set_option maxRecDepth 100000 in
theorem lifted (os : Os) (started : os.Started) (H : Type) (enc : TypeId × Value → H) :
    ReturnsInHanded {} Try.checked os 5 .any (Rows.fnExactBoxPointsSpec.pre6 enc Try.prog Try.f5 Rows.fnExactBoxPointsRow.domain false) (Rows.fnExactBoxPointsSpec.post enc Try.prog Try.f5 false true false false) := by
  refine returnsInHanded_of_change (C := Try.checked) own started (by kernel_rfl) Try.func5
    (ChangeSpec.witness6 (enc := enc) (C := Try.checked) false ⟨#[], #[.agg #[.int .i64 0, .int .i64 0, .int .i64 0], .agg #[.int .i64 0, .int .i64 0, .int .i64 0], .agg #[.int .i64 0, .int .i64 0, .int .i64 0], .agg #[.int .i64 0, .int .i64 0, .int .i64 0]], []⟩ 8 (by kernel_rfl) (by kernel_rfl) (by kernel_rfl) (by kernel_rfl)) ?_
  intro W base args ds gs before hval0 hW hcnd _
  have hval : ∀ (j : Nat) t v, Try.f5.params[j]? = some t → args[j]? = some v → Value.okWide Try.prog W .any base t v := hval0
  have hW' := hW
  obtain ⟨p, q, hA0, hV, rfl, hfz, hnd⟩ := hW
  have hA : DataW.TrodAll enc Try.prog W 0 (fun _ => true) true Try.f5.params.toList args.toList ds p := hA0
  rw [Try.params5] at hA hval
  obtain ⟨v0, vs0, d0, ds0, p0, q0, hargs, rfl, rfl, h0, r0⟩ := trodAll_cons hA
  obtain ⟨v1, vs1, d1, ds1, p1, q1, rfl, rfl, rfl, h1, r1⟩ := trodAll_cons r0
  obtain ⟨v2, vs2, d2, ds2, p2, q2, rfl, rfl, rfl, h2, r2⟩ := trodAll_cons r1
  obtain ⟨v3, vs3, d3, ds3, p3, q3, rfl, rfl, rfl, h3, r3⟩ := trodAll_cons r2
  obtain ⟨rfl, rfl, rfl⟩ := trodAll_nil r3
  obtain rfl : args = #[v0, v1, v2, v3] := by cases args; simp_all
  obtain ⟨ns0, rfl, hk0, hi0⟩ := ints_arg (m := 5) (k := 3) Try.underlying23 (by kernel_rfl) (by kernel_rfl) (hval 0 23 v0 rfl rfl) h0
  obtain ⟨xa, xb, xc, rfl⟩ := list3 hk0
  obtain ⟨ns1, rfl, hk1, hi1⟩ := ints_arg (m := 5) (k := 3) Try.underlying23 (by kernel_rfl) (by kernel_rfl) (hval 1 23 v1 rfl rfl) h1
  obtain ⟨xd, xe, xf, rfl⟩ := list3 hk1
  obtain ⟨ns2, rfl, hk2, hi2⟩ := ints_arg (m := 5) (k := 3) Try.underlying23 (by kernel_rfl) (by kernel_rfl) (hval 2 23 v2 rfl rfl) h2
  obtain ⟨xg, xi, xj, rfl⟩ := list3 hk2
  obtain ⟨ns3, rfl, hk3, hi3⟩ := ints_arg (m := 5) (k := 3) Try.underlying23 (by kernel_rfl) (by kernel_rfl) (hval 3 23 v3 rfl rfl) h3
  obtain ⟨xk, xl, xm, rfl⟩ := list3 hk3
  obtain ⟨rfl, rfl⟩ := trodVars_none hV
  clear hA0 hval0
  refine ((fun a b c d e f g i j k l m _ _ _ _ w => law_BoxPoints a b c d e f g i j k l m w) xa xb xc xd xe xf xg xi xj xk xl xm hi0 hi1 hi2 hi3 W).mono fun e W' ⟨he, hx⟩ => ?_
  subst he
  exact ⟨_, rfl, post_of_ext laid (by kernel_rfl) (by kernel_rfl) Try.underlying4 hW' rfl rfl hx⟩
theorem over : Rows.fnExactBoxPointsRow.holds Try.pinned (OpenSpec.ofChange Rows.fnExactBoxPointsSpec) :=
  OpenClaim.holds_of_wide 5 Try.f5 rfl rfl rfl rfl rfl rfl rfl ⟨rfl, rfl, rfl, rfl, rfl⟩ rfl rfl rfl rfl rfl (by kernel_rfl) Try.func5 (by kernel_rfl)
    (of_decide_eq_true (by kernel_rfl)) (by unfold Func.isWrapper; first | (rw [if_pos (by decide +kernel)]; kernel_rfl) | (rw [if_neg (by decide +kernel)]; exact ⟨rfl, rfl⟩))
    (fun os started H enc _ => lifted os started H enc)
/-- the given statement -/
theorem proved : Rows.FnExactBoxPointsSaid :=
  over
end fnExactBoxPoints

end Go.Proofs.Ytojoljffaedpfaa
