/- The law FnExactRunReplacement returns true for every input: the program's RunReplacement and the reference's return the same, the arguments are not changed, the result shares no memory. No condition. -/
import Derived.Test.YtlbcjbeafampcaaRow
import Derived.Test.YtlbcjbeafampcaaRrW
namespace Go.Proofs.Ytlbcjbeafampcaa
open Go.ChangeShapes Go.WideShapes Go.ChangeAt Go.RowKit

namespace fnExactRunReplacement
set_option linter.unusedVariables false
set_option maxRecDepth 100000 in
theorem lifted (os : Os) (started : os.Started) (H : Type) (enc : TypeId × Value → H) :
    ReturnsInHanded {} Try.checked os 4 .any (Rows.fnExactRunReplacementSpec.pre6 enc Try.prog Try.f4 Rows.fnExactRunReplacementRow.domain false) (Rows.fnExactRunReplacementSpec.post enc Try.prog Try.f4 false true false false) := by
  refine returnsInHanded_of_change (C := Try.checked) own started (by kernel_rfl) Try.func4
    (ChangeSpec.witness6 (enc := enc) (C := Try.checked) false ⟨#[], #[.agg #[.int .i64 0, .slice none 0 0], .int .i64 0, .slice none 0 0, .slice none 0 0], []⟩ 8 (by kernel_rfl) (by kernel_rfl) (by kernel_rfl) (by kernel_rfl)) ?_
  intro W base args ds gs before hval0 hW hcnd _
  have hval : ∀ (j : Nat) t v, Try.f4.params[j]? = some t → args[j]? = some v → Value.okWide Try.prog W .any base t v := hval0
  have hW' := hW
  obtain ⟨p, q, hA0, hV, rfl, hfz, hnd⟩ := hW
  have hA : DataW.TrodAll enc Try.prog W 0 (fun _ => true) true Try.f4.params.toList args.toList ds p := hA0
  rw [Try.params4] at hA hval
  obtain ⟨v0, vs0, d0, ds0, p0, q0, hargs, rfl, rfl, h0, r0⟩ := trodAll_cons hA
  obtain ⟨v1, vs1, d1, ds1, p1, q1, rfl, rfl, rfl, h1, r1⟩ := trodAll_cons r0
  obtain ⟨v2, vs2, d2, ds2, p2, q2, rfl, rfl, rfl, h2, r2⟩ := trodAll_cons r1
  obtain ⟨v3, vs3, d3, ds3, p3, q3, rfl, rfl, rfl, h3, r3⟩ := trodAll_cons r2
  obtain ⟨rfl, rfl, rfl⟩ := trodAll_nil r3
  obtain rfl : args = #[v0, v1, v2, v3] := by cases args; simp_all
  obtain ⟨cs0, rfl, hl0⟩ := okWide_struct Try.underlying24 (hval 0 24 v0 rfl rfl)
  obtain ⟨n0, hs0⟩ := Shape.ofT h0
  obtain ⟨xa, rfl, hi1⟩ := int_arg Try.underlying3 (hval 1 3 v1 rfl rfl) h1
  obtain ⟨ba2, bl2, bc2, rfl⟩ := okWide_slice Try.underlying41 (hval 2 41 v2 rfl rfl)
  obtain ⟨n2, hs2⟩ := Shape.ofT h2
  obtain ⟨ba3, bl3, bc3, rfl⟩ := okWide_slice Try.underlying22 (hval 3 22 v3 rfl rfl)
  obtain ⟨n3, hs3⟩ := Shape.ofT h3
  obtain ⟨rfl, rfl⟩ := trodVars_none hV
  clear hA0 hval0
  refine (law_RunReplacement_c cs0 xa (.slice ba2 bl2 bc2) (.slice ba3 bl3 bc3) hs0 hi1 hs2 hs3 W).mono fun e W' ⟨he, hx⟩ => ?_
  subst he
  exact ⟨_, rfl, post_of_ext laid (by kernel_rfl) (by kernel_rfl) Try.underlying4 hW' rfl rfl hx⟩
theorem over : Rows.fnExactRunReplacementRow.holds Try.pinned (OpenSpec.ofChange Rows.fnExactRunReplacementSpec) :=
  OpenClaim.holds_of_wide 4 Try.f4 rfl rfl rfl rfl rfl rfl rfl ⟨rfl, rfl, rfl, rfl, rfl⟩ rfl rfl rfl rfl rfl (by kernel_rfl) Try.func4 (by kernel_rfl)
    (of_decide_eq_true (by kernel_rfl)) (by unfold Func.isWrapper; first | (rw [if_pos (by decide +kernel)]; kernel_rfl) | (rw [if_neg (by decide +kernel)]; exact ⟨rfl, rfl⟩))
    (fun os started H enc _ => lifted os started H enc)
/-- the given statement -/
theorem proved : Rows.FnExactRunReplacementSaid :=
  over
end fnExactRunReplacement

end Go.Proofs.Ytlbcjbeafampcaa
