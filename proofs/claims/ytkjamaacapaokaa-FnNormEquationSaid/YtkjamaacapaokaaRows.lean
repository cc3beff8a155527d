/-
  No cell of these rows narrows 'for every input' (looked for: loops, veiled, ifaces, maps, wideKeys, modest, calm, conditions, laid).
  DERIVED. THE GIVEN ROWS OF THIS SEAT. 12 by the template 'for every input the law returns true; each argument reads behind the call as it read before'; 0 by the template 'total and deterministic' (their statements: YtkjamaacapaokaaTotals.lean).
  GIVEN WITH THE SEED: the statements are not yours to turn. If you find one false, say at which input.
  Laid BY PROGRAM, IN A SANDBOX (cutbox-rows.mjs): the forced cells as the released guide's own fill.sh prints them over the translation d054d1abc7406ee8… (all of the seat's roots in one cut). By AI agents, Wed Nov 11 2026. No macro, syntax, notation, axiom, sorry.
-/
import Derived.Test.YtkjamaacapaokaaChecked
import GoSem.Claim
import GoSem.ClaimJoined
import GoSem.ClaimMapViews
import Derived.JoinedTies
import Derived.KernelRfl
namespace Go.Proofs.Ytkjamaacapaokaa
/- THE CELL 'sum', in the pinned program and in every row, IS THE sha256 OF THE DUMP (.gsa) THAT YtkjamaacapaokaaProg.lean LOADS. Nothing in Lean hashes anything: it is a label: what it is worth is what the hold of that sum in a sandbox is worth. -/
noncomputable def Try.pinned : Pinned := { name := "ytkjamaacapaokaa", sum := "d054d1abc7406ee89561cece4a17ecef65f638c4a8823530e0ef40506fc393df", checked := Try.checked }
namespace Rows
def none {H : Type} : Left H := { results := [], args := [] }

/-- 'laws.FnExactFactorInt': WHATEVER THE INPUT: true; the input reads as it did. -/
def fnExactFactorIntSpec : ChangeSpec := { name := "fnExactFactorInt", fn := fun _ => fun
  | [d] => { results := [.lit (.bool true)], args := [d] }
  | _ => none }
def fnExactFactorIntRow : OpenClaim := { program := "ytkjamaacapaokaa", sum := "d054d1abc7406ee89561cece4a17ecef65f638c4a8823530e0ef40506fc393df", func := "loop.example/g00864/laws.FnExactFactorInt", spec := "fnExactFactorInt", apart := false }
def FnExactFactorIntSaid : Prop := fnExactFactorIntRow.holds Try.pinned (OpenSpec.ofChange fnExactFactorIntSpec)

/-- ITS FALSE NEIGHBOUR: 'it returns false'. Refute it at one input. -/
def fnExactFactorIntWrong : ChangeSpec := { name := "fnExactFactorInt", fn := fun _ => fun
  | [d] => { results := [.lit (.bool false)], args := [d] }
  | _ => none }
def FnExactFactorIntWrongFalsely : Prop := fnExactFactorIntRow.holds Try.pinned (OpenSpec.ofChange fnExactFactorIntWrong)

/-- 'laws.FnExactRotationError': WHATEVER THE INPUT: true; the input reads as it did. -/
def fnExactRotationErrorSpec : ChangeSpec := { name := "fnExactRotationError", fn := fun _ => fun
  | [d1, d2] => { results := [.lit (.bool true)], args := [d1, d2] }
  | _ => none }
def fnExactRotationErrorRow : OpenClaim := { program := "ytkjamaacapaokaa", sum := "d054d1abc7406ee89561cece4a17ecef65f638c4a8823530e0ef40506fc393df", func := "loop.example/g00864/laws.FnExactRotationError", spec := "fnExactRotationError", apart := false }
def FnExactRotationErrorSaid : Prop := fnExactRotationErrorRow.holds Try.pinned (OpenSpec.ofChange fnExactRotationErrorSpec)

/-- ITS FALSE NEIGHBOUR: 'it returns false'. Refute it at one input. -/
def fnExactRotationErrorWrong : ChangeSpec := { name := "fnExactRotationError", fn := fun _ => fun
  | [d1, d2] => { results := [.lit (.bool false)], args := [d1, d2] }
  | _ => none }
def FnExactRotationErrorWrongFalsely : Prop := fnExactRotationErrorRow.holds Try.pinned (OpenSpec.ofChange fnExactRotationErrorWrong)

/-- 'laws.FnExactMulNorms': WHATEVER THE INPUT: true; the input reads as it did. -/
def fnExactMulNormsSpec : ChangeSpec := { name := "fnExactMulNorms", fn := fun _ => fun
  | [d1, d2] => { results := [.lit (.bool true)], args := [d1, d2] }
  | _ => none }
def fnExactMulNormsRow : OpenClaim := { program := "ytkjamaacapaokaa", sum := "d054d1abc7406ee89561cece4a17ecef65f638c4a8823530e0ef40506fc393df", func := "loop.example/g00864/laws.FnExactMulNorms", spec := "fnExactMulNorms", apart := false }
def FnExactMulNormsSaid : Prop := fnExactMulNormsRow.holds Try.pinned (OpenSpec.ofChange fnExactMulNormsSpec)

/-- ITS FALSE NEIGHBOUR: 'it returns false'. Refute it at one input. -/
def fnExactMulNormsWrong : ChangeSpec := { name := "fnExactMulNorms", fn := fun _ => fun
  | [d1, d2] => { results := [.lit (.bool false)], args := [d1, d2] }
  | _ => none }
def FnExactMulNormsWrongFalsely : Prop := fnExactMulNormsRow.holds Try.pinned (OpenSpec.ofChange fnExactMulNormsWrong)

/-- 'laws.FnExactIsWithin': WHATEVER THE INPUT: true; the input reads as it did. -/
def fnExactIsWithinSpec : ChangeSpec := { name := "fnExactIsWithin", fn := fun _ => fun
  | [d1, d2, d3, d4] => { results := [.lit (.bool true)], args := [d1, d2, d3, d4] }
  | _ => none }
def fnExactIsWithinRow : OpenClaim := { program := "ytkjamaacapaokaa", sum := "d054d1abc7406ee89561cece4a17ecef65f638c4a8823530e0ef40506fc393df", func := "loop.example/g00864/laws.FnExactIsWithin", spec := "fnExactIsWithin", apart := false }
def FnExactIsWithinSaid : Prop := fnExactIsWithinRow.holds Try.pinned (OpenSpec.ofChange fnExactIsWithinSpec)

/-- ITS FALSE NEIGHBOUR: 'it returns false'. Refute it at one input. -/
def fnExactIsWithinWrong : ChangeSpec := { name := "fnExactIsWithin", fn := fun _ => fun
  | [d1, d2, d3, d4] => { results := [.lit (.bool false)], args := [d1, d2, d3, d4] }
  | _ => none }
def FnExactIsWithinWrongFalsely : Prop := fnExactIsWithinRow.holds Try.pinned (OpenSpec.ofChange fnExactIsWithinWrong)

/-- 'laws.FnExactIsSumNorm': WHATEVER THE INPUT: true; the input reads as it did. -/
def fnExactIsSumNormSpec : ChangeSpec := { name := "fnExactIsSumNorm", fn := fun _ => fun
  | [d] => { results := [.lit (.bool true)], args := [d] }
  | _ => none }
def fnExactIsSumNormRow : OpenClaim := { program := "ytkjamaacapaokaa", sum := "d054d1abc7406ee89561cece4a17ecef65f638c4a8823530e0ef40506fc393df", func := "loop.example/g00864/laws.FnExactIsSumNorm", spec := "fnExactIsSumNorm", apart := false }
def FnExactIsSumNormSaid : Prop := fnExactIsSumNormRow.holds Try.pinned (OpenSpec.ofChange fnExactIsSumNormSpec)

/-- ITS FALSE NEIGHBOUR: 'it returns false'. Refute it at one input. -/
def fnExactIsSumNormWrong : ChangeSpec := { name := "fnExactIsSumNorm", fn := fun _ => fun
  | [d] => { results := [.lit (.bool false)], args := [d] }
  | _ => none }
def FnExactIsSumNormWrongFalsely : Prop := fnExactIsSumNormRow.holds Try.pinned (OpenSpec.ofChange fnExactIsSumNormWrong)

/-- 'laws.FnExactSplitPrime': WHATEVER THE INPUT: true; the input reads as it did. -/
def fnExactSplitPrimeSpec : ChangeSpec := { name := "fnExactSplitPrime", fn := fun _ => fun
  | [d] => { results := [.lit (.bool true)], args := [d] }
  | _ => none }
def fnExactSplitPrimeRow : OpenClaim := { program := "ytkjamaacapaokaa", sum := "d054d1abc7406ee89561cece4a17ecef65f638c4a8823530e0ef40506fc393df", func := "loop.example/g00864/laws.FnExactSplitPrime", spec := "fnExactSplitPrime", inPlace := ["math.sqrt"], apart := false }
def FnExactSplitPrimeSaid : Prop := fnExactSplitPrimeRow.holds Try.pinned (OpenSpec.ofChange fnExactSplitPrimeSpec)

/-- ITS FALSE NEIGHBOUR: 'it returns false'. Refute it at one input. -/
def fnExactSplitPrimeWrong : ChangeSpec := { name := "fnExactSplitPrime", fn := fun _ => fun
  | [d] => { results := [.lit (.bool false)], args := [d] }
  | _ => none }
def FnExactSplitPrimeWrongFalsely : Prop := fnExactSplitPrimeRow.holds Try.pinned (OpenSpec.ofChange fnExactSplitPrimeWrong)

/-- 'laws.FnExactCountNorm': WHATEVER THE INPUT: true; the input reads as it did. -/
def fnExactCountNormSpec : ChangeSpec := { name := "fnExactCountNorm", fn := fun _ => fun
  | [d] => { results := [.lit (.bool true)], args := [d] }
  | _ => none }
def fnExactCountNormRow : OpenClaim := { program := "ytkjamaacapaokaa", sum := "d054d1abc7406ee89561cece4a17ecef65f638c4a8823530e0ef40506fc393df", func := "loop.example/g00864/laws.FnExactCountNorm", spec := "fnExactCountNorm", inPlace := ["math.sqrt"], unfollowed := true, recurses := true, apart := false }
def FnExactCountNormSaid : Prop := fnExactCountNormRow.holds Try.pinned (OpenSpec.ofChange fnExactCountNormSpec)

/-- ITS FALSE NEIGHBOUR: 'it returns false'. Refute it at one input. -/
def fnExactCountNormWrong : ChangeSpec := { name := "fnExactCountNorm", fn := fun _ => fun
  | [d] => { results := [.lit (.bool false)], args := [d] }
  | _ => none }
def FnExactCountNormWrongFalsely : Prop := fnExactCountNormRow.holds Try.pinned (OpenSpec.ofChange fnExactCountNormWrong)

/-- 'laws.FnExactSolveNorm': WHATEVER THE INPUT: true; the input reads as it did. -/
def fnExactSolveNormSpec : ChangeSpec := { name := "fnExactSolveNorm", fn := fun _ => fun
  | [d] => { results := [.lit (.bool true)], args := [d] }
  | _ => none }
def fnExactSolveNormRow : OpenClaim := { program := "ytkjamaacapaokaa", sum := "d054d1abc7406ee89561cece4a17ecef65f638c4a8823530e0ef40506fc393df", func := "loop.example/g00864/laws.FnExactSolveNorm", spec := "fnExactSolveNorm", inPlace := ["math.sqrt"], unfollowed := true, recurses := true, apart := false }
def FnExactSolveNormSaid : Prop := fnExactSolveNormRow.holds Try.pinned (OpenSpec.ofChange fnExactSolveNormSpec)

/-- ITS FALSE NEIGHBOUR: 'it returns false'. Refute it at one input. -/
def fnExactSolveNormWrong : ChangeSpec := { name := "fnExactSolveNorm", fn := fun _ => fun
  | [d] => { results := [.lit (.bool false)], args := [d] }
  | _ => none }
def FnExactSolveNormWrongFalsely : Prop := fnExactSolveNormRow.holds Try.pinned (OpenSpec.ofChange fnExactSolveNormWrong)

/-- 'laws.FnFactors': WHATEVER THE INPUT: true; the input reads as it did. -/
def fnFactorsSpec : ChangeSpec := { name := "fnFactors", fn := fun _ => fun
  | [d1, d2] => { results := [.lit (.bool true)], args := [d1, d2] }
  | _ => none }
def fnFactorsRow : OpenClaim := { program := "ytkjamaacapaokaa", sum := "d054d1abc7406ee89561cece4a17ecef65f638c4a8823530e0ef40506fc393df", func := "loop.example/g00864/laws.FnFactors", spec := "fnFactors", inPlace := ["math.sqrt"], apart := false }
def FnFactorsSaid : Prop := fnFactorsRow.holds Try.pinned (OpenSpec.ofChange fnFactorsSpec)

/-- ITS FALSE NEIGHBOUR: 'it returns false'. Refute it at one input. -/
def fnFactorsWrong : ChangeSpec := { name := "fnFactors", fn := fun _ => fun
  | [d1, d2] => { results := [.lit (.bool false)], args := [d1, d2] }
  | _ => none }
def FnFactorsWrongFalsely : Prop := fnFactorsRow.holds Try.pinned (OpenSpec.ofChange fnFactorsWrong)

/-- 'laws.FnNormEquation': WHATEVER THE INPUT: true; the input reads as it did. -/
def fnNormEquationSpec : ChangeSpec := { name := "fnNormEquation", fn := fun _ => fun
  | [d1, d2] => { results := [.lit (.bool true)], args := [d1, d2] }
  | _ => none }
def fnNormEquationRow : OpenClaim := { program := "ytkjamaacapaokaa", sum := "d054d1abc7406ee89561cece4a17ecef65f638c4a8823530e0ef40506fc393df", func := "loop.example/g00864/laws.FnNormEquation", spec := "fnNormEquation", inPlace := ["math.sqrt"], unfollowed := true, recurses := true, apart := false }
def FnNormEquationSaid : Prop := fnNormEquationRow.holds Try.pinned (OpenSpec.ofChange fnNormEquationSpec)

/-- ITS FALSE NEIGHBOUR: 'it returns false'. Refute it at one input. -/
def fnNormEquationWrong : ChangeSpec := { name := "fnNormEquation", fn := fun _ => fun
  | [d1, d2] => { results := [.lit (.bool false)], args := [d1, d2] }
  | _ => none }
def FnNormEquationWrongFalsely : Prop := fnNormEquationRow.holds Try.pinned (OpenSpec.ofChange fnNormEquationWrong)

/-- 'laws.FnExactCandidatesFor': WHATEVER THE INPUT: true; the input reads as it did. -/
def fnExactCandidatesForSpec : ChangeSpec := { name := "fnExactCandidatesFor", fn := fun _ => fun
  | [d1, d2, d3, d4] => { results := [.lit (.bool true)], args := [d1, d2, d3, d4] }
  | _ => none }
def fnExactCandidatesForRow : OpenClaim := { program := "ytkjamaacapaokaa", sum := "d054d1abc7406ee89561cece4a17ecef65f638c4a8823530e0ef40506fc393df", func := "loop.example/g00864/laws.FnExactCandidatesFor", spec := "fnExactCandidatesFor", inPlace := ["math.sqrt"], unfollowed := true, recurses := true, apart := false }
def FnExactCandidatesForSaid : Prop := fnExactCandidatesForRow.holds Try.pinned (OpenSpec.ofChange fnExactCandidatesForSpec)

/-- ITS FALSE NEIGHBOUR: 'it returns false'. Refute it at one input. -/
def fnExactCandidatesForWrong : ChangeSpec := { name := "fnExactCandidatesFor", fn := fun _ => fun
  | [d1, d2, d3, d4] => { results := [.lit (.bool false)], args := [d1, d2, d3, d4] }
  | _ => none }
def FnExactCandidatesForWrongFalsely : Prop := fnExactCandidatesForRow.holds Try.pinned (OpenSpec.ofChange fnExactCandidatesForWrong)

/-- 'laws.FnExactApproximateRotation': WHATEVER THE INPUT: true; the input reads as it did. -/
def fnExactApproximateRotationSpec : ChangeSpec := { name := "fnExactApproximateRotation", fn := fun _ => fun
  | [d1, d2, d3] => { results := [.lit (.bool true)], args := [d1, d2, d3] }
  | _ => none }
def fnExactApproximateRotationRow : OpenClaim := { program := "ytkjamaacapaokaa", sum := "d054d1abc7406ee89561cece4a17ecef65f638c4a8823530e0ef40506fc393df", func := "loop.example/g00864/laws.FnExactApproximateRotation", spec := "fnExactApproximateRotation", inPlace := ["math.sqrt"], unfollowed := true, recurses := true, apart := false }
def FnExactApproximateRotationSaid : Prop := fnExactApproximateRotationRow.holds Try.pinned (OpenSpec.ofChange fnExactApproximateRotationSpec)

/-- ITS FALSE NEIGHBOUR: 'it returns false'. Refute it at one input. -/
def fnExactApproximateRotationWrong : ChangeSpec := { name := "fnExactApproximateRotation", fn := fun _ => fun
  | [d1, d2, d3] => { results := [.lit (.bool false)], args := [d1, d2, d3] }
  | _ => none }
def FnExactApproximateRotationWrongFalsely : Prop := fnExactApproximateRotationRow.holds Try.pinned (OpenSpec.ofChange fnExactApproximateRotationWrong)

/- THE SECOND FORM. 'bulk': how many values and letters a reading holds, each counted each time it is reached (what is shared counts as often as it is met; a slice's spare places count too). A statement '..UptoSaid' is the law's where the arguments, and the package variables that the reading takes, are together of bulk at most 1048576: NARROWER than '..Said'. Prove '..Said' where nothing that the law and all that it calls make is longer than what came in: it says more and counts as full. Else prove '..UptoSaid'. A law counts once. -/
mutual
def uptoBulk {H : Type} : DataW H → Nat
  | .lit (.string bytes) => bytes.length + 1
  | .lit _ => 1
  | .nil => 1
  | .ptr d => uptoBulk d + 1
  | .slice elems spare => uptoBulkAll elems + uptoBulkAll spare + 1
  | .agg parts => uptoBulkAll parts + 1
  | .iface _ d => uptoBulk d + 1
  | .map entries => uptoBulkEntries entries + 1
  | .held _ => 1
def uptoBulkAll {H : Type} : List (DataW H) → Nat
  | [] => 0
  | d :: r => uptoBulk d + uptoBulkAll r
def uptoBulkEntries {H : Type} : List (Lit × DataW H) → Nat
  | [] => 0
  | x :: r => uptoBulkEntry x + uptoBulkEntries r
def uptoBulkEntry {H : Type} : Lit × DataW H → Nat
  | (.string bytes, d) => bytes.length + uptoBulk d + 1
  | (_, d) => uptoBulk d + 1
 end
def uptoSmall : (H : Type) → List (DataW H) → Bool := fun _ ds => decide (uptoBulkAll ds ≤ 1048576)
def OpenSpec.upto (s : _root_.Go.ChangeSpec) : _root_.Go.OpenSpec := { _root_.Go.OpenSpec.ofChange s with cond := some uptoSmall }

/-- 'laws.FnExactFactorInt', WHERE WHAT IT READS IS OF BULK AT MOST 1048576: true; the input reads as it did. -/
def fnExactFactorIntUptoRow : OpenClaim := { program := "ytkjamaacapaokaa", sum := "d054d1abc7406ee89561cece4a17ecef65f638c4a8823530e0ef40506fc393df", func := "loop.example/g00864/laws.FnExactFactorInt", spec := "fnExactFactorInt", apart := false, narrowed := true }
def FnExactFactorIntUptoSaid : Prop := fnExactFactorIntUptoRow.holds Try.pinned (OpenSpec.upto fnExactFactorIntSpec)

/-- 'laws.FnExactRotationError', WHERE WHAT IT READS IS OF BULK AT MOST 1048576: true; the input reads as it did. -/
def fnExactRotationErrorUptoRow : OpenClaim := { program := "ytkjamaacapaokaa", sum := "d054d1abc7406ee89561cece4a17ecef65f638c4a8823530e0ef40506fc393df", func := "loop.example/g00864/laws.FnExactRotationError", spec := "fnExactRotationError", apart := false, narrowed := true }
def FnExactRotationErrorUptoSaid : Prop := fnExactRotationErrorUptoRow.holds Try.pinned (OpenSpec.upto fnExactRotationErrorSpec)

/-- 'laws.FnExactMulNorms', WHERE WHAT IT READS IS OF BULK AT MOST 1048576: true; the input reads as it did. -/
def fnExactMulNormsUptoRow : OpenClaim := { program := "ytkjamaacapaokaa", sum := "d054d1abc7406ee89561cece4a17ecef65f638c4a8823530e0ef40506fc393df", func := "loop.example/g00864/laws.FnExactMulNorms", spec := "fnExactMulNorms", apart := false, narrowed := true }
def FnExactMulNormsUptoSaid : Prop := fnExactMulNormsUptoRow.holds Try.pinned (OpenSpec.upto fnExactMulNormsSpec)

/-- 'laws.FnExactIsWithin', WHERE WHAT IT READS IS OF BULK AT MOST 1048576: true; the input reads as it did. -/
def fnExactIsWithinUptoRow : OpenClaim := { program := "ytkjamaacapaokaa", sum := "d054d1abc7406ee89561cece4a17ecef65f638c4a8823530e0ef40506fc393df", func := "loop.example/g00864/laws.FnExactIsWithin", spec := "fnExactIsWithin", apart := false, narrowed := true }
def FnExactIsWithinUptoSaid : Prop := fnExactIsWithinUptoRow.holds Try.pinned (OpenSpec.upto fnExactIsWithinSpec)

/-- 'laws.FnExactIsSumNorm', WHERE WHAT IT READS IS OF BULK AT MOST 1048576: true; the input reads as it did. -/
def fnExactIsSumNormUptoRow : OpenClaim := { program := "ytkjamaacapaokaa", sum := "d054d1abc7406ee89561cece4a17ecef65f638c4a8823530e0ef40506fc393df", func := "loop.example/g00864/laws.FnExactIsSumNorm", spec := "fnExactIsSumNorm", apart := false, narrowed := true }
def FnExactIsSumNormUptoSaid : Prop := fnExactIsSumNormUptoRow.holds Try.pinned (OpenSpec.upto fnExactIsSumNormSpec)

/-- 'laws.FnExactSplitPrime', WHERE WHAT IT READS IS OF BULK AT MOST 1048576: true; the input reads as it did. -/
def fnExactSplitPrimeUptoRow : OpenClaim := { program := "ytkjamaacapaokaa", sum := "d054d1abc7406ee89561cece4a17ecef65f638c4a8823530e0ef40506fc393df", func := "loop.example/g00864/laws.FnExactSplitPrime", spec := "fnExactSplitPrime", inPlace := ["math.sqrt"], apart := false, narrowed := true }
def FnExactSplitPrimeUptoSaid : Prop := fnExactSplitPrimeUptoRow.holds Try.pinned (OpenSpec.upto fnExactSplitPrimeSpec)

/-- 'laws.FnExactCountNorm', WHERE WHAT IT READS IS OF BULK AT MOST 1048576: true; the input reads as it did. -/
def fnExactCountNormUptoRow : OpenClaim := { program := "ytkjamaacapaokaa", sum := "d054d1abc7406ee89561cece4a17ecef65f638c4a8823530e0ef40506fc393df", func := "loop.example/g00864/laws.FnExactCountNorm", spec := "fnExactCountNorm", inPlace := ["math.sqrt"], unfollowed := true, recurses := true, apart := false, narrowed := true }
def FnExactCountNormUptoSaid : Prop := fnExactCountNormUptoRow.holds Try.pinned (OpenSpec.upto fnExactCountNormSpec)

/-- 'laws.FnExactSolveNorm', WHERE WHAT IT READS IS OF BULK AT MOST 1048576: true; the input reads as it did. -/
def fnExactSolveNormUptoRow : OpenClaim := { program := "ytkjamaacapaokaa", sum := "d054d1abc7406ee89561cece4a17ecef65f638c4a8823530e0ef40506fc393df", func := "loop.example/g00864/laws.FnExactSolveNorm", spec := "fnExactSolveNorm", inPlace := ["math.sqrt"], unfollowed := true, recurses := true, apart := false, narrowed := true }
def FnExactSolveNormUptoSaid : Prop := fnExactSolveNormUptoRow.holds Try.pinned (OpenSpec.upto fnExactSolveNormSpec)

/-- 'laws.FnFactors', WHERE WHAT IT READS IS OF BULK AT MOST 1048576: true; the input reads as it did. -/
def fnFactorsUptoRow : OpenClaim := { program := "ytkjamaacapaokaa", sum := "d054d1abc7406ee89561cece4a17ecef65f638c4a8823530e0ef40506fc393df", func := "loop.example/g00864/laws.FnFactors", spec := "fnFactors", inPlace := ["math.sqrt"], apart := false, narrowed := true }
def FnFactorsUptoSaid : Prop := fnFactorsUptoRow.holds Try.pinned (OpenSpec.upto fnFactorsSpec)

/-- 'laws.FnNormEquation', WHERE WHAT IT READS IS OF BULK AT MOST 1048576: true; the input reads as it did. -/
def fnNormEquationUptoRow : OpenClaim := { program := "ytkjamaacapaokaa", sum := "d054d1abc7406ee89561cece4a17ecef65f638c4a8823530e0ef40506fc393df", func := "loop.example/g00864/laws.FnNormEquation", spec := "fnNormEquation", inPlace := ["math.sqrt"], unfollowed := true, recurses := true, apart := false, narrowed := true }
def FnNormEquationUptoSaid : Prop := fnNormEquationUptoRow.holds Try.pinned (OpenSpec.upto fnNormEquationSpec)

/-- 'laws.FnExactCandidatesFor', WHERE WHAT IT READS IS OF BULK AT MOST 1048576: true; the input reads as it did. -/
def fnExactCandidatesForUptoRow : OpenClaim := { program := "ytkjamaacapaokaa", sum := "d054d1abc7406ee89561cece4a17ecef65f638c4a8823530e0ef40506fc393df", func := "loop.example/g00864/laws.FnExactCandidatesFor", spec := "fnExactCandidatesFor", inPlace := ["math.sqrt"], unfollowed := true, recurses := true, apart := false, narrowed := true }
def FnExactCandidatesForUptoSaid : Prop := fnExactCandidatesForUptoRow.holds Try.pinned (OpenSpec.upto fnExactCandidatesForSpec)

/-- 'laws.FnExactApproximateRotation', WHERE WHAT IT READS IS OF BULK AT MOST 1048576: true; the input reads as it did. -/
def fnExactApproximateRotationUptoRow : OpenClaim := { program := "ytkjamaacapaokaa", sum := "d054d1abc7406ee89561cece4a17ecef65f638c4a8823530e0ef40506fc393df", func := "loop.example/g00864/laws.FnExactApproximateRotation", spec := "fnExactApproximateRotation", inPlace := ["math.sqrt"], unfollowed := true, recurses := true, apart := false, narrowed := true }
def FnExactApproximateRotationUptoSaid : Prop := fnExactApproximateRotationUptoRow.holds Try.pinned (OpenSpec.upto fnExactApproximateRotationSpec)

end Rows
end Go.Proofs.Ytkjamaacapaokaa
