/-
  No cell of these rows narrows 'for every input' (looked for: loops, veiled, ifaces, maps, wideKeys, modest, calm, conditions, laid).
  DERIVED. THE GIVEN ROWS OF THIS SEAT. 12 by the template 'for every input the law returns true; each argument reads behind the call as it read before'; 0 by the template 'total and deterministic' (their statements: YtgcgkmddmmbaiaaTotals.lean).
  GIVEN WITH THE SEED: the statements are not yours to turn. If you find one false, say at which input.
  Laid BY PROGRAM, IN A SANDBOX (cutbox-rows.mjs): the forced cells as the released guide's own fill.sh prints them over the translation a57f43f0a4d2fa89… (all of the seat's roots in one cut). By AI agents, Wed Nov 11 2026. No macro, syntax, notation, axiom, sorry.
-/
import Derived.Test.YtgcgkmddmmbaiaaChecked
import GoSem.Claim
import GoSem.ClaimJoined
import GoSem.ClaimMapViews
import Derived.JoinedTies
import Derived.KernelRfl
namespace Go.Proofs.Ytgcgkmddmmbaiaa
/- THE CELL 'sum', in the pinned program and in every row, IS THE sha256 OF THE DUMP (.gsa) THAT YtgcgkmddmmbaiaaProg.lean LOADS. Nothing in Lean hashes anything: it is a label: what it is worth is what the hold of that sum in a sandbox is worth. -/
noncomputable def Try.pinned : Pinned := { name := "ytgcgkmddmmbaiaa", sum := "a57f43f0a4d2fa892b105a811d64cfba12d3b71e10fab7cfbe4589aeb986d48b", checked := Try.checked }
namespace Rows
def none {H : Type} : Left H := { results := [], args := [] }

/-- 'laws.FnExactIsValidTarget': WHATEVER THE INPUT: true; the input reads as it did. -/
def fnExactIsValidTargetSpec : ChangeSpec := { name := "fnExactIsValidTarget", fn := fun _ => fun
  | [d] => { results := [.lit (.bool true)], args := [d] }
  | _ => none }
def fnExactIsValidTargetRow : OpenClaim := { program := "ytgcgkmddmmbaiaa", sum := "a57f43f0a4d2fa892b105a811d64cfba12d3b71e10fab7cfbe4589aeb986d48b", func := "loop.example/g00864/laws.FnExactIsValidTarget", spec := "fnExactIsValidTarget", apart := false }
def FnExactIsValidTargetSaid : Prop := fnExactIsValidTargetRow.holds Try.pinned (OpenSpec.ofChange fnExactIsValidTargetSpec)

/-- ITS FALSE NEIGHBOUR: 'it returns false'. Refute it at one input. -/
def fnExactIsValidTargetWrong : ChangeSpec := { name := "fnExactIsValidTarget", fn := fun _ => fun
  | [d] => { results := [.lit (.bool false)], args := [d] }
  | _ => none }
def FnExactIsValidTargetWrongFalsely : Prop := fnExactIsValidTargetRow.holds Try.pinned (OpenSpec.ofChange fnExactIsValidTargetWrong)

/-- 'laws.FnExactIsValidRange': WHATEVER THE INPUT: true; the input reads as it did. -/
def fnExactIsValidRangeSpec : ChangeSpec := { name := "fnExactIsValidRange", fn := fun _ => fun
  | [d] => { results := [.lit (.bool true)], args := [d] }
  | _ => none }
def fnExactIsValidRangeRow : OpenClaim := { program := "ytgcgkmddmmbaiaa", sum := "a57f43f0a4d2fa892b105a811d64cfba12d3b71e10fab7cfbe4589aeb986d48b", func := "loop.example/g00864/laws.FnExactIsValidRange", spec := "fnExactIsValidRange", apart := false }
def FnExactIsValidRangeSaid : Prop := fnExactIsValidRangeRow.holds Try.pinned (OpenSpec.ofChange fnExactIsValidRangeSpec)

/-- ITS FALSE NEIGHBOUR: 'it returns false'. Refute it at one input. -/
def fnExactIsValidRangeWrong : ChangeSpec := { name := "fnExactIsValidRange", fn := fun _ => fun
  | [d] => { results := [.lit (.bool false)], args := [d] }
  | _ => none }
def FnExactIsValidRangeWrongFalsely : Prop := fnExactIsValidRangeRow.holds Try.pinned (OpenSpec.ofChange fnExactIsValidRangeWrong)

/-- 'laws.FnExactNormRoot2': WHATEVER THE INPUT: true; the input reads as it did. -/
def fnExactNormRoot2Spec : ChangeSpec := { name := "fnExactNormRoot2", fn := fun _ => fun
  | [d] => { results := [.lit (.bool true)], args := [d] }
  | _ => none }
def fnExactNormRoot2Row : OpenClaim := { program := "ytgcgkmddmmbaiaa", sum := "a57f43f0a4d2fa892b105a811d64cfba12d3b71e10fab7cfbe4589aeb986d48b", func := "loop.example/g00864/laws.FnExactNormRoot2", spec := "fnExactNormRoot2", apart := false }
def FnExactNormRoot2Said : Prop := fnExactNormRoot2Row.holds Try.pinned (OpenSpec.ofChange fnExactNormRoot2Spec)

/-- ITS FALSE NEIGHBOUR: 'it returns false'. Refute it at one input. -/
def fnExactNormRoot2Wrong : ChangeSpec := { name := "fnExactNormRoot2", fn := fun _ => fun
  | [d] => { results := [.lit (.bool false)], args := [d] }
  | _ => none }
def FnExactNormRoot2WrongFalsely : Prop := fnExactNormRoot2Row.holds Try.pinned (OpenSpec.ofChange fnExactNormRoot2Wrong)

/-- 'laws.FnExactTargetOf': WHATEVER THE INPUT: true; the input reads as it did. -/
def fnExactTargetOfSpec : ChangeSpec := { name := "fnExactTargetOf", fn := fun _ => fun
  | [d1, d2] => { results := [.lit (.bool true)], args := [d1, d2] }
  | _ => none }
def fnExactTargetOfRow : OpenClaim := { program := "ytgcgkmddmmbaiaa", sum := "a57f43f0a4d2fa892b105a811d64cfba12d3b71e10fab7cfbe4589aeb986d48b", func := "loop.example/g00864/laws.FnExactTargetOf", spec := "fnExactTargetOf", apart := false }
def FnExactTargetOfSaid : Prop := fnExactTargetOfRow.holds Try.pinned (OpenSpec.ofChange fnExactTargetOfSpec)

/-- ITS FALSE NEIGHBOUR: 'it returns false'. Refute it at one input. -/
def fnExactTargetOfWrong : ChangeSpec := { name := "fnExactTargetOf", fn := fun _ => fun
  | [d1, d2] => { results := [.lit (.bool false)], args := [d1, d2] }
  | _ => none }
def FnExactTargetOfWrongFalsely : Prop := fnExactTargetOfRow.holds Try.pinned (OpenSpec.ofChange fnExactTargetOfWrong)

/-- 'laws.FnExactPassNames': WHATEVER THE INPUT: true; the input reads as it did. -/
def fnExactPassNamesSpec : ChangeSpec := { name := "fnExactPassNames", fn := fun _ => fun
  | [] => { results := [.lit (.bool true)], args := [] }
  | _ => none }
def fnExactPassNamesRow : OpenClaim := { program := "ytgcgkmddmmbaiaa", sum := "a57f43f0a4d2fa892b105a811d64cfba12d3b71e10fab7cfbe4589aeb986d48b", func := "loop.example/g00864/laws.FnExactPassNames", spec := "fnExactPassNames", apart := false }
def FnExactPassNamesSaid : Prop := fnExactPassNamesRow.holds Try.pinned (OpenSpec.ofChange fnExactPassNamesSpec)

/-- ITS FALSE NEIGHBOUR: 'it returns false'. Refute it at one input. -/
def fnExactPassNamesWrong : ChangeSpec := { name := "fnExactPassNames", fn := fun _ => fun
  | [] => { results := [.lit (.bool false)], args := [] }
  | _ => none }
def FnExactPassNamesWrongFalsely : Prop := fnExactPassNamesRow.holds Try.pinned (OpenSpec.ofChange fnExactPassNamesWrong)

/-- 'laws.FnExactMulRoot2': WHATEVER THE INPUT: true; the input reads as it did. -/
def fnExactMulRoot2Spec : ChangeSpec := { name := "fnExactMulRoot2", fn := fun _ => fun
  | [d1, d2] => { results := [.lit (.bool true)], args := [d1, d2] }
  | _ => none }
def fnExactMulRoot2Row : OpenClaim := { program := "ytgcgkmddmmbaiaa", sum := "a57f43f0a4d2fa892b105a811d64cfba12d3b71e10fab7cfbe4589aeb986d48b", func := "loop.example/g00864/laws.FnExactMulRoot2", spec := "fnExactMulRoot2", apart := false }
def FnExactMulRoot2Said : Prop := fnExactMulRoot2Row.holds Try.pinned (OpenSpec.ofChange fnExactMulRoot2Spec)

/-- ITS FALSE NEIGHBOUR: 'it returns false'. Refute it at one input. -/
def fnExactMulRoot2Wrong : ChangeSpec := { name := "fnExactMulRoot2", fn := fun _ => fun
  | [d1, d2] => { results := [.lit (.bool false)], args := [d1, d2] }
  | _ => none }
def FnExactMulRoot2WrongFalsely : Prop := fnExactMulRoot2Row.holds Try.pinned (OpenSpec.ofChange fnExactMulRoot2Wrong)

/-- 'laws.FnExactIsValidApproximation': WHATEVER THE INPUT: true; the input reads as it did. -/
def fnExactIsValidApproximationSpec : ChangeSpec := { name := "fnExactIsValidApproximation", fn := fun _ => fun
  | [d] => { results := [.lit (.bool true)], args := [d] }
  | _ => none }
def fnExactIsValidApproximationRow : OpenClaim := { program := "ytgcgkmddmmbaiaa", sum := "a57f43f0a4d2fa892b105a811d64cfba12d3b71e10fab7cfbe4589aeb986d48b", func := "loop.example/g00864/laws.FnExactIsValidApproximation", spec := "fnExactIsValidApproximation", apart := false }
def FnExactIsValidApproximationSaid : Prop := fnExactIsValidApproximationRow.holds Try.pinned (OpenSpec.ofChange fnExactIsValidApproximationSpec)

/-- ITS FALSE NEIGHBOUR: 'it returns false'. Refute it at one input. -/
def fnExactIsValidApproximationWrong : ChangeSpec := { name := "fnExactIsValidApproximation", fn := fun _ => fun
  | [d] => { results := [.lit (.bool false)], args := [d] }
  | _ => none }
def FnExactIsValidApproximationWrongFalsely : Prop := fnExactIsValidApproximationRow.holds Try.pinned (OpenSpec.ofChange fnExactIsValidApproximationWrong)

/-- 'laws.FnExactIsPrimeInt': WHATEVER THE INPUT: true; the input reads as it did. -/
def fnExactIsPrimeIntSpec : ChangeSpec := { name := "fnExactIsPrimeInt", fn := fun _ => fun
  | [d] => { results := [.lit (.bool true)], args := [d] }
  | _ => none }
def fnExactIsPrimeIntRow : OpenClaim := { program := "ytgcgkmddmmbaiaa", sum := "a57f43f0a4d2fa892b105a811d64cfba12d3b71e10fab7cfbe4589aeb986d48b", func := "loop.example/g00864/laws.FnExactIsPrimeInt", spec := "fnExactIsPrimeInt", apart := false }
def FnExactIsPrimeIntSaid : Prop := fnExactIsPrimeIntRow.holds Try.pinned (OpenSpec.ofChange fnExactIsPrimeIntSpec)

/-- ITS FALSE NEIGHBOUR: 'it returns false'. Refute it at one input. -/
def fnExactIsPrimeIntWrong : ChangeSpec := { name := "fnExactIsPrimeInt", fn := fun _ => fun
  | [d] => { results := [.lit (.bool false)], args := [d] }
  | _ => none }
def FnExactIsPrimeIntWrongFalsely : Prop := fnExactIsPrimeIntRow.holds Try.pinned (OpenSpec.ofChange fnExactIsPrimeIntWrong)

/-- 'laws.FnExactCompareCosts': WHATEVER THE INPUT: true; the input reads as it did. -/
def fnExactCompareCostsSpec : ChangeSpec := { name := "fnExactCompareCosts", fn := fun _ => fun
  | [d1, d2] => { results := [.lit (.bool true)], args := [d1, d2] }
  | _ => none }
def fnExactCompareCostsRow : OpenClaim := { program := "ytgcgkmddmmbaiaa", sum := "a57f43f0a4d2fa892b105a811d64cfba12d3b71e10fab7cfbe4589aeb986d48b", func := "loop.example/g00864/laws.FnExactCompareCosts", spec := "fnExactCompareCosts", apart := false }
def FnExactCompareCostsSaid : Prop := fnExactCompareCostsRow.holds Try.pinned (OpenSpec.ofChange fnExactCompareCostsSpec)

/-- ITS FALSE NEIGHBOUR: 'it returns false'. Refute it at one input. -/
def fnExactCompareCostsWrong : ChangeSpec := { name := "fnExactCompareCosts", fn := fun _ => fun
  | [d1, d2] => { results := [.lit (.bool false)], args := [d1, d2] }
  | _ => none }
def FnExactCompareCostsWrongFalsely : Prop := fnExactCompareCostsRow.holds Try.pinned (OpenSpec.ofChange fnExactCompareCostsWrong)

/-- 'laws.FnExactCompareRoot2': WHATEVER THE INPUT: true; the input reads as it did. -/
def fnExactCompareRoot2Spec : ChangeSpec := { name := "fnExactCompareRoot2", fn := fun _ => fun
  | [d1, d2] => { results := [.lit (.bool true)], args := [d1, d2] }
  | _ => none }
def fnExactCompareRoot2Row : OpenClaim := { program := "ytgcgkmddmmbaiaa", sum := "a57f43f0a4d2fa892b105a811d64cfba12d3b71e10fab7cfbe4589aeb986d48b", func := "loop.example/g00864/laws.FnExactCompareRoot2", spec := "fnExactCompareRoot2", apart := false }
def FnExactCompareRoot2Said : Prop := fnExactCompareRoot2Row.holds Try.pinned (OpenSpec.ofChange fnExactCompareRoot2Spec)

/-- ITS FALSE NEIGHBOUR: 'it returns false'. Refute it at one input. -/
def fnExactCompareRoot2Wrong : ChangeSpec := { name := "fnExactCompareRoot2", fn := fun _ => fun
  | [d1, d2] => { results := [.lit (.bool false)], args := [d1, d2] }
  | _ => none }
def FnExactCompareRoot2WrongFalsely : Prop := fnExactCompareRoot2Row.holds Try.pinned (OpenSpec.ofChange fnExactCompareRoot2Wrong)

/-- 'laws.FnExactIsDoublyPositive': WHATEVER THE INPUT: true; the input reads as it did. -/
def fnExactIsDoublyPositiveSpec : ChangeSpec := { name := "fnExactIsDoublyPositive", fn := fun _ => fun
  | [d] => { results := [.lit (.bool true)], args := [d] }
  | _ => none }
def fnExactIsDoublyPositiveRow : OpenClaim := { program := "ytgcgkmddmmbaiaa", sum := "a57f43f0a4d2fa892b105a811d64cfba12d3b71e10fab7cfbe4589aeb986d48b", func := "loop.example/g00864/laws.FnExactIsDoublyPositive", spec := "fnExactIsDoublyPositive", apart := false }
def FnExactIsDoublyPositiveSaid : Prop := fnExactIsDoublyPositiveRow.holds Try.pinned (OpenSpec.ofChange fnExactIsDoublyPositiveSpec)

/-- ITS FALSE NEIGHBOUR: 'it returns false'. Refute it at one input. -/
def fnExactIsDoublyPositiveWrong : ChangeSpec := { name := "fnExactIsDoublyPositive", fn := fun _ => fun
  | [d] => { results := [.lit (.bool false)], args := [d] }
  | _ => none }
def FnExactIsDoublyPositiveWrongFalsely : Prop := fnExactIsDoublyPositiveRow.holds Try.pinned (OpenSpec.ofChange fnExactIsDoublyPositiveWrong)

/-- 'laws.FnExactInRange': WHATEVER THE INPUT: true; the input reads as it did. -/
def fnExactInRangeSpec : ChangeSpec := { name := "fnExactInRange", fn := fun _ => fun
  | [d1, d2] => { results := [.lit (.bool true)], args := [d1, d2] }
  | _ => none }
def fnExactInRangeRow : OpenClaim := { program := "ytgcgkmddmmbaiaa", sum := "a57f43f0a4d2fa892b105a811d64cfba12d3b71e10fab7cfbe4589aeb986d48b", func := "loop.example/g00864/laws.FnExactInRange", spec := "fnExactInRange", apart := false }
def FnExactInRangeSaid : Prop := fnExactInRangeRow.holds Try.pinned (OpenSpec.ofChange fnExactInRangeSpec)

/-- ITS FALSE NEIGHBOUR: 'it returns false'. Refute it at one input. -/
def fnExactInRangeWrong : ChangeSpec := { name := "fnExactInRange", fn := fun _ => fun
  | [d1, d2] => { results := [.lit (.bool false)], args := [d1, d2] }
  | _ => none }
def FnExactInRangeWrongFalsely : Prop := fnExactInRangeRow.holds Try.pinned (OpenSpec.ofChange fnExactInRangeWrong)

/- THE SECOND FORM. 'bulk': how many values and letters a reading holds, each counted each time it is reached (what is shared counts as often as it is met; a slice's spare places count too). A statement '..UptoSaid' is the law's where the arguments, and the package variables that the reading takes, are together of bulk at most 1048576: NARROWER than '..Said'. Prove '..Said' where nothing that the law and all that it calls make is longer than what came in: it says more and counts as full. Else prove '..UptoSaid'. A law counts once. -/
mutual
def uptoBulk {H : Type} : DataW H → Nat
  | .lit (.string bytes) => bytes.length + 1
  | .lit _ => 1
  | .nil => 1
  | .ptr d => uptoBulk d + 1
  | .slice elems spare => uptoBulkAll elems + uptoBulkAll spare + 1
  | .agg parts => uptoBulkAll parts + 1
  | .iface _ d => uptoBulk d + 1
  | .map entries => uptoBulkEntries entries + 1
  | .held _ => 1
def uptoBulkAll {H : Type} : List (DataW H) → Nat
  | [] => 0
  | d :: r => uptoBulk d + uptoBulkAll r
def uptoBulkEntries {H : Type} : List (Lit × DataW H) → Nat
  | [] => 0
  | x :: r => uptoBulkEntry x + uptoBulkEntries r
def uptoBulkEntry {H : Type} : Lit × DataW H → Nat
  | (.string bytes, d) => bytes.length + uptoBulk d + 1
  | (_, d) => uptoBulk d + 1
 end
def uptoSmall : (H : Type) → List (DataW H) → Bool := fun _ ds => decide (uptoBulkAll ds ≤ 1048576)
def OpenSpec.upto (s : _root_.Go.ChangeSpec) : _root_.Go.OpenSpec := { _root_.Go.OpenSpec.ofChange s with cond := some uptoSmall }

/-- 'laws.FnExactIsValidTarget', WHERE WHAT IT READS IS OF BULK AT MOST 1048576: true; the input reads as it did. -/
def fnExactIsValidTargetUptoRow : OpenClaim := { program := "ytgcgkmddmmbaiaa", sum := "a57f43f0a4d2fa892b105a811d64cfba12d3b71e10fab7cfbe4589aeb986d48b", func := "loop.example/g00864/laws.FnExactIsValidTarget", spec := "fnExactIsValidTarget", apart := false, narrowed := true }
def FnExactIsValidTargetUptoSaid : Prop := fnExactIsValidTargetUptoRow.holds Try.pinned (OpenSpec.upto fnExactIsValidTargetSpec)

/-- 'laws.FnExactIsValidRange', WHERE WHAT IT READS IS OF BULK AT MOST 1048576: true; the input reads as it did. -/
def fnExactIsValidRangeUptoRow : OpenClaim := { program := "ytgcgkmddmmbaiaa", sum := "a57f43f0a4d2fa892b105a811d64cfba12d3b71e10fab7cfbe4589aeb986d48b", func := "loop.example/g00864/laws.FnExactIsValidRange", spec := "fnExactIsValidRange", apart := false, narrowed := true }
def FnExactIsValidRangeUptoSaid : Prop := fnExactIsValidRangeUptoRow.holds Try.pinned (OpenSpec.upto fnExactIsValidRangeSpec)

/-- 'laws.FnExactNormRoot2', WHERE WHAT IT READS IS OF BULK AT MOST 1048576: true; the input reads as it did. -/
def fnExactNormRoot2UptoRow : OpenClaim := { program := "ytgcgkmddmmbaiaa", sum := "a57f43f0a4d2fa892b105a811d64cfba12d3b71e10fab7cfbe4589aeb986d48b", func := "loop.example/g00864/laws.FnExactNormRoot2", spec := "fnExactNormRoot2", apart := false, narrowed := true }
def FnExactNormRoot2UptoSaid : Prop := fnExactNormRoot2UptoRow.holds Try.pinned (OpenSpec.upto fnExactNormRoot2Spec)

/-- 'laws.FnExactTargetOf', WHERE WHAT IT READS IS OF BULK AT MOST 1048576: true; the input reads as it did. -/
def fnExactTargetOfUptoRow : OpenClaim := { program := "ytgcgkmddmmbaiaa", sum := "a57f43f0a4d2fa892b105a811d64cfba12d3b71e10fab7cfbe4589aeb986d48b", func := "loop.example/g00864/laws.FnExactTargetOf", spec := "fnExactTargetOf", apart := false, narrowed := true }
def FnExactTargetOfUptoSaid : Prop := fnExactTargetOfUptoRow.holds Try.pinned (OpenSpec.upto fnExactTargetOfSpec)

/-- 'laws.FnExactPassNames', WHERE WHAT IT READS IS OF BULK AT MOST 1048576: true; the input reads as it did. -/
def fnExactPassNamesUptoRow : OpenClaim := { program := "ytgcgkmddmmbaiaa", sum := "a57f43f0a4d2fa892b105a811d64cfba12d3b71e10fab7cfbe4589aeb986d48b", func := "loop.example/g00864/laws.FnExactPassNames", spec := "fnExactPassNames", apart := false, narrowed := true }
def FnExactPassNamesUptoSaid : Prop := fnExactPassNamesUptoRow.holds Try.pinned (OpenSpec.upto fnExactPassNamesSpec)

/-- 'laws.FnExactMulRoot2', WHERE WHAT IT READS IS OF BULK AT MOST 1048576: true; the input reads as it did. -/
def fnExactMulRoot2UptoRow : OpenClaim := { program := "ytgcgkmddmmbaiaa", sum := "a57f43f0a4d2fa892b105a811d64cfba12d3b71e10fab7cfbe4589aeb986d48b", func := "loop.example/g00864/laws.FnExactMulRoot2", spec := "fnExactMulRoot2", apart := false, narrowed := true }
def FnExactMulRoot2UptoSaid : Prop := fnExactMulRoot2UptoRow.holds Try.pinned (OpenSpec.upto fnExactMulRoot2Spec)

/-- 'laws.FnExactIsValidApproximation', WHERE WHAT IT READS IS OF BULK AT MOST 1048576: true; the input reads as it did. -/
def fnExactIsValidApproximationUptoRow : OpenClaim := { program := "ytgcgkmddmmbaiaa", sum := "a57f43f0a4d2fa892b105a811d64cfba12d3b71e10fab7cfbe4589aeb986d48b", func := "loop.example/g00864/laws.FnExactIsValidApproximation", spec := "fnExactIsValidApproximation", apart := false, narrowed := true }
def FnExactIsValidApproximationUptoSaid : Prop := fnExactIsValidApproximationUptoRow.holds Try.pinned (OpenSpec.upto fnExactIsValidApproximationSpec)

/-- 'laws.FnExactIsPrimeInt', WHERE WHAT IT READS IS OF BULK AT MOST 1048576: true; the input reads as it did. -/
def fnExactIsPrimeIntUptoRow : OpenClaim := { program := "ytgcgkmddmmbaiaa", sum := "a57f43f0a4d2fa892b105a811d64cfba12d3b71e10fab7cfbe4589aeb986d48b", func := "loop.example/g00864/laws.FnExactIsPrimeInt", spec := "fnExactIsPrimeInt", apart := false, narrowed := true }
def FnExactIsPrimeIntUptoSaid : Prop := fnExactIsPrimeIntUptoRow.holds Try.pinned (OpenSpec.upto fnExactIsPrimeIntSpec)

/-- 'laws.FnExactCompareCosts', WHERE WHAT IT READS IS OF BULK AT MOST 1048576: true; the input reads as it did. -/
def fnExactCompareCostsUptoRow : OpenClaim := { program := "ytgcgkmddmmbaiaa", sum := "a57f43f0a4d2fa892b105a811d64cfba12d3b71e10fab7cfbe4589aeb986d48b", func := "loop.example/g00864/laws.FnExactCompareCosts", spec := "fnExactCompareCosts", apart := false, narrowed := true }
def FnExactCompareCostsUptoSaid : Prop := fnExactCompareCostsUptoRow.holds Try.pinned (OpenSpec.upto fnExactCompareCostsSpec)

/-- 'laws.FnExactCompareRoot2', WHERE WHAT IT READS IS OF BULK AT MOST 1048576: true; the input reads as it did. -/
def fnExactCompareRoot2UptoRow : OpenClaim := { program := "ytgcgkmddmmbaiaa", sum := "a57f43f0a4d2fa892b105a811d64cfba12d3b71e10fab7cfbe4589aeb986d48b", func := "loop.example/g00864/laws.FnExactCompareRoot2", spec := "fnExactCompareRoot2", apart := false, narrowed := true }
def FnExactCompareRoot2UptoSaid : Prop := fnExactCompareRoot2UptoRow.holds Try.pinned (OpenSpec.upto fnExactCompareRoot2Spec)

/-- 'laws.FnExactIsDoublyPositive', WHERE WHAT IT READS IS OF BULK AT MOST 1048576: true; the input reads as it did. -/
def fnExactIsDoublyPositiveUptoRow : OpenClaim := { program := "ytgcgkmddmmbaiaa", sum := "a57f43f0a4d2fa892b105a811d64cfba12d3b71e10fab7cfbe4589aeb986d48b", func := "loop.example/g00864/laws.FnExactIsDoublyPositive", spec := "fnExactIsDoublyPositive", apart := false, narrowed := true }
def FnExactIsDoublyPositiveUptoSaid : Prop := fnExactIsDoublyPositiveUptoRow.holds Try.pinned (OpenSpec.upto fnExactIsDoublyPositiveSpec)

/-- 'laws.FnExactInRange', WHERE WHAT IT READS IS OF BULK AT MOST 1048576: true; the input reads as it did. -/
def fnExactInRangeUptoRow : OpenClaim := { program := "ytgcgkmddmmbaiaa", sum := "a57f43f0a4d2fa892b105a811d64cfba12d3b71e10fab7cfbe4589aeb986d48b", func := "loop.example/g00864/laws.FnExactInRange", spec := "fnExactInRange", apart := false, narrowed := true }
def FnExactInRangeUptoSaid : Prop := fnExactInRangeUptoRow.holds Try.pinned (OpenSpec.upto fnExactInRangeSpec)

end Rows
end Go.Proofs.Ytgcgkmddmmbaiaa
