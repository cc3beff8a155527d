/-
  No cell of these rows narrows 'for every input' (looked for: loops, veiled, ifaces, maps, wideKeys, modest, calm, conditions, laid).
  DERIVED. THE GIVEN ROWS OF THIS SEAT. 11 by the template 'for every input the law returns true; each argument reads behind the call as it read before'; 0 by the template 'total and deterministic' (their statements: YtjeahopiejcopaaTotals.lean).
  GIVEN WITH THE SEED: the statements are not yours to turn. If you find one false, say at which input.
  Laid BY PROGRAM, IN A SANDBOX (cutbox-rows.mjs): the forced cells as the released guide's own fill.sh prints them over the translation 2fbea7188695846c… (all of the seat's roots in one cut). By AI agents, Wed Nov 11 2026. No macro, syntax, notation, axiom, sorry.
-/
import Derived.Test.YtjeahopiejcopaaChecked
import GoSem.Claim
import GoSem.ClaimJoined
import GoSem.ClaimMapViews
import Derived.JoinedTies
import Derived.KernelRfl
namespace Go.Proofs.Ytjeahopiejcopaa
/- THE CELL 'sum', in the pinned program and in every row, IS THE sha256 OF THE DUMP (.gsa) THAT YtjeahopiejcopaaProg.lean LOADS. Nothing in Lean hashes anything: it is a label: what it is worth is what the hold of that sum in a sandbox is worth. -/
noncomputable def Try.pinned : Pinned := { name := "ytjeahopiejcopaa", sum := "2fbea7188695846cbf516bf58a22c47a734d5a607a250b9c17104397a065e35e", checked := Try.checked }
namespace Rows
def none {H : Type} : Left H := { results := [], args := [] }

/-- 'laws.FnExactIsValidReplacement': WHATEVER THE INPUT: true; the input reads as it did. -/
def fnExactIsValidReplacementSpec : ChangeSpec := { name := "fnExactIsValidReplacement", fn := fun _ => fun
  | [d1, d2] => { results := [.lit (.bool true)], args := [d1, d2] }
  | _ => none }
def fnExactIsValidReplacementRow : OpenClaim := { program := "ytjeahopiejcopaa", sum := "2fbea7188695846cbf516bf58a22c47a734d5a607a250b9c17104397a065e35e", func := "loop.example/g00864/laws.FnExactIsValidReplacement", spec := "fnExactIsValidReplacement", unfollowed := true, recurses := true, apart := false }
def FnExactIsValidReplacementSaid : Prop := fnExactIsValidReplacementRow.holds Try.pinned (OpenSpec.ofChange fnExactIsValidReplacementSpec)

/-- ITS FALSE NEIGHBOUR: 'it returns false'. Refute it at one input. -/
def fnExactIsValidReplacementWrong : ChangeSpec := { name := "fnExactIsValidReplacement", fn := fun _ => fun
  | [d1, d2] => { results := [.lit (.bool false)], args := [d1, d2] }
  | _ => none }
def FnExactIsValidReplacementWrongFalsely : Prop := fnExactIsValidReplacementRow.holds Try.pinned (OpenSpec.ofChange fnExactIsValidReplacementWrong)

/-- 'laws.FnExactRestoreGates': WHATEVER THE INPUT: true; the input reads as it did. -/
def fnExactRestoreGatesSpec : ChangeSpec := { name := "fnExactRestoreGates", fn := fun _ => fun
  | [d1, d2] => { results := [.lit (.bool true)], args := [d1, d2] }
  | _ => none }
def fnExactRestoreGatesRow : OpenClaim := { program := "ytjeahopiejcopaa", sum := "2fbea7188695846cbf516bf58a22c47a734d5a607a250b9c17104397a065e35e", func := "loop.example/g00864/laws.FnExactRestoreGates", spec := "fnExactRestoreGates", apart := false }
def FnExactRestoreGatesSaid : Prop := fnExactRestoreGatesRow.holds Try.pinned (OpenSpec.ofChange fnExactRestoreGatesSpec)

/-- ITS FALSE NEIGHBOUR: 'it returns false'. Refute it at one input. -/
def fnExactRestoreGatesWrong : ChangeSpec := { name := "fnExactRestoreGates", fn := fun _ => fun
  | [d1, d2] => { results := [.lit (.bool false)], args := [d1, d2] }
  | _ => none }
def FnExactRestoreGatesWrongFalsely : Prop := fnExactRestoreGatesRow.holds Try.pinned (OpenSpec.ofChange fnExactRestoreGatesWrong)

/-- 'laws.FnExactCostOf': WHATEVER THE INPUT: true; the input reads as it did. -/
def fnExactCostOfSpec : ChangeSpec := { name := "fnExactCostOf", fn := fun _ => fun
  | [d] => { results := [.lit (.bool true)], args := [d] }
  | _ => none }
def fnExactCostOfRow : OpenClaim := { program := "ytjeahopiejcopaa", sum := "2fbea7188695846cbf516bf58a22c47a734d5a607a250b9c17104397a065e35e", func := "loop.example/g00864/laws.FnExactCostOf", spec := "fnExactCostOf", unfollowed := true, recurses := true, apart := false }
def FnExactCostOfSaid : Prop := fnExactCostOfRow.holds Try.pinned (OpenSpec.ofChange fnExactCostOfSpec)

/-- ITS FALSE NEIGHBOUR: 'it returns false'. Refute it at one input. -/
def fnExactCostOfWrong : ChangeSpec := { name := "fnExactCostOf", fn := fun _ => fun
  | [d] => { results := [.lit (.bool false)], args := [d] }
  | _ => none }
def FnExactCostOfWrongFalsely : Prop := fnExactCostOfRow.holds Try.pinned (OpenSpec.ofChange fnExactCostOfWrong)

/-- 'laws.FnExactSummaryOf': WHATEVER THE INPUT: true; the input reads as it did. -/
def fnExactSummaryOfSpec : ChangeSpec := { name := "fnExactSummaryOf", fn := fun _ => fun
  | [d] => { results := [.lit (.bool true)], args := [d] }
  | _ => none }
def fnExactSummaryOfRow : OpenClaim := { program := "ytjeahopiejcopaa", sum := "2fbea7188695846cbf516bf58a22c47a734d5a607a250b9c17104397a065e35e", func := "loop.example/g00864/laws.FnExactSummaryOf", spec := "fnExactSummaryOf", unfollowed := true, recurses := true, apart := false }
def FnExactSummaryOfSaid : Prop := fnExactSummaryOfRow.holds Try.pinned (OpenSpec.ofChange fnExactSummaryOfSpec)

/-- ITS FALSE NEIGHBOUR: 'it returns false'. Refute it at one input. -/
def fnExactSummaryOfWrong : ChangeSpec := { name := "fnExactSummaryOf", fn := fun _ => fun
  | [d] => { results := [.lit (.bool false)], args := [d] }
  | _ => none }
def FnExactSummaryOfWrongFalsely : Prop := fnExactSummaryOfRow.holds Try.pinned (OpenSpec.ofChange fnExactSummaryOfWrong)

/-- 'laws.FnExactApplyReplacement': WHATEVER THE INPUT: true; the input reads as it did. -/
def fnExactApplyReplacementSpec : ChangeSpec := { name := "fnExactApplyReplacement", fn := fun _ => fun
  | [d1, d2] => { results := [.lit (.bool true)], args := [d1, d2] }
  | _ => none }
def fnExactApplyReplacementRow : OpenClaim := { program := "ytjeahopiejcopaa", sum := "2fbea7188695846cbf516bf58a22c47a734d5a607a250b9c17104397a065e35e", func := "loop.example/g00864/laws.FnExactApplyReplacement", spec := "fnExactApplyReplacement", unfollowed := true, recurses := true, apart := false }
def FnExactApplyReplacementSaid : Prop := fnExactApplyReplacementRow.holds Try.pinned (OpenSpec.ofChange fnExactApplyReplacementSpec)

/-- ITS FALSE NEIGHBOUR: 'it returns false'. Refute it at one input. -/
def fnExactApplyReplacementWrong : ChangeSpec := { name := "fnExactApplyReplacement", fn := fun _ => fun
  | [d1, d2] => { results := [.lit (.bool false)], args := [d1, d2] }
  | _ => none }
def FnExactApplyReplacementWrongFalsely : Prop := fnExactApplyReplacementRow.holds Try.pinned (OpenSpec.ofChange fnExactApplyReplacementWrong)

/-- 'laws.FnExactRunAt': WHATEVER THE INPUT: true; the input reads as it did. -/
def fnExactRunAtSpec : ChangeSpec := { name := "fnExactRunAt", fn := fun _ => fun
  | [d1, d2, d3] => { results := [.lit (.bool true)], args := [d1, d2, d3] }
  | _ => none }
def fnExactRunAtRow : OpenClaim := { program := "ytjeahopiejcopaa", sum := "2fbea7188695846cbf516bf58a22c47a734d5a607a250b9c17104397a065e35e", func := "loop.example/g00864/laws.FnExactRunAt", spec := "fnExactRunAt", unfollowed := true, recurses := true, apart := false }
def FnExactRunAtSaid : Prop := fnExactRunAtRow.holds Try.pinned (OpenSpec.ofChange fnExactRunAtSpec)

/-- ITS FALSE NEIGHBOUR: 'it returns false'. Refute it at one input. -/
def fnExactRunAtWrong : ChangeSpec := { name := "fnExactRunAt", fn := fun _ => fun
  | [d1, d2, d3] => { results := [.lit (.bool false)], args := [d1, d2, d3] }
  | _ => none }
def FnExactRunAtWrongFalsely : Prop := fnExactRunAtRow.holds Try.pinned (OpenSpec.ofChange fnExactRunAtWrong)

/-- 'laws.FnExactJoinCertificates': WHATEVER THE INPUT: true; the input reads as it did. -/
def fnExactJoinCertificatesSpec : ChangeSpec := { name := "fnExactJoinCertificates", fn := fun _ => fun
  | [d1, d2] => { results := [.lit (.bool true)], args := [d1, d2] }
  | _ => none }
def fnExactJoinCertificatesRow : OpenClaim := { program := "ytjeahopiejcopaa", sum := "2fbea7188695846cbf516bf58a22c47a734d5a607a250b9c17104397a065e35e", func := "loop.example/g00864/laws.FnExactJoinCertificates", spec := "fnExactJoinCertificates", apart := false }
def FnExactJoinCertificatesSaid : Prop := fnExactJoinCertificatesRow.holds Try.pinned (OpenSpec.ofChange fnExactJoinCertificatesSpec)

/-- ITS FALSE NEIGHBOUR: 'it returns false'. Refute it at one input. -/
def fnExactJoinCertificatesWrong : ChangeSpec := { name := "fnExactJoinCertificates", fn := fun _ => fun
  | [d1, d2] => { results := [.lit (.bool false)], args := [d1, d2] }
  | _ => none }
def FnExactJoinCertificatesWrongFalsely : Prop := fnExactJoinCertificatesRow.holds Try.pinned (OpenSpec.ofChange fnExactJoinCertificatesWrong)

/-- 'laws.FnExactRunReplacement': WHATEVER THE INPUT: true; the input reads as it did. -/
def fnExactRunReplacementSpec : ChangeSpec := { name := "fnExactRunReplacement", fn := fun _ => fun
  | [d1, d2, d3, d4] => { results := [.lit (.bool true)], args := [d1, d2, d3, d4] }
  | _ => none }
def fnExactRunReplacementRow : OpenClaim := { program := "ytjeahopiejcopaa", sum := "2fbea7188695846cbf516bf58a22c47a734d5a607a250b9c17104397a065e35e", func := "loop.example/g00864/laws.FnExactRunReplacement", spec := "fnExactRunReplacement", unfollowed := true, recurses := true, apart := false }
def FnExactRunReplacementSaid : Prop := fnExactRunReplacementRow.holds Try.pinned (OpenSpec.ofChange fnExactRunReplacementSpec)

/-- ITS FALSE NEIGHBOUR: 'it returns false'. Refute it at one input. -/
def fnExactRunReplacementWrong : ChangeSpec := { name := "fnExactRunReplacement", fn := fun _ => fun
  | [d1, d2, d3, d4] => { results := [.lit (.bool false)], args := [d1, d2, d3, d4] }
  | _ => none }
def FnExactRunReplacementWrongFalsely : Prop := fnExactRunReplacementRow.holds Try.pinned (OpenSpec.ofChange fnExactRunReplacementWrong)

/-- 'laws.FnExactUsedQubits': WHATEVER THE INPUT: true; the input reads as it did. -/
def fnExactUsedQubitsSpec : ChangeSpec := { name := "fnExactUsedQubits", fn := fun _ => fun
  | [d] => { results := [.lit (.bool true)], args := [d] }
  | _ => none }
def fnExactUsedQubitsRow : OpenClaim := { program := "ytjeahopiejcopaa", sum := "2fbea7188695846cbf516bf58a22c47a734d5a607a250b9c17104397a065e35e", func := "loop.example/g00864/laws.FnExactUsedQubits", spec := "fnExactUsedQubits", unfollowed := true, recurses := true, apart := false }
def FnExactUsedQubitsSaid : Prop := fnExactUsedQubitsRow.holds Try.pinned (OpenSpec.ofChange fnExactUsedQubitsSpec)

/-- ITS FALSE NEIGHBOUR: 'it returns false'. Refute it at one input. -/
def fnExactUsedQubitsWrong : ChangeSpec := { name := "fnExactUsedQubits", fn := fun _ => fun
  | [d] => { results := [.lit (.bool false)], args := [d] }
  | _ => none }
def FnExactUsedQubitsWrongFalsely : Prop := fnExactUsedQubitsRow.holds Try.pinned (OpenSpec.ofChange fnExactUsedQubitsWrong)

/-- 'laws.FnExactCancelInverses': WHATEVER THE INPUT: true; the input reads as it did. -/
def fnExactCancelInversesSpec : ChangeSpec := { name := "fnExactCancelInverses", fn := fun _ => fun
  | [d] => { results := [.lit (.bool true)], args := [d] }
  | _ => none }
def fnExactCancelInversesRow : OpenClaim := { program := "ytjeahopiejcopaa", sum := "2fbea7188695846cbf516bf58a22c47a734d5a607a250b9c17104397a065e35e", func := "loop.example/g00864/laws.FnExactCancelInverses", spec := "fnExactCancelInverses", unfollowed := true, recurses := true, apart := false }
def FnExactCancelInversesSaid : Prop := fnExactCancelInversesRow.holds Try.pinned (OpenSpec.ofChange fnExactCancelInversesSpec)

/-- ITS FALSE NEIGHBOUR: 'it returns false'. Refute it at one input. -/
def fnExactCancelInversesWrong : ChangeSpec := { name := "fnExactCancelInverses", fn := fun _ => fun
  | [d] => { results := [.lit (.bool false)], args := [d] }
  | _ => none }
def FnExactCancelInversesWrongFalsely : Prop := fnExactCancelInversesRow.holds Try.pinned (OpenSpec.ofChange fnExactCancelInversesWrong)

/-- 'laws.FnExactRotationsOf': WHATEVER THE INPUT: true; the input reads as it did. -/
def fnExactRotationsOfSpec : ChangeSpec := { name := "fnExactRotationsOf", fn := fun _ => fun
  | [d] => { results := [.lit (.bool true)], args := [d] }
  | _ => none }
def fnExactRotationsOfRow : OpenClaim := { program := "ytjeahopiejcopaa", sum := "2fbea7188695846cbf516bf58a22c47a734d5a607a250b9c17104397a065e35e", func := "loop.example/g00864/laws.FnExactRotationsOf", spec := "fnExactRotationsOf", unfollowed := true, recurses := true, apart := false }
def FnExactRotationsOfSaid : Prop := fnExactRotationsOfRow.holds Try.pinned (OpenSpec.ofChange fnExactRotationsOfSpec)

/-- ITS FALSE NEIGHBOUR: 'it returns false'. Refute it at one input. -/
def fnExactRotationsOfWrong : ChangeSpec := { name := "fnExactRotationsOf", fn := fun _ => fun
  | [d] => { results := [.lit (.bool false)], args := [d] }
  | _ => none }
def FnExactRotationsOfWrongFalsely : Prop := fnExactRotationsOfRow.holds Try.pinned (OpenSpec.ofChange fnExactRotationsOfWrong)

/- THE SECOND FORM. 'bulk': how many values and letters a reading holds, each counted each time it is reached (what is shared counts as often as it is met; a slice's spare places count too). A statement '..UptoSaid' is the law's where the arguments, and the package variables that the reading takes, are together of bulk at most 1048576: NARROWER than '..Said'. Prove '..Said' where nothing that the law and all that it calls make is longer than what came in: it says more and counts as full. Else prove '..UptoSaid'. A law counts once. -/
mutual
def uptoBulk {H : Type} : DataW H → Nat
  | .lit (.string bytes) => bytes.length + 1
  | .lit _ => 1
  | .nil => 1
  | .ptr d => uptoBulk d + 1
  | .slice elems spare => uptoBulkAll elems + uptoBulkAll spare + 1
  | .agg parts => uptoBulkAll parts + 1
  | .iface _ d => uptoBulk d + 1
  | .map entries => uptoBulkEntries entries + 1
  | .held _ => 1
def uptoBulkAll {H : Type} : List (DataW H) → Nat
  | [] => 0
  | d :: r => uptoBulk d + uptoBulkAll r
def uptoBulkEntries {H : Type} : List (Lit × DataW H) → Nat
  | [] => 0
  | x :: r => uptoBulkEntry x + uptoBulkEntries r
def uptoBulkEntry {H : Type} : Lit × DataW H → Nat
  | (.string bytes, d) => bytes.length + uptoBulk d + 1
  | (_, d) => uptoBulk d + 1
 end
def uptoSmall : (H : Type) → List (DataW H) → Bool := fun _ ds => decide (uptoBulkAll ds ≤ 1048576)
def OpenSpec.upto (s : _root_.Go.ChangeSpec) : _root_.Go.OpenSpec := { _root_.Go.OpenSpec.ofChange s with cond := some uptoSmall }

/-- 'laws.FnExactIsValidReplacement', WHERE WHAT IT READS IS OF BULK AT MOST 1048576: true; the input reads as it did. -/
def fnExactIsValidReplacementUptoRow : OpenClaim := { program := "ytjeahopiejcopaa", sum := "2fbea7188695846cbf516bf58a22c47a734d5a607a250b9c17104397a065e35e", func := "loop.example/g00864/laws.FnExactIsValidReplacement", spec := "fnExactIsValidReplacement", unfollowed := true, recurses := true, apart := false, narrowed := true }
def FnExactIsValidReplacementUptoSaid : Prop := fnExactIsValidReplacementUptoRow.holds Try.pinned (OpenSpec.upto fnExactIsValidReplacementSpec)

/-- 'laws.FnExactRestoreGates', WHERE WHAT IT READS IS OF BULK AT MOST 1048576: true; the input reads as it did. -/
def fnExactRestoreGatesUptoRow : OpenClaim := { program := "ytjeahopiejcopaa", sum := "2fbea7188695846cbf516bf58a22c47a734d5a607a250b9c17104397a065e35e", func := "loop.example/g00864/laws.FnExactRestoreGates", spec := "fnExactRestoreGates", apart := false, narrowed := true }
def FnExactRestoreGatesUptoSaid : Prop := fnExactRestoreGatesUptoRow.holds Try.pinned (OpenSpec.upto fnExactRestoreGatesSpec)

/-- 'laws.FnExactCostOf', WHERE WHAT IT READS IS OF BULK AT MOST 1048576: true; the input reads as it did. -/
def fnExactCostOfUptoRow : OpenClaim := { program := "ytjeahopiejcopaa", sum := "2fbea7188695846cbf516bf58a22c47a734d5a607a250b9c17104397a065e35e", func := "loop.example/g00864/laws.FnExactCostOf", spec := "fnExactCostOf", unfollowed := true, recurses := true, apart := false, narrowed := true }
def FnExactCostOfUptoSaid : Prop := fnExactCostOfUptoRow.holds Try.pinned (OpenSpec.upto fnExactCostOfSpec)

/-- 'laws.FnExactSummaryOf', WHERE WHAT IT READS IS OF BULK AT MOST 1048576: true; the input reads as it did. -/
def fnExactSummaryOfUptoRow : OpenClaim := { program := "ytjeahopiejcopaa", sum := "2fbea7188695846cbf516bf58a22c47a734d5a607a250b9c17104397a065e35e", func := "loop.example/g00864/laws.FnExactSummaryOf", spec := "fnExactSummaryOf", unfollowed := true, recurses := true, apart := false, narrowed := true }
def FnExactSummaryOfUptoSaid : Prop := fnExactSummaryOfUptoRow.holds Try.pinned (OpenSpec.upto fnExactSummaryOfSpec)

/-- 'laws.FnExactApplyReplacement', WHERE WHAT IT READS IS OF BULK AT MOST 1048576: true; the input reads as it did. -/
def fnExactApplyReplacementUptoRow : OpenClaim := { program := "ytjeahopiejcopaa", sum := "2fbea7188695846cbf516bf58a22c47a734d5a607a250b9c17104397a065e35e", func := "loop.example/g00864/laws.FnExactApplyReplacement", spec := "fnExactApplyReplacement", unfollowed := true, recurses := true, apart := false, narrowed := true }
def FnExactApplyReplacementUptoSaid : Prop := fnExactApplyReplacementUptoRow.holds Try.pinned (OpenSpec.upto fnExactApplyReplacementSpec)

/-- 'laws.FnExactRunAt', WHERE WHAT IT READS IS OF BULK AT MOST 1048576: true; the input reads as it did. -/
def fnExactRunAtUptoRow : OpenClaim := { program := "ytjeahopiejcopaa", sum := "2fbea7188695846cbf516bf58a22c47a734d5a607a250b9c17104397a065e35e", func := "loop.example/g00864/laws.FnExactRunAt", spec := "fnExactRunAt", unfollowed := true, recurses := true, apart := false, narrowed := true }
def FnExactRunAtUptoSaid : Prop := fnExactRunAtUptoRow.holds Try.pinned (OpenSpec.upto fnExactRunAtSpec)

/-- 'laws.FnExactJoinCertificates', WHERE WHAT IT READS IS OF BULK AT MOST 1048576: true; the input reads as it did. -/
def fnExactJoinCertificatesUptoRow : OpenClaim := { program := "ytjeahopiejcopaa", sum := "2fbea7188695846cbf516bf58a22c47a734d5a607a250b9c17104397a065e35e", func := "loop.example/g00864/laws.FnExactJoinCertificates", spec := "fnExactJoinCertificates", apart := false, narrowed := true }
def FnExactJoinCertificatesUptoSaid : Prop := fnExactJoinCertificatesUptoRow.holds Try.pinned (OpenSpec.upto fnExactJoinCertificatesSpec)

/-- 'laws.FnExactRunReplacement', WHERE WHAT IT READS IS OF BULK AT MOST 1048576: true; the input reads as it did. -/
def fnExactRunReplacementUptoRow : OpenClaim := { program := "ytjeahopiejcopaa", sum := "2fbea7188695846cbf516bf58a22c47a734d5a607a250b9c17104397a065e35e", func := "loop.example/g00864/laws.FnExactRunReplacement", spec := "fnExactRunReplacement", unfollowed := true, recurses := true, apart := false, narrowed := true }
def FnExactRunReplacementUptoSaid : Prop := fnExactRunReplacementUptoRow.holds Try.pinned (OpenSpec.upto fnExactRunReplacementSpec)

/-- 'laws.FnExactUsedQubits', WHERE WHAT IT READS IS OF BULK AT MOST 1048576: true; the input reads as it did. -/
def fnExactUsedQubitsUptoRow : OpenClaim := { program := "ytjeahopiejcopaa", sum := "2fbea7188695846cbf516bf58a22c47a734d5a607a250b9c17104397a065e35e", func := "loop.example/g00864/laws.FnExactUsedQubits", spec := "fnExactUsedQubits", unfollowed := true, recurses := true, apart := false, narrowed := true }
def FnExactUsedQubitsUptoSaid : Prop := fnExactUsedQubitsUptoRow.holds Try.pinned (OpenSpec.upto fnExactUsedQubitsSpec)

/-- 'laws.FnExactCancelInverses', WHERE WHAT IT READS IS OF BULK AT MOST 1048576: true; the input reads as it did. -/
def fnExactCancelInversesUptoRow : OpenClaim := { program := "ytjeahopiejcopaa", sum := "2fbea7188695846cbf516bf58a22c47a734d5a607a250b9c17104397a065e35e", func := "loop.example/g00864/laws.FnExactCancelInverses", spec := "fnExactCancelInverses", unfollowed := true, recurses := true, apart := false, narrowed := true }
def FnExactCancelInversesUptoSaid : Prop := fnExactCancelInversesUptoRow.holds Try.pinned (OpenSpec.upto fnExactCancelInversesSpec)

/-- 'laws.FnExactRotationsOf', WHERE WHAT IT READS IS OF BULK AT MOST 1048576: true; the input reads as it did. -/
def fnExactRotationsOfUptoRow : OpenClaim := { program := "ytjeahopiejcopaa", sum := "2fbea7188695846cbf516bf58a22c47a734d5a607a250b9c17104397a065e35e", func := "loop.example/g00864/laws.FnExactRotationsOf", spec := "fnExactRotationsOf", unfollowed := true, recurses := true, apart := false, narrowed := true }
def FnExactRotationsOfUptoSaid : Prop := fnExactRotationsOfUptoRow.holds Try.pinned (OpenSpec.upto fnExactRotationsOfSpec)

end Rows
end Go.Proofs.Ytjeahopiejcopaa
