/-
  No cell of these rows narrows 'for every input' (looked for: loops, veiled, ifaces, maps, wideKeys, modest, calm, conditions, laid).
  DERIVED. THE GIVEN ROWS OF THIS SEAT. 5 by the template 'for every input the law returns true; each argument reads behind the call as it read before'; 0 by the template 'total and deterministic' (their statements: YtojoljffaedpfaaTotals.lean).
  GIVEN WITH THE SEED: the statements are not yours to turn. If you find one false, say at which input.
  Laid BY PROGRAM, IN A SANDBOX (cutbox-rows.mjs): the forced cells as the released guide's own fill.sh prints them over the translation 3fb48de62be45e3f… (all of the seat's roots in one cut). By AI agents, Wed Nov 11 2026. No macro, syntax, notation, axiom, sorry.
-/
import Derived.Test.YtojoljffaedpfaaChecked
import GoSem.Claim
import GoSem.ClaimJoined
import GoSem.ClaimMapViews
import Derived.JoinedTies
import Derived.KernelRfl
namespace Go.Proofs.Ytojoljffaedpfaa
/- THE CELL 'sum', in the pinned program and in every row, IS THE sha256 OF THE DUMP (.gsa) THAT YtojoljffaedpfaaProg.lean LOADS. Nothing in Lean hashes anything: it is a label: what it is worth is what the hold of that sum in a sandbox is worth. -/
noncomputable def Try.pinned : Pinned := { name := "ytojoljffaedpfaa", sum := "3fb48de62be45e3f3c008eb17917bcbf5e201989707614c40f05b6a0ce644f50", checked := Try.checked }
namespace Rows
def none {H : Type} : Left H := { results := [], args := [] }

/-- 'laws.FnExactGridPoints': WHATEVER THE INPUT: true; the input reads as it did. -/
def fnExactGridPointsSpec : ChangeSpec := { name := "fnExactGridPoints", fn := fun _ => fun
  | [d1, d2] => { results := [.lit (.bool true)], args := [d1, d2] }
  | _ => none }
def fnExactGridPointsRow : OpenClaim := { program := "ytojoljffaedpfaa", sum := "3fb48de62be45e3f3c008eb17917bcbf5e201989707614c40f05b6a0ce644f50", func := "loop.example/g00864/laws.FnExactGridPoints", spec := "fnExactGridPoints", inPlace := ["math.archFloor", "math.Float64bits", "math.Float64frombits", "math.archTrunc", "math.archCeil"], unfollowed := true, recurses := true, apart := false }
def FnExactGridPointsSaid : Prop := fnExactGridPointsRow.holds Try.pinned (OpenSpec.ofChange fnExactGridPointsSpec)

/-- ITS FALSE NEIGHBOUR: 'it returns false'. Refute it at one input. -/
def fnExactGridPointsWrong : ChangeSpec := { name := "fnExactGridPoints", fn := fun _ => fun
  | [d1, d2] => { results := [.lit (.bool false)], args := [d1, d2] }
  | _ => none }
def FnExactGridPointsWrongFalsely : Prop := fnExactGridPointsRow.holds Try.pinned (OpenSpec.ofChange fnExactGridPointsWrong)

/-- 'laws.FnExactNearestPoint': WHATEVER THE INPUT: true; the input reads as it did. -/
def fnExactNearestPointSpec : ChangeSpec := { name := "fnExactNearestPoint", fn := fun _ => fun
  | [d1, d2, d3] => { results := [.lit (.bool true)], args := [d1, d2, d3] }
  | _ => none }
def fnExactNearestPointRow : OpenClaim := { program := "ytojoljffaedpfaa", sum := "3fb48de62be45e3f3c008eb17917bcbf5e201989707614c40f05b6a0ce644f50", func := "loop.example/g00864/laws.FnExactNearestPoint", spec := "fnExactNearestPoint", inPlace := ["math.archFloor", "math.Float64bits", "math.Float64frombits", "math.archTrunc", "math.archCeil"], unfollowed := true, recurses := true, apart := false }
def FnExactNearestPointSaid : Prop := fnExactNearestPointRow.holds Try.pinned (OpenSpec.ofChange fnExactNearestPointSpec)

/-- ITS FALSE NEIGHBOUR: 'it returns false'. Refute it at one input. -/
def fnExactNearestPointWrong : ChangeSpec := { name := "fnExactNearestPoint", fn := fun _ => fun
  | [d1, d2, d3] => { results := [.lit (.bool false)], args := [d1, d2, d3] }
  | _ => none }
def FnExactNearestPointWrongFalsely : Prop := fnExactNearestPointRow.holds Try.pinned (OpenSpec.ofChange fnExactNearestPointWrong)

/-- 'laws.FnExactBoxPoints': WHATEVER THE INPUT: true; the input reads as it did. -/
def fnExactBoxPointsSpec : ChangeSpec := { name := "fnExactBoxPoints", fn := fun _ => fun
  | [d1, d2, d3, d4] => { results := [.lit (.bool true)], args := [d1, d2, d3, d4] }
  | _ => none }
def fnExactBoxPointsRow : OpenClaim := { program := "ytojoljffaedpfaa", sum := "3fb48de62be45e3f3c008eb17917bcbf5e201989707614c40f05b6a0ce644f50", func := "loop.example/g00864/laws.FnExactBoxPoints", spec := "fnExactBoxPoints", inPlace := ["math.archFloor", "math.Float64bits", "math.Float64frombits", "math.archTrunc", "math.archCeil"], unfollowed := true, recurses := true, apart := false }
def FnExactBoxPointsSaid : Prop := fnExactBoxPointsRow.holds Try.pinned (OpenSpec.ofChange fnExactBoxPointsSpec)

/-- ITS FALSE NEIGHBOUR: 'it returns false'. Refute it at one input. -/
def fnExactBoxPointsWrong : ChangeSpec := { name := "fnExactBoxPoints", fn := fun _ => fun
  | [d1, d2, d3, d4] => { results := [.lit (.bool false)], args := [d1, d2, d3, d4] }
  | _ => none }
def FnExactBoxPointsWrongFalsely : Prop := fnExactBoxPointsRow.holds Try.pinned (OpenSpec.ofChange fnExactBoxPointsWrong)

/-- 'laws.FnBox': WHATEVER THE INPUT: true; the input reads as it did. -/
def fnBoxSpec : ChangeSpec := { name := "fnBox", fn := fun _ => fun
  | [d1, d2] => { results := [.lit (.bool true)], args := [d1, d2] }
  | _ => none }
def fnBoxRow : OpenClaim := { program := "ytojoljffaedpfaa", sum := "3fb48de62be45e3f3c008eb17917bcbf5e201989707614c40f05b6a0ce644f50", func := "loop.example/g00864/laws.FnBox", spec := "fnBox", inPlace := ["math.archFloor", "math.Float64bits", "math.Float64frombits", "math.archTrunc", "math.archCeil"], unfollowed := true, recurses := true, apart := false }
def FnBoxSaid : Prop := fnBoxRow.holds Try.pinned (OpenSpec.ofChange fnBoxSpec)

/-- ITS FALSE NEIGHBOUR: 'it returns false'. Refute it at one input. -/
def fnBoxWrong : ChangeSpec := { name := "fnBox", fn := fun _ => fun
  | [d1, d2] => { results := [.lit (.bool false)], args := [d1, d2] }
  | _ => none }
def FnBoxWrongFalsely : Prop := fnBoxRow.holds Try.pinned (OpenSpec.ofChange fnBoxWrong)

/-- 'laws.FnGrid': WHATEVER THE INPUT: true; the input reads as it did. -/
def fnGridSpec : ChangeSpec := { name := "fnGrid", fn := fun _ => fun
  | [d1, d2] => { results := [.lit (.bool true)], args := [d1, d2] }
  | _ => none }
def fnGridRow : OpenClaim := { program := "ytojoljffaedpfaa", sum := "3fb48de62be45e3f3c008eb17917bcbf5e201989707614c40f05b6a0ce644f50", func := "loop.example/g00864/laws.FnGrid", spec := "fnGrid", inPlace := ["math.archFloor", "math.Float64bits", "math.Float64frombits", "math.archTrunc", "math.archCeil"], unfollowed := true, recurses := true, apart := false }
def FnGridSaid : Prop := fnGridRow.holds Try.pinned (OpenSpec.ofChange fnGridSpec)

/-- ITS FALSE NEIGHBOUR: 'it returns false'. Refute it at one input. -/
def fnGridWrong : ChangeSpec := { name := "fnGrid", fn := fun _ => fun
  | [d1, d2] => { results := [.lit (.bool false)], args := [d1, d2] }
  | _ => none }
def FnGridWrongFalsely : Prop := fnGridRow.holds Try.pinned (OpenSpec.ofChange fnGridWrong)

/- THE SECOND FORM. 'bulk': how many values and letters a reading holds, each counted each time it is reached (what is shared counts as often as it is met; a slice's spare places count too). A statement '..UptoSaid' is the law's where the arguments, and the package variables that the reading takes, are together of bulk at most 1048576: NARROWER than '..Said'. Prove '..Said' where nothing that the law and all that it calls make is longer than what came in: it says more and counts as full. Else prove '..UptoSaid'. A law counts once. -/
mutual
def uptoBulk {H : Type} : DataW H → Nat
  | .lit (.string bytes) => bytes.length + 1
  | .lit _ => 1
  | .nil => 1
  | .ptr d => uptoBulk d + 1
  | .slice elems spare => uptoBulkAll elems + uptoBulkAll spare + 1
  | .agg parts => uptoBulkAll parts + 1
  | .iface _ d => uptoBulk d + 1
  | .map entries => uptoBulkEntries entries + 1
  | .held _ => 1
def uptoBulkAll {H : Type} : List (DataW H) → Nat
  | [] => 0
  | d :: r => uptoBulk d + uptoBulkAll r
def uptoBulkEntries {H : Type} : List (Lit × DataW H) → Nat
  | [] => 0
  | x :: r => uptoBulkEntry x + uptoBulkEntries r
def uptoBulkEntry {H : Type} : Lit × DataW H → Nat
  | (.string bytes, d) => bytes.length + uptoBulk d + 1
  | (_, d) => uptoBulk d + 1
 end
def uptoSmall : (H : Type) → List (DataW H) → Bool := fun _ ds => decide (uptoBulkAll ds ≤ 1048576)
def OpenSpec.upto (s : _root_.Go.ChangeSpec) : _root_.Go.OpenSpec := { _root_.Go.OpenSpec.ofChange s with cond := some uptoSmall }

/-- 'laws.FnExactGridPoints', WHERE WHAT IT READS IS OF BULK AT MOST 1048576: true; the input reads as it did. -/
def fnExactGridPointsUptoRow : OpenClaim := { program := "ytojoljffaedpfaa", sum := "3fb48de62be45e3f3c008eb17917bcbf5e201989707614c40f05b6a0ce644f50", func := "loop.example/g00864/laws.FnExactGridPoints", spec := "fnExactGridPoints", inPlace := ["math.archFloor", "math.Float64bits", "math.Float64frombits", "math.archTrunc", "math.archCeil"], unfollowed := true, recurses := true, apart := false, narrowed := true }
def FnExactGridPointsUptoSaid : Prop := fnExactGridPointsUptoRow.holds Try.pinned (OpenSpec.upto fnExactGridPointsSpec)

/-- 'laws.FnExactNearestPoint', WHERE WHAT IT READS IS OF BULK AT MOST 1048576: true; the input reads as it did. -/
def fnExactNearestPointUptoRow : OpenClaim := { program := "ytojoljffaedpfaa", sum := "3fb48de62be45e3f3c008eb17917bcbf5e201989707614c40f05b6a0ce644f50", func := "loop.example/g00864/laws.FnExactNearestPoint", spec := "fnExactNearestPoint", inPlace := ["math.archFloor", "math.Float64bits", "math.Float64frombits", "math.archTrunc", "math.archCeil"], unfollowed := true, recurses := true, apart := false, narrowed := true }
def FnExactNearestPointUptoSaid : Prop := fnExactNearestPointUptoRow.holds Try.pinned (OpenSpec.upto fnExactNearestPointSpec)

/-- 'laws.FnExactBoxPoints', WHERE WHAT IT READS IS OF BULK AT MOST 1048576: true; the input reads as it did. -/
def fnExactBoxPointsUptoRow : OpenClaim := { program := "ytojoljffaedpfaa", sum := "3fb48de62be45e3f3c008eb17917bcbf5e201989707614c40f05b6a0ce644f50", func := "loop.example/g00864/laws.FnExactBoxPoints", spec := "fnExactBoxPoints", inPlace := ["math.archFloor", "math.Float64bits", "math.Float64frombits", "math.archTrunc", "math.archCeil"], unfollowed := true, recurses := true, apart := false, narrowed := true }
def FnExactBoxPointsUptoSaid : Prop := fnExactBoxPointsUptoRow.holds Try.pinned (OpenSpec.upto fnExactBoxPointsSpec)

/-- 'laws.FnBox', WHERE WHAT IT READS IS OF BULK AT MOST 1048576: true; the input reads as it did. -/
def fnBoxUptoRow : OpenClaim := { program := "ytojoljffaedpfaa", sum := "3fb48de62be45e3f3c008eb17917bcbf5e201989707614c40f05b6a0ce644f50", func := "loop.example/g00864/laws.FnBox", spec := "fnBox", inPlace := ["math.archFloor", "math.Float64bits", "math.Float64frombits", "math.archTrunc", "math.archCeil"], unfollowed := true, recurses := true, apart := false, narrowed := true }
def FnBoxUptoSaid : Prop := fnBoxUptoRow.holds Try.pinned (OpenSpec.upto fnBoxSpec)

/-- 'laws.FnGrid', WHERE WHAT IT READS IS OF BULK AT MOST 1048576: true; the input reads as it did. -/
def fnGridUptoRow : OpenClaim := { program := "ytojoljffaedpfaa", sum := "3fb48de62be45e3f3c008eb17917bcbf5e201989707614c40f05b6a0ce644f50", func := "loop.example/g00864/laws.FnGrid", spec := "fnGrid", inPlace := ["math.archFloor", "math.Float64bits", "math.Float64frombits", "math.archTrunc", "math.archCeil"], unfollowed := true, recurses := true, apart := false, narrowed := true }
def FnGridUptoSaid : Prop := fnGridUptoRow.holds Try.pinned (OpenSpec.upto fnGridSpec)

end Rows
end Go.Proofs.Ytojoljffaedpfaa
