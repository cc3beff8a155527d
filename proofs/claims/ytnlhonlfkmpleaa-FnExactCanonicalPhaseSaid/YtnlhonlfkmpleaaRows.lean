/-
  No cell of these rows narrows 'for every input' (looked for: loops, veiled, ifaces, maps, wideKeys, modest, calm, conditions, laid).
  DERIVED. THE GIVEN ROWS OF THIS SEAT. 10 by the template 'for every input the law returns true; each argument reads behind the call as it read before'; 0 by the template 'total and deterministic' (their statements: YtnlhonlfkmpleaaTotals.lean).
  GIVEN WITH THE SEED: the statements are not yours to turn. If you find one false, say at which input.
  Laid BY PROGRAM, IN A SANDBOX (cutbox-rows.mjs): the forced cells as the released guide's own fill.sh prints them over the translation 7a2c2da35ec5c31f… (all of the seat's roots in one cut). By AI agents, Wed Nov 11 2026. No macro, syntax, notation, axiom, sorry.
-/
import Derived.Test.YtnlhonlfkmpleaaChecked
import GoSem.Claim
import GoSem.ClaimJoined
import GoSem.ClaimMapViews
import Derived.JoinedTies
import Derived.KernelRfl
namespace Go.Proofs.Ytnlhonlfkmpleaa
/- THE CELL 'sum', in the pinned program and in every row, IS THE sha256 OF THE DUMP (.gsa) THAT YtnlhonlfkmpleaaProg.lean LOADS. Nothing in Lean hashes anything: it is a label: what it is worth is what the hold of that sum in a sandbox is worth. -/
noncomputable def Try.pinned : Pinned := { name := "ytnlhonlfkmpleaa", sum := "7a2c2da35ec5c31f0400a3273620469db7cdb2279d28fec2944393fe4af2096f", checked := Try.checked }
namespace Rows
def none {H : Type} : Left H := { results := [], args := [] }

/-- 'laws.FnExactTableGates': WHATEVER THE INPUT: true; the input reads as it did. -/
def fnExactTableGatesSpec : ChangeSpec := { name := "fnExactTableGates", fn := fun _ => fun
  | [d] => { results := [.lit (.bool true)], args := [d] }
  | _ => none }
def fnExactTableGatesRow : OpenClaim := { program := "ytnlhonlfkmpleaa", sum := "7a2c2da35ec5c31f0400a3273620469db7cdb2279d28fec2944393fe4af2096f", func := "loop.example/g00864/laws.FnExactTableGates", spec := "fnExactTableGates", apart := false }
def FnExactTableGatesSaid : Prop := fnExactTableGatesRow.holds Try.pinned (OpenSpec.ofChange fnExactTableGatesSpec)

/-- ITS FALSE NEIGHBOUR: 'it returns false'. Refute it at one input. -/
def fnExactTableGatesWrong : ChangeSpec := { name := "fnExactTableGates", fn := fun _ => fun
  | [d] => { results := [.lit (.bool false)], args := [d] }
  | _ => none }
def FnExactTableGatesWrongFalsely : Prop := fnExactTableGatesRow.holds Try.pinned (OpenSpec.ofChange fnExactTableGatesWrong)

/-- 'laws.FnExactAddDyadic': WHATEVER THE INPUT: true; the input reads as it did. -/
def fnExactAddDyadicSpec : ChangeSpec := { name := "fnExactAddDyadic", fn := fun _ => fun
  | [d1, d2] => { results := [.lit (.bool true)], args := [d1, d2] }
  | _ => none }
def fnExactAddDyadicRow : OpenClaim := { program := "ytnlhonlfkmpleaa", sum := "7a2c2da35ec5c31f0400a3273620469db7cdb2279d28fec2944393fe4af2096f", func := "loop.example/g00864/laws.FnExactAddDyadic", spec := "fnExactAddDyadic", unfollowed := true, recurses := true, apart := false }
def FnExactAddDyadicSaid : Prop := fnExactAddDyadicRow.holds Try.pinned (OpenSpec.ofChange fnExactAddDyadicSpec)

/-- ITS FALSE NEIGHBOUR: 'it returns false'. Refute it at one input. -/
def fnExactAddDyadicWrong : ChangeSpec := { name := "fnExactAddDyadic", fn := fun _ => fun
  | [d1, d2] => { results := [.lit (.bool false)], args := [d1, d2] }
  | _ => none }
def FnExactAddDyadicWrongFalsely : Prop := fnExactAddDyadicRow.holds Try.pinned (OpenSpec.ofChange fnExactAddDyadicWrong)

/-- 'laws.FnExactSubDyadic': WHATEVER THE INPUT: true; the input reads as it did. -/
def fnExactSubDyadicSpec : ChangeSpec := { name := "fnExactSubDyadic", fn := fun _ => fun
  | [d1, d2] => { results := [.lit (.bool true)], args := [d1, d2] }
  | _ => none }
def fnExactSubDyadicRow : OpenClaim := { program := "ytnlhonlfkmpleaa", sum := "7a2c2da35ec5c31f0400a3273620469db7cdb2279d28fec2944393fe4af2096f", func := "loop.example/g00864/laws.FnExactSubDyadic", spec := "fnExactSubDyadic", unfollowed := true, recurses := true, apart := false }
def FnExactSubDyadicSaid : Prop := fnExactSubDyadicRow.holds Try.pinned (OpenSpec.ofChange fnExactSubDyadicSpec)

/-- ITS FALSE NEIGHBOUR: 'it returns false'. Refute it at one input. -/
def fnExactSubDyadicWrong : ChangeSpec := { name := "fnExactSubDyadic", fn := fun _ => fun
  | [d1, d2] => { results := [.lit (.bool false)], args := [d1, d2] }
  | _ => none }
def FnExactSubDyadicWrongFalsely : Prop := fnExactSubDyadicRow.holds Try.pinned (OpenSpec.ofChange fnExactSubDyadicWrong)

/-- 'laws.FnDyadic': WHATEVER THE INPUT: true; the input reads as it did. -/
def fnDyadicSpec : ChangeSpec := { name := "fnDyadic", fn := fun _ => fun
  | [d1, d2] => { results := [.lit (.bool true)], args := [d1, d2] }
  | _ => none }
def fnDyadicRow : OpenClaim := { program := "ytnlhonlfkmpleaa", sum := "7a2c2da35ec5c31f0400a3273620469db7cdb2279d28fec2944393fe4af2096f", func := "loop.example/g00864/laws.FnDyadic", spec := "fnDyadic", unfollowed := true, recurses := true, apart := false }
def FnDyadicSaid : Prop := fnDyadicRow.holds Try.pinned (OpenSpec.ofChange fnDyadicSpec)

/-- ITS FALSE NEIGHBOUR: 'it returns false'. Refute it at one input. -/
def fnDyadicWrong : ChangeSpec := { name := "fnDyadic", fn := fun _ => fun
  | [d1, d2] => { results := [.lit (.bool false)], args := [d1, d2] }
  | _ => none }
def FnDyadicWrongFalsely : Prop := fnDyadicRow.holds Try.pinned (OpenSpec.ofChange fnDyadicWrong)

/-- 'laws.FnExactCompareAbs': WHATEVER THE INPUT: true; the input reads as it did. -/
def fnExactCompareAbsSpec : ChangeSpec := { name := "fnExactCompareAbs", fn := fun _ => fun
  | [d1, d2] => { results := [.lit (.bool true)], args := [d1, d2] }
  | _ => none }
def fnExactCompareAbsRow : OpenClaim := { program := "ytnlhonlfkmpleaa", sum := "7a2c2da35ec5c31f0400a3273620469db7cdb2279d28fec2944393fe4af2096f", func := "loop.example/g00864/laws.FnExactCompareAbs", spec := "fnExactCompareAbs", unfollowed := true, recurses := true, apart := false }
def FnExactCompareAbsSaid : Prop := fnExactCompareAbsRow.holds Try.pinned (OpenSpec.ofChange fnExactCompareAbsSpec)

/-- ITS FALSE NEIGHBOUR: 'it returns false'. Refute it at one input. -/
def fnExactCompareAbsWrong : ChangeSpec := { name := "fnExactCompareAbs", fn := fun _ => fun
  | [d1, d2] => { results := [.lit (.bool false)], args := [d1, d2] }
  | _ => none }
def FnExactCompareAbsWrongFalsely : Prop := fnExactCompareAbsRow.holds Try.pinned (OpenSpec.ofChange fnExactCompareAbsWrong)

/-- 'laws.FnExactApproximationMatrix': WHATEVER THE INPUT: true; the input reads as it did. -/
def fnExactApproximationMatrixSpec : ChangeSpec := { name := "fnExactApproximationMatrix", fn := fun _ => fun
  | [d] => { results := [.lit (.bool true)], args := [d] }
  | _ => none }
def fnExactApproximationMatrixRow : OpenClaim := { program := "ytnlhonlfkmpleaa", sum := "7a2c2da35ec5c31f0400a3273620469db7cdb2279d28fec2944393fe4af2096f", func := "loop.example/g00864/laws.FnExactApproximationMatrix", spec := "fnExactApproximationMatrix", apart := false }
def FnExactApproximationMatrixSaid : Prop := fnExactApproximationMatrixRow.holds Try.pinned (OpenSpec.ofChange fnExactApproximationMatrixSpec)

/-- ITS FALSE NEIGHBOUR: 'it returns false'. Refute it at one input. -/
def fnExactApproximationMatrixWrong : ChangeSpec := { name := "fnExactApproximationMatrix", fn := fun _ => fun
  | [d] => { results := [.lit (.bool false)], args := [d] }
  | _ => none }
def FnExactApproximationMatrixWrongFalsely : Prop := fnExactApproximationMatrixRow.holds Try.pinned (OpenSpec.ofChange fnExactApproximationMatrixWrong)

/-- 'laws.FnExactAddMatrix': WHATEVER THE INPUT: true; the input reads as it did. -/
def fnExactAddMatrixSpec : ChangeSpec := { name := "fnExactAddMatrix", fn := fun _ => fun
  | [d1, d2] => { results := [.lit (.bool true)], args := [d1, d2] }
  | _ => none }
def fnExactAddMatrixRow : OpenClaim := { program := "ytnlhonlfkmpleaa", sum := "7a2c2da35ec5c31f0400a3273620469db7cdb2279d28fec2944393fe4af2096f", func := "loop.example/g00864/laws.FnExactAddMatrix", spec := "fnExactAddMatrix", unfollowed := true, recurses := true, apart := false }
def FnExactAddMatrixSaid : Prop := fnExactAddMatrixRow.holds Try.pinned (OpenSpec.ofChange fnExactAddMatrixSpec)

/-- ITS FALSE NEIGHBOUR: 'it returns false'. Refute it at one input. -/
def fnExactAddMatrixWrong : ChangeSpec := { name := "fnExactAddMatrix", fn := fun _ => fun
  | [d1, d2] => { results := [.lit (.bool false)], args := [d1, d2] }
  | _ => none }
def FnExactAddMatrixWrongFalsely : Prop := fnExactAddMatrixRow.holds Try.pinned (OpenSpec.ofChange fnExactAddMatrixWrong)

/-- 'laws.FnExactTwoLevelMatrix': WHATEVER THE INPUT: true; the input reads as it did. -/
def fnExactTwoLevelMatrixSpec : ChangeSpec := { name := "fnExactTwoLevelMatrix", fn := fun _ => fun
  | [d1, d2] => { results := [.lit (.bool true)], args := [d1, d2] }
  | _ => none }
def fnExactTwoLevelMatrixRow : OpenClaim := { program := "ytnlhonlfkmpleaa", sum := "7a2c2da35ec5c31f0400a3273620469db7cdb2279d28fec2944393fe4af2096f", func := "loop.example/g00864/laws.FnExactTwoLevelMatrix", spec := "fnExactTwoLevelMatrix", unfollowed := true, recurses := true, apart := false }
def FnExactTwoLevelMatrixSaid : Prop := fnExactTwoLevelMatrixRow.holds Try.pinned (OpenSpec.ofChange fnExactTwoLevelMatrixSpec)

/-- ITS FALSE NEIGHBOUR: 'it returns false'. Refute it at one input. -/
def fnExactTwoLevelMatrixWrong : ChangeSpec := { name := "fnExactTwoLevelMatrix", fn := fun _ => fun
  | [d1, d2] => { results := [.lit (.bool false)], args := [d1, d2] }
  | _ => none }
def FnExactTwoLevelMatrixWrongFalsely : Prop := fnExactTwoLevelMatrixRow.holds Try.pinned (OpenSpec.ofChange fnExactTwoLevelMatrixWrong)

/-- 'laws.FnExactMulMatrix': WHATEVER THE INPUT: true; the input reads as it did. -/
def fnExactMulMatrixSpec : ChangeSpec := { name := "fnExactMulMatrix", fn := fun _ => fun
  | [d1, d2] => { results := [.lit (.bool true)], args := [d1, d2] }
  | _ => none }
def fnExactMulMatrixRow : OpenClaim := { program := "ytnlhonlfkmpleaa", sum := "7a2c2da35ec5c31f0400a3273620469db7cdb2279d28fec2944393fe4af2096f", func := "loop.example/g00864/laws.FnExactMulMatrix", spec := "fnExactMulMatrix", unfollowed := true, recurses := true, apart := false }
def FnExactMulMatrixSaid : Prop := fnExactMulMatrixRow.holds Try.pinned (OpenSpec.ofChange fnExactMulMatrixSpec)

/-- ITS FALSE NEIGHBOUR: 'it returns false'. Refute it at one input. -/
def fnExactMulMatrixWrong : ChangeSpec := { name := "fnExactMulMatrix", fn := fun _ => fun
  | [d1, d2] => { results := [.lit (.bool false)], args := [d1, d2] }
  | _ => none }
def FnExactMulMatrixWrongFalsely : Prop := fnExactMulMatrixRow.holds Try.pinned (OpenSpec.ofChange fnExactMulMatrixWrong)

/-- 'laws.FnExactCanonicalPhase': WHATEVER THE INPUT: true; the input reads as it did. -/
def fnExactCanonicalPhaseSpec : ChangeSpec := { name := "fnExactCanonicalPhase", fn := fun _ => fun
  | [d] => { results := [.lit (.bool true)], args := [d] }
  | _ => none }
def fnExactCanonicalPhaseRow : OpenClaim := { program := "ytnlhonlfkmpleaa", sum := "7a2c2da35ec5c31f0400a3273620469db7cdb2279d28fec2944393fe4af2096f", func := "loop.example/g00864/laws.FnExactCanonicalPhase", spec := "fnExactCanonicalPhase", unfollowed := true, recurses := true, apart := false }
def FnExactCanonicalPhaseSaid : Prop := fnExactCanonicalPhaseRow.holds Try.pinned (OpenSpec.ofChange fnExactCanonicalPhaseSpec)

/-- ITS FALSE NEIGHBOUR: 'it returns false'. Refute it at one input. -/
def fnExactCanonicalPhaseWrong : ChangeSpec := { name := "fnExactCanonicalPhase", fn := fun _ => fun
  | [d] => { results := [.lit (.bool false)], args := [d] }
  | _ => none }
def FnExactCanonicalPhaseWrongFalsely : Prop := fnExactCanonicalPhaseRow.holds Try.pinned (OpenSpec.ofChange fnExactCanonicalPhaseWrong)

/- THE SECOND FORM. 'bulk': how many values and letters a reading holds, each counted each time it is reached (what is shared counts as often as it is met; a slice's spare places count too). A statement '..UptoSaid' is the law's where the arguments, and the package variables that the reading takes, are together of bulk at most 1048576: NARROWER than '..Said'. Prove '..Said' where nothing that the law and all that it calls make is longer than what came in: it says more and counts as full. Else prove '..UptoSaid'. A law counts once. -/
mutual
def uptoBulk {H : Type} : DataW H → Nat
  | .lit (.string bytes) => bytes.length + 1
  | .lit _ => 1
  | .nil => 1
  | .ptr d => uptoBulk d + 1
  | .slice elems spare => uptoBulkAll elems + uptoBulkAll spare + 1
  | .agg parts => uptoBulkAll parts + 1
  | .iface _ d => uptoBulk d + 1
  | .map entries => uptoBulkEntries entries + 1
  | .held _ => 1
def uptoBulkAll {H : Type} : List (DataW H) → Nat
  | [] => 0
  | d :: r => uptoBulk d + uptoBulkAll r
def uptoBulkEntries {H : Type} : List (Lit × DataW H) → Nat
  | [] => 0
  | x :: r => uptoBulkEntry x + uptoBulkEntries r
def uptoBulkEntry {H : Type} : Lit × DataW H → Nat
  | (.string bytes, d) => bytes.length + uptoBulk d + 1
  | (_, d) => uptoBulk d + 1
 end
def uptoSmall : (H : Type) → List (DataW H) → Bool := fun _ ds => decide (uptoBulkAll ds ≤ 1048576)
def OpenSpec.upto (s : _root_.Go.ChangeSpec) : _root_.Go.OpenSpec := { _root_.Go.OpenSpec.ofChange s with cond := some uptoSmall }

/-- 'laws.FnExactTableGates', WHERE WHAT IT READS IS OF BULK AT MOST 1048576: true; the input reads as it did. -/
def fnExactTableGatesUptoRow : OpenClaim := { program := "ytnlhonlfkmpleaa", sum := "7a2c2da35ec5c31f0400a3273620469db7cdb2279d28fec2944393fe4af2096f", func := "loop.example/g00864/laws.FnExactTableGates", spec := "fnExactTableGates", apart := false, narrowed := true }
def FnExactTableGatesUptoSaid : Prop := fnExactTableGatesUptoRow.holds Try.pinned (OpenSpec.upto fnExactTableGatesSpec)

/-- 'laws.FnExactAddDyadic', WHERE WHAT IT READS IS OF BULK AT MOST 1048576: true; the input reads as it did. -/
def fnExactAddDyadicUptoRow : OpenClaim := { program := "ytnlhonlfkmpleaa", sum := "7a2c2da35ec5c31f0400a3273620469db7cdb2279d28fec2944393fe4af2096f", func := "loop.example/g00864/laws.FnExactAddDyadic", spec := "fnExactAddDyadic", unfollowed := true, recurses := true, apart := false, narrowed := true }
def FnExactAddDyadicUptoSaid : Prop := fnExactAddDyadicUptoRow.holds Try.pinned (OpenSpec.upto fnExactAddDyadicSpec)

/-- 'laws.FnExactSubDyadic', WHERE WHAT IT READS IS OF BULK AT MOST 1048576: true; the input reads as it did. -/
def fnExactSubDyadicUptoRow : OpenClaim := { program := "ytnlhonlfkmpleaa", sum := "7a2c2da35ec5c31f0400a3273620469db7cdb2279d28fec2944393fe4af2096f", func := "loop.example/g00864/laws.FnExactSubDyadic", spec := "fnExactSubDyadic", unfollowed := true, recurses := true, apart := false, narrowed := true }
def FnExactSubDyadicUptoSaid : Prop := fnExactSubDyadicUptoRow.holds Try.pinned (OpenSpec.upto fnExactSubDyadicSpec)

/-- 'laws.FnDyadic', WHERE WHAT IT READS IS OF BULK AT MOST 1048576: true; the input reads as it did. -/
def fnDyadicUptoRow : OpenClaim := { program := "ytnlhonlfkmpleaa", sum := "7a2c2da35ec5c31f0400a3273620469db7cdb2279d28fec2944393fe4af2096f", func := "loop.example/g00864/laws.FnDyadic", spec := "fnDyadic", unfollowed := true, recurses := true, apart := false, narrowed := true }
def FnDyadicUptoSaid : Prop := fnDyadicUptoRow.holds Try.pinned (OpenSpec.upto fnDyadicSpec)

/-- 'laws.FnExactCompareAbs', WHERE WHAT IT READS IS OF BULK AT MOST 1048576: true; the input reads as it did. -/
def fnExactCompareAbsUptoRow : OpenClaim := { program := "ytnlhonlfkmpleaa", sum := "7a2c2da35ec5c31f0400a3273620469db7cdb2279d28fec2944393fe4af2096f", func := "loop.example/g00864/laws.FnExactCompareAbs", spec := "fnExactCompareAbs", unfollowed := true, recurses := true, apart := false, narrowed := true }
def FnExactCompareAbsUptoSaid : Prop := fnExactCompareAbsUptoRow.holds Try.pinned (OpenSpec.upto fnExactCompareAbsSpec)

/-- 'laws.FnExactApproximationMatrix', WHERE WHAT IT READS IS OF BULK AT MOST 1048576: true; the input reads as it did. -/
def fnExactApproximationMatrixUptoRow : OpenClaim := { program := "ytnlhonlfkmpleaa", sum := "7a2c2da35ec5c31f0400a3273620469db7cdb2279d28fec2944393fe4af2096f", func := "loop.example/g00864/laws.FnExactApproximationMatrix", spec := "fnExactApproximationMatrix", apart := false, narrowed := true }
def FnExactApproximationMatrixUptoSaid : Prop := fnExactApproximationMatrixUptoRow.holds Try.pinned (OpenSpec.upto fnExactApproximationMatrixSpec)

/-- 'laws.FnExactAddMatrix', WHERE WHAT IT READS IS OF BULK AT MOST 1048576: true; the input reads as it did. -/
def fnExactAddMatrixUptoRow : OpenClaim := { program := "ytnlhonlfkmpleaa", sum := "7a2c2da35ec5c31f0400a3273620469db7cdb2279d28fec2944393fe4af2096f", func := "loop.example/g00864/laws.FnExactAddMatrix", spec := "fnExactAddMatrix", unfollowed := true, recurses := true, apart := false, narrowed := true }
def FnExactAddMatrixUptoSaid : Prop := fnExactAddMatrixUptoRow.holds Try.pinned (OpenSpec.upto fnExactAddMatrixSpec)

/-- 'laws.FnExactTwoLevelMatrix', WHERE WHAT IT READS IS OF BULK AT MOST 1048576: true; the input reads as it did. -/
def fnExactTwoLevelMatrixUptoRow : OpenClaim := { program := "ytnlhonlfkmpleaa", sum := "7a2c2da35ec5c31f0400a3273620469db7cdb2279d28fec2944393fe4af2096f", func := "loop.example/g00864/laws.FnExactTwoLevelMatrix", spec := "fnExactTwoLevelMatrix", unfollowed := true, recurses := true, apart := false, narrowed := true }
def FnExactTwoLevelMatrixUptoSaid : Prop := fnExactTwoLevelMatrixUptoRow.holds Try.pinned (OpenSpec.upto fnExactTwoLevelMatrixSpec)

/-- 'laws.FnExactMulMatrix', WHERE WHAT IT READS IS OF BULK AT MOST 1048576: true; the input reads as it did. -/
def fnExactMulMatrixUptoRow : OpenClaim := { program := "ytnlhonlfkmpleaa", sum := "7a2c2da35ec5c31f0400a3273620469db7cdb2279d28fec2944393fe4af2096f", func := "loop.example/g00864/laws.FnExactMulMatrix", spec := "fnExactMulMatrix", unfollowed := true, recurses := true, apart := false, narrowed := true }
def FnExactMulMatrixUptoSaid : Prop := fnExactMulMatrixUptoRow.holds Try.pinned (OpenSpec.upto fnExactMulMatrixSpec)

/-- 'laws.FnExactCanonicalPhase', WHERE WHAT IT READS IS OF BULK AT MOST 1048576: true; the input reads as it did. -/
def fnExactCanonicalPhaseUptoRow : OpenClaim := { program := "ytnlhonlfkmpleaa", sum := "7a2c2da35ec5c31f0400a3273620469db7cdb2279d28fec2944393fe4af2096f", func := "loop.example/g00864/laws.FnExactCanonicalPhase", spec := "fnExactCanonicalPhase", unfollowed := true, recurses := true, apart := false, narrowed := true }
def FnExactCanonicalPhaseUptoSaid : Prop := fnExactCanonicalPhaseUptoRow.holds Try.pinned (OpenSpec.upto fnExactCanonicalPhaseSpec)

end Rows
end Go.Proofs.Ytnlhonlfkmpleaa
