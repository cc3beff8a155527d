/-
  No cell of these rows narrows 'for every input' (looked for: loops, veiled, ifaces, maps, wideKeys, modest, calm, conditions, laid).
  DERIVED. THE GIVEN ROWS OF THIS SEAT. 3 by the template 'for every input the law returns true; each argument reads behind the call as it read before'; 0 by the template 'total and deterministic' (their statements: YtchaanppoklapaaTotals.lean).
  GIVEN WITH THE SEED: the statements are not yours to turn. If you find one false, say at which input.
  Laid BY PROGRAM, IN A SANDBOX (cutbox-rows.mjs): the forced cells as the released guide's own fill.sh prints them over the translation e6f2bef64c095fdd… (all of the seat's roots in one cut). By AI agents, Wed Nov 11 2026. No macro, syntax, notation, axiom, sorry.
-/
import Derived.Test.YtchaanppoklapaaChecked
import GoSem.Claim
import GoSem.ClaimJoined
import GoSem.ClaimMapViews
import Derived.JoinedTies
import Derived.KernelRfl
namespace Go.Proofs.Ytchaanppoklapaa
/- THE CELL 'sum', in the pinned program and in every row, IS THE sha256 OF THE DUMP (.gsa) THAT YtchaanppoklapaaProg.lean LOADS. Nothing in Lean hashes anything: it is a label: what it is worth is what the hold of that sum in a sandbox is worth. -/
noncomputable def Try.pinned : Pinned := { name := "ytchaanppoklapaa", sum := "e6f2bef64c095fdd6f913e67e5269bb29bf46b8680928e8ddaf463f7da846624", checked := Try.checked }
namespace Rows
def none {H : Type} : Left H := { results := [], args := [] }

/-- 'laws.FnExactRotationsOf': WHATEVER THE INPUT: true; the input reads as it did. -/
def fnExactRotationsOfSpec : ChangeSpec := { name := "fnExactRotationsOf", fn := fun _ => fun
  | [d] => { results := [.lit (.bool true)], args := [d] }
  | _ => none }
def fnExactRotationsOfRow : OpenClaim := { program := "ytchaanppoklapaa", sum := "e6f2bef64c095fdd6f913e67e5269bb29bf46b8680928e8ddaf463f7da846624", func := "loop.example/g00864/laws.FnExactRotationsOf", spec := "fnExactRotationsOf", unfollowed := true, recurses := true, apart := false }
def FnExactRotationsOfSaid : Prop := fnExactRotationsOfRow.holds Try.pinned (OpenSpec.ofChange fnExactRotationsOfSpec)

/-- ITS FALSE NEIGHBOUR: 'it returns false'. Refute it at one input. -/
def fnExactRotationsOfWrong : ChangeSpec := { name := "fnExactRotationsOf", fn := fun _ => fun
  | [d] => { results := [.lit (.bool false)], args := [d] }
  | _ => none }
def FnExactRotationsOfWrongFalsely : Prop := fnExactRotationsOfRow.holds Try.pinned (OpenSpec.ofChange fnExactRotationsOfWrong)

/-- 'laws.FnExactFoldPhases': WHATEVER THE INPUT: true; the input reads as it did. -/
def fnExactFoldPhasesSpec : ChangeSpec := { name := "fnExactFoldPhases", fn := fun _ => fun
  | [d] => { results := [.lit (.bool true)], args := [d] }
  | _ => none }
def fnExactFoldPhasesRow : OpenClaim := { program := "ytchaanppoklapaa", sum := "e6f2bef64c095fdd6f913e67e5269bb29bf46b8680928e8ddaf463f7da846624", func := "loop.example/g00864/laws.FnExactFoldPhases", spec := "fnExactFoldPhases", unfollowed := true, recurses := true, apart := false }
def FnExactFoldPhasesSaid : Prop := fnExactFoldPhasesRow.holds Try.pinned (OpenSpec.ofChange fnExactFoldPhasesSpec)

/-- ITS FALSE NEIGHBOUR: 'it returns false'. Refute it at one input. -/
def fnExactFoldPhasesWrong : ChangeSpec := { name := "fnExactFoldPhases", fn := fun _ => fun
  | [d] => { results := [.lit (.bool false)], args := [d] }
  | _ => none }
def FnExactFoldPhasesWrongFalsely : Prop := fnExactFoldPhasesRow.holds Try.pinned (OpenSpec.ofChange fnExactFoldPhasesWrong)

/-- 'laws.FnExactFoldPass': WHATEVER THE INPUT: true; the input reads as it did. -/
def fnExactFoldPassSpec : ChangeSpec := { name := "fnExactFoldPass", fn := fun _ => fun
  | [d] => { results := [.lit (.bool true)], args := [d] }
  | _ => none }
def fnExactFoldPassRow : OpenClaim := { program := "ytchaanppoklapaa", sum := "e6f2bef64c095fdd6f913e67e5269bb29bf46b8680928e8ddaf463f7da846624", func := "loop.example/g00864/laws.FnExactFoldPass", spec := "fnExactFoldPass", unfollowed := true, recurses := true, apart := false }
def FnExactFoldPassSaid : Prop := fnExactFoldPassRow.holds Try.pinned (OpenSpec.ofChange fnExactFoldPassSpec)

/-- ITS FALSE NEIGHBOUR: 'it returns false'. Refute it at one input. -/
def fnExactFoldPassWrong : ChangeSpec := { name := "fnExactFoldPass", fn := fun _ => fun
  | [d] => { results := [.lit (.bool false)], args := [d] }
  | _ => none }
def FnExactFoldPassWrongFalsely : Prop := fnExactFoldPassRow.holds Try.pinned (OpenSpec.ofChange fnExactFoldPassWrong)

/- THE SECOND FORM. 'bulk': how many values and letters a reading holds, each counted each time it is reached (what is shared counts as often as it is met; a slice's spare places count too). A statement '..UptoSaid' is the law's where the arguments, and the package variables that the reading takes, are together of bulk at most 1048576: NARROWER than '..Said'. Prove '..Said' where nothing that the law and all that it calls make is longer than what came in: it says more and counts as full. Else prove '..UptoSaid'. A law counts once. -/
mutual
def uptoBulk {H : Type} : DataW H → Nat
  | .lit (.string bytes) => bytes.length + 1
  | .lit _ => 1
  | .nil => 1
  | .ptr d => uptoBulk d + 1
  | .slice elems spare => uptoBulkAll elems + uptoBulkAll spare + 1
  | .agg parts => uptoBulkAll parts + 1
  | .iface _ d => uptoBulk d + 1
  | .map entries => uptoBulkEntries entries + 1
  | .held _ => 1
def uptoBulkAll {H : Type} : List (DataW H) → Nat
  | [] => 0
  | d :: r => uptoBulk d + uptoBulkAll r
def uptoBulkEntries {H : Type} : List (Lit × DataW H) → Nat
  | [] => 0
  | x :: r => uptoBulkEntry x + uptoBulkEntries r
def uptoBulkEntry {H : Type} : Lit × DataW H → Nat
  | (.string bytes, d) => bytes.length + uptoBulk d + 1
  | (_, d) => uptoBulk d + 1
 end
def uptoSmall : (H : Type) → List (DataW H) → Bool := fun _ ds => decide (uptoBulkAll ds ≤ 1048576)
def OpenSpec.upto (s : _root_.Go.ChangeSpec) : _root_.Go.OpenSpec := { _root_.Go.OpenSpec.ofChange s with cond := some uptoSmall }

/-- 'laws.FnExactRotationsOf', WHERE WHAT IT READS IS OF BULK AT MOST 1048576: true; the input reads as it did. -/
def fnExactRotationsOfUptoRow : OpenClaim := { program := "ytchaanppoklapaa", sum := "e6f2bef64c095fdd6f913e67e5269bb29bf46b8680928e8ddaf463f7da846624", func := "loop.example/g00864/laws.FnExactRotationsOf", spec := "fnExactRotationsOf", unfollowed := true, recurses := true, apart := false, narrowed := true }
def FnExactRotationsOfUptoSaid : Prop := fnExactRotationsOfUptoRow.holds Try.pinned (OpenSpec.upto fnExactRotationsOfSpec)

/-- 'laws.FnExactFoldPhases', WHERE WHAT IT READS IS OF BULK AT MOST 1048576: true; the input reads as it did. -/
def fnExactFoldPhasesUptoRow : OpenClaim := { program := "ytchaanppoklapaa", sum := "e6f2bef64c095fdd6f913e67e5269bb29bf46b8680928e8ddaf463f7da846624", func := "loop.example/g00864/laws.FnExactFoldPhases", spec := "fnExactFoldPhases", unfollowed := true, recurses := true, apart := false, narrowed := true }
def FnExactFoldPhasesUptoSaid : Prop := fnExactFoldPhasesUptoRow.holds Try.pinned (OpenSpec.upto fnExactFoldPhasesSpec)

/-- 'laws.FnExactFoldPass', WHERE WHAT IT READS IS OF BULK AT MOST 1048576: true; the input reads as it did. -/
def fnExactFoldPassUptoRow : OpenClaim := { program := "ytchaanppoklapaa", sum := "e6f2bef64c095fdd6f913e67e5269bb29bf46b8680928e8ddaf463f7da846624", func := "loop.example/g00864/laws.FnExactFoldPass", spec := "fnExactFoldPass", unfollowed := true, recurses := true, apart := false, narrowed := true }
def FnExactFoldPassUptoSaid : Prop := fnExactFoldPassUptoRow.holds Try.pinned (OpenSpec.upto fnExactFoldPassSpec)

end Rows
end Go.Proofs.Ytchaanppoklapaa
