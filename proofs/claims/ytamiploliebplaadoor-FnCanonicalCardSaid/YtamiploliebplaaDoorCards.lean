/-
  DERIVED. GIVEN WITH THE SEED: THE CARDS: each row of YtamiploliebplaaDoorRows.lean that lists a variable, with what it lists TIED to the program's text (the seventh form; the later family's looks); each row that meets fmt, with fmt's text TOLD by the authors' own Lean function (tested against real Go, not proved from fmt's source: count such statements apart). THE CARD IS WHAT COUNTS. Prove the row's statement (the work); the ties are given (YtamiploliebplaaDoorTie.lean); close each card by the builder's one call (the guide's Derived/Test/ToyasCard.lean, 'card_holds'). Laid BY PROGRAM, IN A SANDBOX (cutbox-door.mjs). By AI agents, Wed Nov 11 2026. No macro, syntax, notation, axiom, sorry.
-/
import Derived.Test.YtamiploliebplaaDoorRows
import GoSem.ClaimSeven
namespace Go.Proofs.YtamiploliebplaaDoor
namespace Rows

/-- THE TIED CARD OF 'laws.FnExactOperatorKey'. -/
def fnExactOperatorKeyCard : Claim7 := { stood := { row := fnExactOperatorKeyRow, standIns := [], harness := (true, "200061ff6bc52f4b2a2d73636aedb39339f33c462d5d14079f92163f76bb0985"), looks := false }, kinds := [], alts := [], laidByText := true, laidKinds := [.data, .data, .data], laidTests := true, laidLooks := .later }
def FnExactOperatorKeyCardSaid : Prop := Claim7.holds Tryd.pinned (.plain (OpenSpec.ofChange fnExactOperatorKeySpec)) fnExactOperatorKeyCard

/-- THE TIED CARD OF 'laws.FnCanonical'. -/
def fnCanonicalCard : Claim7 := { stood := { row := fnCanonicalRow, standIns := [], harness := (true, "200061ff6bc52f4b2a2d73636aedb39339f33c462d5d14079f92163f76bb0985"), looks := false }, kinds := [], alts := [], laidByText := true, laidKinds := [.data, .data, .data], laidTests := true, laidLooks := .later }
def FnCanonicalCardSaid : Prop := Claim7.holds Tryd.pinned (.plain (OpenSpec.ofChange fnCanonicalSpec)) fnCanonicalCard

/-- THE SECOND FORM's CARD OF 'laws.FnExactOperatorKey'. -/
def fnExactOperatorKeyUptoCard : Claim7 := { stood := { row := fnExactOperatorKeyUptoRow, standIns := [], harness := (true, "200061ff6bc52f4b2a2d73636aedb39339f33c462d5d14079f92163f76bb0985"), looks := false }, kinds := [], alts := [], laidByText := true, laidKinds := [.data, .data, .data], laidTests := true, laidLooks := .later }
def FnExactOperatorKeyUptoCardSaid : Prop := Claim7.holds Tryd.pinned (.plain (OpenSpec.upto fnExactOperatorKeySpec)) fnExactOperatorKeyUptoCard

/-- THE SECOND FORM's CARD OF 'laws.FnCanonical'. -/
def fnCanonicalUptoCard : Claim7 := { stood := { row := fnCanonicalUptoRow, standIns := [], harness := (true, "200061ff6bc52f4b2a2d73636aedb39339f33c462d5d14079f92163f76bb0985"), looks := false }, kinds := [], alts := [], laidByText := true, laidKinds := [.data, .data, .data], laidTests := true, laidLooks := .later }
def FnCanonicalUptoCardSaid : Prop := Claim7.holds Tryd.pinned (.plain (OpenSpec.upto fnCanonicalSpec)) fnCanonicalUptoCard
end Rows
end Go.Proofs.YtamiploliebplaaDoor
