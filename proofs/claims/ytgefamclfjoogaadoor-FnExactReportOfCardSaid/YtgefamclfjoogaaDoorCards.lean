/-
  DERIVED. GIVEN WITH THE SEED: THE CARDS: each row of YtgefamclfjoogaaDoorRows.lean that lists a variable, with what it lists TIED to the program's text (the seventh form; the later family's looks); each row that meets fmt, with fmt's text TOLD by the authors' own Lean function (tested against real Go, not proved from fmt's source: count such statements apart). THE CARD IS WHAT COUNTS. Prove the row's statement (the work); the ties are given (YtgefamclfjoogaaDoorTie.lean); close each card by the builder's one call (the guide's Derived/Test/ToyasCard.lean, 'card_holds'). Laid BY PROGRAM, IN A SANDBOX (cutbox-door.mjs). By AI agents, Wed Nov 11 2026. No macro, syntax, notation, axiom, sorry.
-/
import Derived.Test.YtgefamclfjoogaaDoorRows
import GoSem.ClaimSeven
namespace Go.Proofs.YtgefamclfjoogaaDoor
namespace Rows

/-- THE TIED CARD OF 'laws.FnExactReportOf'. -/
def fnExactReportOfCard : Claim7 := { stood := { row := fnExactReportOfRow, standIns := [], harness := (true, "ccefb0d2d8147f0513683abf43da1fe089182b2af13b5018a4f4238c24cfa3ba"), looks := false }, kinds := [], alts := [], laidByText := true, laidKinds := [.data, .data, .data], laidTests := true, laidLooks := .later }
def FnExactReportOfCardSaid : Prop := Claim7.holds Tryd.pinned (.plain (OpenSpec.ofChange fnExactReportOfSpec)) fnExactReportOfCard

/-- THE SECOND FORM's CARD OF 'laws.FnExactReportOf'. -/
def fnExactReportOfUptoCard : Claim7 := { stood := { row := fnExactReportOfUptoRow, standIns := [], harness := (true, "ccefb0d2d8147f0513683abf43da1fe089182b2af13b5018a4f4238c24cfa3ba"), looks := false }, kinds := [], alts := [], laidByText := true, laidKinds := [.data, .data, .data], laidTests := true, laidLooks := .later }
def FnExactReportOfUptoCardSaid : Prop := Claim7.holds Tryd.pinned (.plain (OpenSpec.upto fnExactReportOfSpec)) fnExactReportOfUptoCard
end Rows
end Go.Proofs.YtgefamclfjoogaaDoor
