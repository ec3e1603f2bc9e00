/-
  DERIVED. GIVEN WITH THE SEED: THE CARDS: each row of YtndpkahhmgnhpaaDoorRows.lean that lists a variable, with what it lists TIED to the program's text (the seventh form; the later family's looks); each row that meets fmt, with fmt's text TOLD by the authors' own Lean function (tested against real Go, not proved from fmt's source: count such statements apart). THE CARD IS WHAT COUNTS. Prove the row's statement (the work); the ties are given (YtndpkahhmgnhpaaDoorTie.lean); close each card by the builder's one call (the guide's Derived/Test/ToyasCard.lean, 'card_holds'). Laid BY PROGRAM, IN A SANDBOX (cutbox-door.mjs). By AI agents, Wed Nov 11 2026. No macro, syntax, notation, axiom, sorry.
-/
import Derived.Test.YtndpkahhmgnhpaaDoorRows
import GoSem.ClaimSeven
namespace Go.Proofs.YtndpkahhmgnhpaaDoor
namespace Rows

/-- THE TIED CARD OF 'firebelllaw05.CivilPrints'. -/
def civilPrintsCard : Claim7 := { stood := { row := civilPrintsRow, standIns := [], harness := (true, "6c81b464289b7747c17735a399e1ed5e002030f51ce897e8c5c6172068221810"), looks := false }, kinds := [], alts := [], laidByText := true, laidKinds := [.data, .data, .data], laidTests := true, laidLooks := .later }
def CivilPrintsCardSaid : Prop := Claim7.holds Tryd.pinned (.plain (OpenSpec.ofChange civilPrintsSpec)) civilPrintsCard

/-- THE SECOND FORM's CARD OF 'firebelllaw05.CivilPrints'. -/
def civilPrintsUptoCard : Claim7 := { stood := { row := civilPrintsUptoRow, standIns := [], harness := (true, "6c81b464289b7747c17735a399e1ed5e002030f51ce897e8c5c6172068221810"), looks := false }, kinds := [], alts := [], laidByText := true, laidKinds := [.data, .data, .data], laidTests := true, laidLooks := .later }
def CivilPrintsUptoCardSaid : Prop := Claim7.holds Tryd.pinned (.plain (OpenSpec.upto civilPrintsSpec)) civilPrintsUptoCard
end Rows
end Go.Proofs.YtndpkahhmgnhpaaDoor
