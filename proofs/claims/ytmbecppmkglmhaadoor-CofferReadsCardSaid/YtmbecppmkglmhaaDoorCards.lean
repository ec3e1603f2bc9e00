/-
  DERIVED. GIVEN WITH THE SEED: THE CARDS: each row of YtmbecppmkglmhaaDoorRows.lean that lists a variable, with what it lists TIED to the program's text (the seventh form; the later family's looks); each row that meets fmt, with fmt's text TOLD by the authors' own Lean function (tested against real Go, not proved from fmt's source: count such statements apart). THE CARD IS WHAT COUNTS. Prove the row's statement (the work); the ties are given (YtmbecppmkglmhaaDoorTie.lean); close each card by the builder's one call (the guide's Derived/Test/ToyasCard.lean, 'card_holds'). Laid BY PROGRAM, IN A SANDBOX (cutbox-door.mjs). By AI agents, Wed Nov 11 2026. No macro, syntax, notation, axiom, sorry.
-/
import Derived.Test.YtmbecppmkglmhaaDoorRows
import GoSem.ClaimSeven
namespace Go.Proofs.YtmbecppmkglmhaaDoor
namespace Rows

/-- THE TIED CARD OF 'firebelllaw12.CofferReads'. -/
def cofferReadsCard : Claim7 := { stood := { row := cofferReadsRow, standIns := [], harness := (true, "3697530b1c604842f576b0c70e92bdaf2b0f12d522470439d83f85c4d4e9e732"), looks := false }, kinds := [], alts := [], laidByText := true, laidKinds := [.data, .pinned], laidTests := true, laidLooks := .later }
def CofferReadsCardSaid : Prop := Claim7.holds Tryd.pinned (.plain (OpenSpec.ofChange cofferReadsSpec)) cofferReadsCard

/-- THE SECOND FORM's CARD OF 'firebelllaw12.CofferReads'. -/
def cofferReadsUptoCard : Claim7 := { stood := { row := cofferReadsUptoRow, standIns := [], harness := (true, "3697530b1c604842f576b0c70e92bdaf2b0f12d522470439d83f85c4d4e9e732"), looks := false }, kinds := [], alts := [], laidByText := true, laidKinds := [.data, .pinned], laidTests := true, laidLooks := .later }
def CofferReadsUptoCardSaid : Prop := Claim7.holds Tryd.pinned (.plain (OpenSpec.upto cofferReadsSpec)) cofferReadsUptoCard
end Rows
end Go.Proofs.YtmbecppmkglmhaaDoor
