/-
  DERIVED. GIVEN WITH THE SEED: THE CARDS: each row of YtocfaghflhgeeaaDoorRows.lean that lists a variable, with what it lists TIED to the program's text (the seventh form; the later family's looks); each row that meets fmt, with fmt's text TOLD by the authors' own Lean function (tested against real Go, not proved from fmt's source: count such statements apart). THE CARD IS WHAT COUNTS. Prove the row's statement (the work); the ties are given (YtocfaghflhgeeaaDoorTie.lean); close each card by the builder's one call (the guide's Derived/Test/ToyasCard.lean, 'card_holds'). Laid BY PROGRAM, IN A SANDBOX (cutbox-door.mjs). By AI agents, Wed Nov 11 2026. No macro, syntax, notation, axiom, sorry.
-/
import Derived.Test.YtocfaghflhgeeaaDoorRows
import GoSem.ClaimSeven
namespace Go.Proofs.YtocfaghflhgeeaaDoor
namespace Rows

/-- THE TIED CARD OF 'firebelllaw03.PpmParts'. -/
def ppmPartsCard : Claim7 := { stood := { row := ppmPartsRow, standIns := [], harness := (true, "d1ce0948a4a383750ad4024b2c7ea709d4c4aaa1ad56843da426806f126c3c80"), looks := false }, kinds := [], alts := [], laidByText := true, laidKinds := [.data, .data, .data, .data, .pinned], laidTests := true, laidLooks := .later }
def PpmPartsCardSaid : Prop := Claim7.holds Tryd.pinned (.plain (OpenSpec.ofChange ppmPartsSpec)) ppmPartsCard

/-- THE TIED CARD OF 'firebelllaw03.PpmShares'. -/
def ppmSharesCard : Claim7 := { stood := { row := ppmSharesRow, standIns := [], harness := (true, "d1ce0948a4a383750ad4024b2c7ea709d4c4aaa1ad56843da426806f126c3c80"), looks := false }, kinds := [], alts := [], laidByText := true, laidKinds := [.data, .data, .data, .data, .pinned], laidTests := true, laidLooks := .later }
def PpmSharesCardSaid : Prop := Claim7.holds Tryd.pinned (.plain (OpenSpec.ofChange ppmSharesSpec)) ppmSharesCard

/-- THE TIED CARD OF 'firebelllaw03.PpmPrints'. -/
def ppmPrintsCard : Claim7 := { stood := { row := ppmPrintsRow, standIns := [], harness := (true, "d1ce0948a4a383750ad4024b2c7ea709d4c4aaa1ad56843da426806f126c3c80"), looks := false }, kinds := [], alts := [], laidByText := true, laidKinds := [.data, .data, .data, .data, .pinned], laidTests := true, laidLooks := .later }
def PpmPrintsCardSaid : Prop := Claim7.holds Tryd.pinned (.plain (OpenSpec.ofChange ppmPrintsSpec)) ppmPrintsCard

/-- THE SECOND FORM's CARD OF 'firebelllaw03.PpmParts'. -/
def ppmPartsUptoCard : Claim7 := { stood := { row := ppmPartsUptoRow, standIns := [], harness := (true, "d1ce0948a4a383750ad4024b2c7ea709d4c4aaa1ad56843da426806f126c3c80"), looks := false }, kinds := [], alts := [], laidByText := true, laidKinds := [.data, .data, .data, .data, .pinned], laidTests := true, laidLooks := .later }
def PpmPartsUptoCardSaid : Prop := Claim7.holds Tryd.pinned (.plain (OpenSpec.upto ppmPartsSpec)) ppmPartsUptoCard

/-- THE SECOND FORM's CARD OF 'firebelllaw03.PpmShares'. -/
def ppmSharesUptoCard : Claim7 := { stood := { row := ppmSharesUptoRow, standIns := [], harness := (true, "d1ce0948a4a383750ad4024b2c7ea709d4c4aaa1ad56843da426806f126c3c80"), looks := false }, kinds := [], alts := [], laidByText := true, laidKinds := [.data, .data, .data, .data, .pinned], laidTests := true, laidLooks := .later }
def PpmSharesUptoCardSaid : Prop := Claim7.holds Tryd.pinned (.plain (OpenSpec.upto ppmSharesSpec)) ppmSharesUptoCard

/-- THE SECOND FORM's CARD OF 'firebelllaw03.PpmPrints'. -/
def ppmPrintsUptoCard : Claim7 := { stood := { row := ppmPrintsUptoRow, standIns := [], harness := (true, "d1ce0948a4a383750ad4024b2c7ea709d4c4aaa1ad56843da426806f126c3c80"), looks := false }, kinds := [], alts := [], laidByText := true, laidKinds := [.data, .data, .data, .data, .pinned], laidTests := true, laidLooks := .later }
def PpmPrintsUptoCardSaid : Prop := Claim7.holds Tryd.pinned (.plain (OpenSpec.upto ppmPrintsSpec)) ppmPrintsUptoCard
end Rows
end Go.Proofs.YtocfaghflhgeeaaDoor
