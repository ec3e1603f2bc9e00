/-
  DERIVED. GIVEN WITH THE SEED: THE CARDS: each row of YtaffbklkjjmmdaaDoorRows.lean that lists a variable, with what it lists TIED to the program's text (the seventh form; the later family's looks); each row that meets fmt, with fmt's text TOLD by the authors' own Lean function (tested against real Go, not proved from fmt's source: count such statements apart). THE CARD IS WHAT COUNTS. Prove the row's statement (the work); the ties are given (YtaffbklkjjmmdaaDoorTie.lean); close each card by the builder's one call (the guide's Derived/Test/ToyasCard.lean, 'card_holds'). Laid BY PROGRAM, IN A SANDBOX (cutbox-door.mjs). By AI agents, Wed Nov 11 2026. No macro, syntax, notation, axiom, sorry.
-/
import Derived.Test.YtaffbklkjjmmdaaDoorRows
import GoSem.ClaimSeven
namespace Go.Proofs.YtaffbklkjjmmdaaDoor
namespace Rows

/-- THE TIED CARD OF 'firebelllaw27.HushCovers'. -/
def hushCoversCard : Claim7 := { stood := { row := hushCoversRow, standIns := [], harness := (true, "ddf65b43b92e9b744bee2652a8a990c2905cb0d5205770414ef7cd3812da1585"), looks := false }, kinds := [], alts := [], laidByText := true, laidKinds := [.data, .pinned], laidTests := true, laidLooks := .later }
def HushCoversCardSaid : Prop := Claim7.holds Tryd.pinned (.plain (OpenSpec.ofChange hushCoversSpec)) hushCoversCard

/-- THE TIED CARD OF 'firebelllaw27.HushPlays'. -/
def hushPlaysCard : Claim7 := { stood := { row := hushPlaysRow, standIns := [], harness := (true, "ddf65b43b92e9b744bee2652a8a990c2905cb0d5205770414ef7cd3812da1585"), looks := false }, kinds := [], alts := [], laidByText := true, laidKinds := [.data, .pinned], laidTests := true, laidLooks := .later }
def HushPlaysCardSaid : Prop := Claim7.holds Tryd.pinned (.plain (OpenSpec.ofChange hushPlaysSpec)) hushPlaysCard

/-- THE TIED CARD OF 'firebelllaw27.HushBytes'. -/
def hushBytesCard : Claim7 := { stood := { row := hushBytesRow, standIns := [], harness := (true, "ddf65b43b92e9b744bee2652a8a990c2905cb0d5205770414ef7cd3812da1585"), looks := false }, kinds := [], alts := [], laidByText := true, laidKinds := [.data, .pinned], laidTests := true, laidLooks := .later }
def HushBytesCardSaid : Prop := Claim7.holds Tryd.pinned (.plain (OpenSpec.ofChange hushBytesSpec)) hushBytesCard

/-- THE SECOND FORM's CARD OF 'firebelllaw27.HushCovers'. -/
def hushCoversUptoCard : Claim7 := { stood := { row := hushCoversUptoRow, standIns := [], harness := (true, "ddf65b43b92e9b744bee2652a8a990c2905cb0d5205770414ef7cd3812da1585"), looks := false }, kinds := [], alts := [], laidByText := true, laidKinds := [.data, .pinned], laidTests := true, laidLooks := .later }
def HushCoversUptoCardSaid : Prop := Claim7.holds Tryd.pinned (.plain (OpenSpec.upto hushCoversSpec)) hushCoversUptoCard

/-- THE SECOND FORM's CARD OF 'firebelllaw27.HushPlays'. -/
def hushPlaysUptoCard : Claim7 := { stood := { row := hushPlaysUptoRow, standIns := [], harness := (true, "ddf65b43b92e9b744bee2652a8a990c2905cb0d5205770414ef7cd3812da1585"), looks := false }, kinds := [], alts := [], laidByText := true, laidKinds := [.data, .pinned], laidTests := true, laidLooks := .later }
def HushPlaysUptoCardSaid : Prop := Claim7.holds Tryd.pinned (.plain (OpenSpec.upto hushPlaysSpec)) hushPlaysUptoCard

/-- THE SECOND FORM's CARD OF 'firebelllaw27.HushBytes'. -/
def hushBytesUptoCard : Claim7 := { stood := { row := hushBytesUptoRow, standIns := [], harness := (true, "ddf65b43b92e9b744bee2652a8a990c2905cb0d5205770414ef7cd3812da1585"), looks := false }, kinds := [], alts := [], laidByText := true, laidKinds := [.data, .pinned], laidTests := true, laidLooks := .later }
def HushBytesUptoCardSaid : Prop := Claim7.holds Tryd.pinned (.plain (OpenSpec.upto hushBytesSpec)) hushBytesUptoCard
end Rows
end Go.Proofs.YtaffbklkjjmmdaaDoor
