/-
  DERIVED. GIVEN WITH THE SEED: THE CARDS: each row of YtpidkkgjgichdaaDoorRows.lean that lists a variable, with what it lists TIED to the program's text (the seventh form; the later family's looks); each row that meets fmt, with fmt's text TOLD by the authors' own Lean function (tested against real Go, not proved from fmt's source: count such statements apart). THE CARD IS WHAT COUNTS. Prove the row's statement (the work); the ties are given (YtpidkkgjgichdaaDoorTie.lean); close each card by the builder's one call (the guide's Derived/Test/ToyasCard.lean, 'card_holds'). Laid BY PROGRAM, IN A SANDBOX (cutbox-door.mjs). By AI agents, Wed Nov 11 2026. No macro, syntax, notation, axiom, sorry.
-/
import Derived.Test.YtpidkkgjgichdaaDoorRows
import GoSem.ClaimSeven
namespace Go.Proofs.YtpidkkgjgichdaaDoor
namespace Rows

/-- THE TIED CARD OF 'firebelllaw32.CodecUnlike'. -/
def codecUnlikeCard : Claim7 := { stood := { row := codecUnlikeRow, standIns := [], harness := (true, "f7f3181e21aab17200d90561bb3588dbdc9ab076c1120a398a2996ed4c48cf5c"), looks := false }, kinds := [], alts := [], laidByText := true, laidKinds := [.data, .pinned], laidTests := true, laidLooks := .later }
def CodecUnlikeCardSaid : Prop := Claim7.holds Tryd.pinned (.plain (OpenSpec.ofChange codecUnlikeSpec)) codecUnlikeCard

/-- THE TIED CARD OF 'firebelllaw32.CodecPuts'. -/
def codecPutsCard : Claim7 := { stood := { row := codecPutsRow, standIns := [], harness := (true, "f7f3181e21aab17200d90561bb3588dbdc9ab076c1120a398a2996ed4c48cf5c"), looks := false }, kinds := [], alts := [], laidByText := true, laidKinds := [.data, .pinned], laidTests := true, laidLooks := .later }
def CodecPutsCardSaid : Prop := Claim7.holds Tryd.pinned (.plain (OpenSpec.ofChange codecPutsSpec)) codecPutsCard

/-- THE TIED CARD OF 'firebelllaw32.CodecReads'. -/
def codecReadsCard : Claim7 := { stood := { row := codecReadsRow, standIns := [], harness := (true, "f7f3181e21aab17200d90561bb3588dbdc9ab076c1120a398a2996ed4c48cf5c"), looks := false }, kinds := [], alts := [], laidByText := true, laidKinds := [.data, .pinned], laidTests := true, laidLooks := .later }
def CodecReadsCardSaid : Prop := Claim7.holds Tryd.pinned (.plain (OpenSpec.ofChange codecReadsSpec)) codecReadsCard

/-- THE SECOND FORM's CARD OF 'firebelllaw32.CodecUnlike'. -/
def codecUnlikeUptoCard : Claim7 := { stood := { row := codecUnlikeUptoRow, standIns := [], harness := (true, "f7f3181e21aab17200d90561bb3588dbdc9ab076c1120a398a2996ed4c48cf5c"), looks := false }, kinds := [], alts := [], laidByText := true, laidKinds := [.data, .pinned], laidTests := true, laidLooks := .later }
def CodecUnlikeUptoCardSaid : Prop := Claim7.holds Tryd.pinned (.plain (OpenSpec.upto codecUnlikeSpec)) codecUnlikeUptoCard

/-- THE SECOND FORM's CARD OF 'firebelllaw32.CodecPuts'. -/
def codecPutsUptoCard : Claim7 := { stood := { row := codecPutsUptoRow, standIns := [], harness := (true, "f7f3181e21aab17200d90561bb3588dbdc9ab076c1120a398a2996ed4c48cf5c"), looks := false }, kinds := [], alts := [], laidByText := true, laidKinds := [.data, .pinned], laidTests := true, laidLooks := .later }
def CodecPutsUptoCardSaid : Prop := Claim7.holds Tryd.pinned (.plain (OpenSpec.upto codecPutsSpec)) codecPutsUptoCard

/-- THE SECOND FORM's CARD OF 'firebelllaw32.CodecReads'. -/
def codecReadsUptoCard : Claim7 := { stood := { row := codecReadsUptoRow, standIns := [], harness := (true, "f7f3181e21aab17200d90561bb3588dbdc9ab076c1120a398a2996ed4c48cf5c"), looks := false }, kinds := [], alts := [], laidByText := true, laidKinds := [.data, .pinned], laidTests := true, laidLooks := .later }
def CodecReadsUptoCardSaid : Prop := Claim7.holds Tryd.pinned (.plain (OpenSpec.upto codecReadsSpec)) codecReadsUptoCard
end Rows
end Go.Proofs.YtpidkkgjgichdaaDoor
