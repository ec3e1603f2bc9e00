/-
  DERIVED. GIVEN WITH THE SEED: THE CARDS: each row of YtpjnhcjfkgjbnaaDoorRows.lean that lists a variable, with what it lists TIED to the program's text (the seventh form; the later family's looks); each row that meets fmt, with fmt's text TOLD by the authors' own Lean function (tested against real Go, not proved from fmt's source: count such statements apart). THE CARD IS WHAT COUNTS. Prove the row's statement (the work); the ties are given (YtpjnhcjfkgjbnaaDoorTie.lean); close each card by the builder's one call (the guide's Derived/Test/ToyasCard.lean, 'card_holds'). Laid BY PROGRAM, IN A SANDBOX (cutbox-door.mjs). By AI agents, Wed Nov 11 2026. No macro, syntax, notation, axiom, sorry.
-/
import Derived.Test.YtpjnhcjfkgjbnaaDoorRows
import GoSem.ClaimSeven
namespace Go.Proofs.YtpjnhcjfkgjbnaaDoor
namespace Rows

/-- THE TIED CARD OF 'firebelllaw10.WalPlays'. -/
def walPlaysCard : Claim7 := { stood := { row := walPlaysRow, standIns := [], harness := (true, "be90f425b1e1b6866f67508740f0cb62c5b99091b79b0caff95eb7cf2d1edc6f"), looks := false }, kinds := [], alts := [], laidByText := true, laidKinds := [.data, .pinned], laidTests := true, laidLooks := .later }
def WalPlaysCardSaid : Prop := Claim7.holds Tryd.pinned (.plain (OpenSpec.ofChange walPlaysSpec)) walPlaysCard

/-- THE TIED CARD OF 'firebelllaw10.WalLasts'. -/
def walLastsCard : Claim7 := { stood := { row := walLastsRow, standIns := [], harness := (true, "be90f425b1e1b6866f67508740f0cb62c5b99091b79b0caff95eb7cf2d1edc6f"), looks := false }, kinds := [], alts := [], laidByText := true, laidKinds := [.data, .pinned], laidTests := true, laidLooks := .later }
def WalLastsCardSaid : Prop := Claim7.holds Tryd.pinned (.plain (OpenSpec.ofChange walLastsSpec)) walLastsCard

/-- THE TIED CARD OF 'firebelllaw10.WalOpens'. -/
def walOpensCard : Claim7 := { stood := { row := walOpensRow, standIns := [], harness := (true, "be90f425b1e1b6866f67508740f0cb62c5b99091b79b0caff95eb7cf2d1edc6f"), looks := false }, kinds := [], alts := [], laidByText := true, laidKinds := [.data, .pinned], laidTests := true, laidLooks := .later }
def WalOpensCardSaid : Prop := Claim7.holds Tryd.pinned (.plain (OpenSpec.ofChange walOpensSpec)) walOpensCard

/-- THE SECOND FORM's CARD OF 'firebelllaw10.WalPlays'. -/
def walPlaysUptoCard : Claim7 := { stood := { row := walPlaysUptoRow, standIns := [], harness := (true, "be90f425b1e1b6866f67508740f0cb62c5b99091b79b0caff95eb7cf2d1edc6f"), looks := false }, kinds := [], alts := [], laidByText := true, laidKinds := [.data, .pinned], laidTests := true, laidLooks := .later }
def WalPlaysUptoCardSaid : Prop := Claim7.holds Tryd.pinned (.plain (OpenSpec.upto walPlaysSpec)) walPlaysUptoCard

/-- THE SECOND FORM's CARD OF 'firebelllaw10.WalLasts'. -/
def walLastsUptoCard : Claim7 := { stood := { row := walLastsUptoRow, standIns := [], harness := (true, "be90f425b1e1b6866f67508740f0cb62c5b99091b79b0caff95eb7cf2d1edc6f"), looks := false }, kinds := [], alts := [], laidByText := true, laidKinds := [.data, .pinned], laidTests := true, laidLooks := .later }
def WalLastsUptoCardSaid : Prop := Claim7.holds Tryd.pinned (.plain (OpenSpec.upto walLastsSpec)) walLastsUptoCard

/-- THE SECOND FORM's CARD OF 'firebelllaw10.WalOpens'. -/
def walOpensUptoCard : Claim7 := { stood := { row := walOpensUptoRow, standIns := [], harness := (true, "be90f425b1e1b6866f67508740f0cb62c5b99091b79b0caff95eb7cf2d1edc6f"), looks := false }, kinds := [], alts := [], laidByText := true, laidKinds := [.data, .pinned], laidTests := true, laidLooks := .later }
def WalOpensUptoCardSaid : Prop := Claim7.holds Tryd.pinned (.plain (OpenSpec.upto walOpensSpec)) walOpensUptoCard
end Rows
end Go.Proofs.YtpjnhcjfkgjbnaaDoor
