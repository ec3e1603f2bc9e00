/-
  DERIVED. GIVEN WITH THE SEED: THE CARDS: each row of YtdkkfgcdnojmaaaDoorRows.lean that lists a variable, with what it lists TIED to the program's text (the seventh form; the later family's looks); each row that meets fmt, with fmt's text TOLD by the authors' own Lean function (tested against real Go, not proved from fmt's source: count such statements apart). THE CARD IS WHAT COUNTS. Prove the row's statement (the work); the ties are given (YtdkkfgcdnojmaaaDoorTie.lean); close each card by the builder's one call (the guide's Derived/Test/ToyasCard.lean, 'card_holds'). Laid BY PROGRAM, IN A SANDBOX (cutbox-door.mjs). By AI agents, Wed Nov 11 2026. No macro, syntax, notation, axiom, sorry.
-/
import Derived.Test.YtdkkfgcdnojmaaaDoorRows
import GoSem.ClaimSeven
namespace Go.Proofs.YtdkkfgcdnojmaaaDoor
namespace Rows

/-- THE TIED CARD OF 'firebelllaw26.GlobMatches'. -/
def globMatchesCard : Claim7 := { stood := { row := globMatchesRow, standIns := [], harness := (true, "6adca929c2c4f6d1e6569d1498e846cab33bbb746806caf6e855bc7d222db64a"), looks := false }, kinds := [], alts := [], laidByText := true, laidKinds := [.data, .pinned], laidTests := true, laidLooks := .later }
def GlobMatchesCardSaid : Prop := Claim7.holds Tryd.pinned (.plain (OpenSpec.ofChange globMatchesSpec)) globMatchesCard

/-- THE TIED CARD OF 'firebelllaw26.GlobJoins'. -/
def globJoinsCard : Claim7 := { stood := { row := globJoinsRow, standIns := [], harness := (true, "6adca929c2c4f6d1e6569d1498e846cab33bbb746806caf6e855bc7d222db64a"), looks := false }, kinds := [], alts := [], laidByText := true, laidKinds := [.data, .pinned], laidTests := true, laidLooks := .later }
def GlobJoinsCardSaid : Prop := Claim7.holds Tryd.pinned (.plain (OpenSpec.ofChange globJoinsSpec)) globJoinsCard

/-- THE TIED CARD OF 'firebelllaw26.GlobSqueezes'. -/
def globSqueezesCard : Claim7 := { stood := { row := globSqueezesRow, standIns := [], harness := (true, "6adca929c2c4f6d1e6569d1498e846cab33bbb746806caf6e855bc7d222db64a"), looks := false }, kinds := [], alts := [], laidByText := true, laidKinds := [.data, .pinned], laidTests := true, laidLooks := .later }
def GlobSqueezesCardSaid : Prop := Claim7.holds Tryd.pinned (.plain (OpenSpec.ofChange globSqueezesSpec)) globSqueezesCard

/-- THE SECOND FORM's CARD OF 'firebelllaw26.GlobMatches'. -/
def globMatchesUptoCard : Claim7 := { stood := { row := globMatchesUptoRow, standIns := [], harness := (true, "6adca929c2c4f6d1e6569d1498e846cab33bbb746806caf6e855bc7d222db64a"), looks := false }, kinds := [], alts := [], laidByText := true, laidKinds := [.data, .pinned], laidTests := true, laidLooks := .later }
def GlobMatchesUptoCardSaid : Prop := Claim7.holds Tryd.pinned (.plain (OpenSpec.upto globMatchesSpec)) globMatchesUptoCard

/-- THE SECOND FORM's CARD OF 'firebelllaw26.GlobJoins'. -/
def globJoinsUptoCard : Claim7 := { stood := { row := globJoinsUptoRow, standIns := [], harness := (true, "6adca929c2c4f6d1e6569d1498e846cab33bbb746806caf6e855bc7d222db64a"), looks := false }, kinds := [], alts := [], laidByText := true, laidKinds := [.data, .pinned], laidTests := true, laidLooks := .later }
def GlobJoinsUptoCardSaid : Prop := Claim7.holds Tryd.pinned (.plain (OpenSpec.upto globJoinsSpec)) globJoinsUptoCard

/-- THE SECOND FORM's CARD OF 'firebelllaw26.GlobSqueezes'. -/
def globSqueezesUptoCard : Claim7 := { stood := { row := globSqueezesUptoRow, standIns := [], harness := (true, "6adca929c2c4f6d1e6569d1498e846cab33bbb746806caf6e855bc7d222db64a"), looks := false }, kinds := [], alts := [], laidByText := true, laidKinds := [.data, .pinned], laidTests := true, laidLooks := .later }
def GlobSqueezesUptoCardSaid : Prop := Claim7.holds Tryd.pinned (.plain (OpenSpec.upto globSqueezesSpec)) globSqueezesUptoCard
end Rows
end Go.Proofs.YtdkkfgcdnojmaaaDoor
