/-
  DERIVED. GIVEN WITH THE SEED: THE CARDS: each row of YtdfkpnkohikcgaaDoorRows.lean that lists a variable, with what it lists TIED to the program's text (the seventh form; the later family's looks); each row that meets fmt, with fmt's text TOLD by the authors' own Lean function (tested against real Go, not proved from fmt's source: count such statements apart). THE CARD IS WHAT COUNTS. Prove the row's statement (the work); the ties are given (YtdfkpnkohikcgaaDoorTie.lean); close each card by the builder's one call (the guide's Derived/Test/ToyasCard.lean, 'card_holds'). Laid BY PROGRAM, IN A SANDBOX (cutbox-door.mjs). By AI agents, Wed Nov 11 2026. No macro, syntax, notation, axiom, sorry.
-/
import Derived.Test.YtdfkpnkohikcgaaDoorRows
import GoSem.ClaimSeven
namespace Go.Proofs.YtdfkpnkohikcgaaDoor
namespace Rows

/-- THE TIED CARD OF 'firebelllaw04.SpanPrints'. -/
def spanPrintsCard : Claim7 := { stood := { row := spanPrintsRow, standIns := [], harness := (true, "4a60eee1d8bb6c39e2044ed13c853eb68e7b40bfb422670decc10386d728e69e"), looks := false }, kinds := [], alts := [], laidByText := true, laidKinds := [.data, .data, .data], laidTests := true, laidLooks := .later }
def SpanPrintsCardSaid : Prop := Claim7.holds Tryd.pinned (.plain (OpenSpec.ofChange spanPrintsSpec)) spanPrintsCard

/-- THE TIED CARD OF 'firebelllaw04.SpanReads'. -/
def spanReadsCard : Claim7 := { stood := { row := spanReadsRow, standIns := [], harness := (true, "4a60eee1d8bb6c39e2044ed13c853eb68e7b40bfb422670decc10386d728e69e"), looks := false }, kinds := [], alts := [], laidByText := true, laidKinds := [.data, .data, .data], laidTests := true, laidLooks := .later }
def SpanReadsCardSaid : Prop := Claim7.holds Tryd.pinned (.plain (OpenSpec.ofChange spanReadsSpec)) spanReadsCard

/-- THE TIED CARD OF 'firebelllaw04.SpanJoins'. -/
def spanJoinsCard : Claim7 := { stood := { row := spanJoinsRow, standIns := [], harness := (true, "4a60eee1d8bb6c39e2044ed13c853eb68e7b40bfb422670decc10386d728e69e"), looks := false }, kinds := [], alts := [], laidByText := true, laidKinds := [.data, .data, .data], laidTests := true, laidLooks := .later }
def SpanJoinsCardSaid : Prop := Claim7.holds Tryd.pinned (.plain (OpenSpec.ofChange spanJoinsSpec)) spanJoinsCard

/-- THE TIED CARD OF 'firebelllaw04.SpanRounds'. -/
def spanRoundsCard : Claim7 := { stood := { row := spanRoundsRow, standIns := [], harness := (true, "4a60eee1d8bb6c39e2044ed13c853eb68e7b40bfb422670decc10386d728e69e"), looks := false }, kinds := [], alts := [], laidByText := true, laidKinds := [.data, .data, .data], laidTests := true, laidLooks := .later }
def SpanRoundsCardSaid : Prop := Claim7.holds Tryd.pinned (.plain (OpenSpec.ofChange spanRoundsSpec)) spanRoundsCard

/-- THE SECOND FORM's CARD OF 'firebelllaw04.SpanPrints'. -/
def spanPrintsUptoCard : Claim7 := { stood := { row := spanPrintsUptoRow, standIns := [], harness := (true, "4a60eee1d8bb6c39e2044ed13c853eb68e7b40bfb422670decc10386d728e69e"), looks := false }, kinds := [], alts := [], laidByText := true, laidKinds := [.data, .data, .data], laidTests := true, laidLooks := .later }
def SpanPrintsUptoCardSaid : Prop := Claim7.holds Tryd.pinned (.plain (OpenSpec.upto spanPrintsSpec)) spanPrintsUptoCard

/-- THE SECOND FORM's CARD OF 'firebelllaw04.SpanReads'. -/
def spanReadsUptoCard : Claim7 := { stood := { row := spanReadsUptoRow, standIns := [], harness := (true, "4a60eee1d8bb6c39e2044ed13c853eb68e7b40bfb422670decc10386d728e69e"), looks := false }, kinds := [], alts := [], laidByText := true, laidKinds := [.data, .data, .data], laidTests := true, laidLooks := .later }
def SpanReadsUptoCardSaid : Prop := Claim7.holds Tryd.pinned (.plain (OpenSpec.upto spanReadsSpec)) spanReadsUptoCard

/-- THE SECOND FORM's CARD OF 'firebelllaw04.SpanJoins'. -/
def spanJoinsUptoCard : Claim7 := { stood := { row := spanJoinsUptoRow, standIns := [], harness := (true, "4a60eee1d8bb6c39e2044ed13c853eb68e7b40bfb422670decc10386d728e69e"), looks := false }, kinds := [], alts := [], laidByText := true, laidKinds := [.data, .data, .data], laidTests := true, laidLooks := .later }
def SpanJoinsUptoCardSaid : Prop := Claim7.holds Tryd.pinned (.plain (OpenSpec.upto spanJoinsSpec)) spanJoinsUptoCard

/-- THE SECOND FORM's CARD OF 'firebelllaw04.SpanRounds'. -/
def spanRoundsUptoCard : Claim7 := { stood := { row := spanRoundsUptoRow, standIns := [], harness := (true, "4a60eee1d8bb6c39e2044ed13c853eb68e7b40bfb422670decc10386d728e69e"), looks := false }, kinds := [], alts := [], laidByText := true, laidKinds := [.data, .data, .data], laidTests := true, laidLooks := .later }
def SpanRoundsUptoCardSaid : Prop := Claim7.holds Tryd.pinned (.plain (OpenSpec.upto spanRoundsSpec)) spanRoundsUptoCard
end Rows
end Go.Proofs.YtdfkpnkohikcgaaDoor
