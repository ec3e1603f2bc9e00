/-
  DERIVED. GIVEN WITH THE SEED: THE CARDS: each row of YtjdjpgjjnajjhaaDoorRows.lean that lists a variable, with what it lists TIED to the program's text (the seventh form; the later family's looks); each row that meets fmt, with fmt's text TOLD by the authors' own Lean function (tested against real Go, not proved from fmt's source: count such statements apart). THE CARD IS WHAT COUNTS. Prove the row's statement (the work); the ties are given (YtjdjpgjjnajjhaaDoorTie.lean); close each card by the builder's one call (the guide's Derived/Test/ToyasCard.lean, 'card_holds'). Laid BY PROGRAM, IN A SANDBOX (cutbox-door.mjs). By AI agents, Wed Nov 11 2026. No macro, syntax, notation, axiom, sorry.
-/
import Derived.Test.YtjdjpgjjnajjhaaDoorRows
import GoSem.ClaimSeven
namespace Go.Proofs.YtjdjpgjjnajjhaaDoor
namespace Rows

/-- THE TIED CARD OF 'firebelllaw06.TextNames'. -/
def textNamesCard : Claim7 := { stood := { row := textNamesRow, standIns := [], harness := (true, "3b315ecd0055a39d2a236a929cdb09bac20de2488428a48cc1ef068c539da7cd"), looks := false }, kinds := [], alts := [], laidByText := true, laidKinds := [.data, .data, .data, .data, .pinned], laidTests := true, laidLooks := .later }
def TextNamesCardSaid : Prop := Claim7.holds Tryd.pinned (.plain (OpenSpec.ofChange textNamesSpec)) textNamesCard

/-- THE TIED CARD OF 'firebelllaw06.TextRunes'. -/
def textRunesCard : Claim7 := { stood := { row := textRunesRow, standIns := [], harness := (true, "3b315ecd0055a39d2a236a929cdb09bac20de2488428a48cc1ef068c539da7cd"), looks := false }, kinds := [], alts := [], laidByText := true, laidKinds := [.data, .data, .data, .data, .pinned], laidTests := true, laidLooks := .later }
def TextRunesCardSaid : Prop := Claim7.holds Tryd.pinned (.plain (OpenSpec.ofChange textRunesSpec)) textRunesCard

/-- THE TIED CARD OF 'firebelllaw06.TextQuotes'. -/
def textQuotesCard : Claim7 := { stood := { row := textQuotesRow, standIns := [], harness := (true, "3b315ecd0055a39d2a236a929cdb09bac20de2488428a48cc1ef068c539da7cd"), looks := false }, kinds := [], alts := [], laidByText := true, laidKinds := [.data, .data, .data, .data, .pinned], laidTests := true, laidLooks := .later }
def TextQuotesCardSaid : Prop := Claim7.holds Tryd.pinned (.plain (OpenSpec.ofChange textQuotesSpec)) textQuotesCard

/-- THE TIED CARD OF 'firebelllaw06.TextUnquotes'. -/
def textUnquotesCard : Claim7 := { stood := { row := textUnquotesRow, standIns := [], harness := (true, "3b315ecd0055a39d2a236a929cdb09bac20de2488428a48cc1ef068c539da7cd"), looks := false }, kinds := [], alts := [], laidByText := true, laidKinds := [.data, .data, .data, .data, .pinned], laidTests := true, laidLooks := .later }
def TextUnquotesCardSaid : Prop := Claim7.holds Tryd.pinned (.plain (OpenSpec.ofChange textUnquotesSpec)) textUnquotesCard

/-- THE SECOND FORM's CARD OF 'firebelllaw06.TextNames'. -/
def textNamesUptoCard : Claim7 := { stood := { row := textNamesUptoRow, standIns := [], harness := (true, "3b315ecd0055a39d2a236a929cdb09bac20de2488428a48cc1ef068c539da7cd"), looks := false }, kinds := [], alts := [], laidByText := true, laidKinds := [.data, .data, .data, .data, .pinned], laidTests := true, laidLooks := .later }
def TextNamesUptoCardSaid : Prop := Claim7.holds Tryd.pinned (.plain (OpenSpec.upto textNamesSpec)) textNamesUptoCard

/-- THE SECOND FORM's CARD OF 'firebelllaw06.TextRunes'. -/
def textRunesUptoCard : Claim7 := { stood := { row := textRunesUptoRow, standIns := [], harness := (true, "3b315ecd0055a39d2a236a929cdb09bac20de2488428a48cc1ef068c539da7cd"), looks := false }, kinds := [], alts := [], laidByText := true, laidKinds := [.data, .data, .data, .data, .pinned], laidTests := true, laidLooks := .later }
def TextRunesUptoCardSaid : Prop := Claim7.holds Tryd.pinned (.plain (OpenSpec.upto textRunesSpec)) textRunesUptoCard

/-- THE SECOND FORM's CARD OF 'firebelllaw06.TextQuotes'. -/
def textQuotesUptoCard : Claim7 := { stood := { row := textQuotesUptoRow, standIns := [], harness := (true, "3b315ecd0055a39d2a236a929cdb09bac20de2488428a48cc1ef068c539da7cd"), looks := false }, kinds := [], alts := [], laidByText := true, laidKinds := [.data, .data, .data, .data, .pinned], laidTests := true, laidLooks := .later }
def TextQuotesUptoCardSaid : Prop := Claim7.holds Tryd.pinned (.plain (OpenSpec.upto textQuotesSpec)) textQuotesUptoCard

/-- THE SECOND FORM's CARD OF 'firebelllaw06.TextUnquotes'. -/
def textUnquotesUptoCard : Claim7 := { stood := { row := textUnquotesUptoRow, standIns := [], harness := (true, "3b315ecd0055a39d2a236a929cdb09bac20de2488428a48cc1ef068c539da7cd"), looks := false }, kinds := [], alts := [], laidByText := true, laidKinds := [.data, .data, .data, .data, .pinned], laidTests := true, laidLooks := .later }
def TextUnquotesUptoCardSaid : Prop := Claim7.holds Tryd.pinned (.plain (OpenSpec.upto textUnquotesSpec)) textUnquotesUptoCard
end Rows
end Go.Proofs.YtjdjpgjjnajjhaaDoor
