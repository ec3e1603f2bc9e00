/-
  DERIVED. GIVEN WITH THE SEED: THE CARDS: each row of YtfknbndmabogjaaDoorRows.lean that lists a variable, with what it lists TIED to the program's text (the seventh form; the later family's looks); each row that meets fmt, with fmt's text TOLD by the authors' own Lean function (tested against real Go, not proved from fmt's source: count such statements apart). THE CARD IS WHAT COUNTS. Prove the row's statement (the work); the ties are given (YtfknbndmabogjaaDoorTie.lean); close each card by the builder's one call (the guide's Derived/Test/ToyasCard.lean, 'card_holds'). Laid BY PROGRAM, IN A SANDBOX (cutbox-door.mjs). By AI agents, Wed Nov 11 2026. No macro, syntax, notation, axiom, sorry.
-/
import Derived.Test.YtfknbndmabogjaaDoorRows
import GoSem.ClaimSeven
namespace Go.Proofs.YtfknbndmabogjaaDoor
namespace Rows

/-- THE TIED CARD OF 'firebelllaw29.OutboxAdmits'. -/
def outboxAdmitsCard : Claim7 := { stood := { row := outboxAdmitsRow, standIns := [], harness := (true, "e802852f7d58f38fe6bc766c515bd20df779c406cfccee857262c7e85c8dcab2"), looks := false }, kinds := [], alts := [], laidByText := true, laidKinds := [.data, .pinned], laidTests := true, laidLooks := .later }
def OutboxAdmitsCardSaid : Prop := Claim7.holds Tryd.pinned (.plain (OpenSpec.ofChange outboxAdmitsSpec)) outboxAdmitsCard

/-- THE TIED CARD OF 'firebelllaw29.OutboxAcks'. -/
def outboxAcksCard : Claim7 := { stood := { row := outboxAcksRow, standIns := [], harness := (true, "e802852f7d58f38fe6bc766c515bd20df779c406cfccee857262c7e85c8dcab2"), looks := false }, kinds := [], alts := [], laidByText := true, laidKinds := [.data, .pinned], laidTests := true, laidLooks := .later }
def OutboxAcksCardSaid : Prop := Claim7.holds Tryd.pinned (.plain (OpenSpec.ofChange outboxAcksSpec)) outboxAcksCard

/-- THE TIED CARD OF 'firebelllaw29.OutboxSends'. -/
def outboxSendsCard : Claim7 := { stood := { row := outboxSendsRow, standIns := [], harness := (true, "e802852f7d58f38fe6bc766c515bd20df779c406cfccee857262c7e85c8dcab2"), looks := false }, kinds := [], alts := [], laidByText := true, laidKinds := [.data, .pinned], laidTests := true, laidLooks := .later }
def OutboxSendsCardSaid : Prop := Claim7.holds Tryd.pinned (.plain (OpenSpec.ofChange outboxSendsSpec)) outboxSendsCard

/-- THE TIED CARD OF 'firebelllaw29.OutboxBytes'. -/
def outboxBytesCard : Claim7 := { stood := { row := outboxBytesRow, standIns := [], harness := (true, "e802852f7d58f38fe6bc766c515bd20df779c406cfccee857262c7e85c8dcab2"), looks := false }, kinds := [], alts := [], laidByText := true, laidKinds := [.data, .pinned], laidTests := true, laidLooks := .later }
def OutboxBytesCardSaid : Prop := Claim7.holds Tryd.pinned (.plain (OpenSpec.ofChange outboxBytesSpec)) outboxBytesCard

/-- THE TIED CARD OF 'firebelllaw29.OutboxBound'. -/
def outboxBoundCard : Claim7 := { stood := { row := outboxBoundRow, standIns := [], harness := (true, "e802852f7d58f38fe6bc766c515bd20df779c406cfccee857262c7e85c8dcab2"), looks := false }, kinds := [], alts := [], laidByText := true, laidKinds := [.data, .pinned], laidTests := true, laidLooks := .later }
def OutboxBoundCardSaid : Prop := Claim7.holds Tryd.pinned (.plain (OpenSpec.ofChange outboxBoundSpec)) outboxBoundCard

/-- THE SECOND FORM's CARD OF 'firebelllaw29.OutboxAdmits'. -/
def outboxAdmitsUptoCard : Claim7 := { stood := { row := outboxAdmitsUptoRow, standIns := [], harness := (true, "e802852f7d58f38fe6bc766c515bd20df779c406cfccee857262c7e85c8dcab2"), looks := false }, kinds := [], alts := [], laidByText := true, laidKinds := [.data, .pinned], laidTests := true, laidLooks := .later }
def OutboxAdmitsUptoCardSaid : Prop := Claim7.holds Tryd.pinned (.plain (OpenSpec.upto outboxAdmitsSpec)) outboxAdmitsUptoCard

/-- THE SECOND FORM's CARD OF 'firebelllaw29.OutboxAcks'. -/
def outboxAcksUptoCard : Claim7 := { stood := { row := outboxAcksUptoRow, standIns := [], harness := (true, "e802852f7d58f38fe6bc766c515bd20df779c406cfccee857262c7e85c8dcab2"), looks := false }, kinds := [], alts := [], laidByText := true, laidKinds := [.data, .pinned], laidTests := true, laidLooks := .later }
def OutboxAcksUptoCardSaid : Prop := Claim7.holds Tryd.pinned (.plain (OpenSpec.upto outboxAcksSpec)) outboxAcksUptoCard

/-- THE SECOND FORM's CARD OF 'firebelllaw29.OutboxSends'. -/
def outboxSendsUptoCard : Claim7 := { stood := { row := outboxSendsUptoRow, standIns := [], harness := (true, "e802852f7d58f38fe6bc766c515bd20df779c406cfccee857262c7e85c8dcab2"), looks := false }, kinds := [], alts := [], laidByText := true, laidKinds := [.data, .pinned], laidTests := true, laidLooks := .later }
def OutboxSendsUptoCardSaid : Prop := Claim7.holds Tryd.pinned (.plain (OpenSpec.upto outboxSendsSpec)) outboxSendsUptoCard

/-- THE SECOND FORM's CARD OF 'firebelllaw29.OutboxBytes'. -/
def outboxBytesUptoCard : Claim7 := { stood := { row := outboxBytesUptoRow, standIns := [], harness := (true, "e802852f7d58f38fe6bc766c515bd20df779c406cfccee857262c7e85c8dcab2"), looks := false }, kinds := [], alts := [], laidByText := true, laidKinds := [.data, .pinned], laidTests := true, laidLooks := .later }
def OutboxBytesUptoCardSaid : Prop := Claim7.holds Tryd.pinned (.plain (OpenSpec.upto outboxBytesSpec)) outboxBytesUptoCard

/-- THE SECOND FORM's CARD OF 'firebelllaw29.OutboxBound'. -/
def outboxBoundUptoCard : Claim7 := { stood := { row := outboxBoundUptoRow, standIns := [], harness := (true, "e802852f7d58f38fe6bc766c515bd20df779c406cfccee857262c7e85c8dcab2"), looks := false }, kinds := [], alts := [], laidByText := true, laidKinds := [.data, .pinned], laidTests := true, laidLooks := .later }
def OutboxBoundUptoCardSaid : Prop := Claim7.holds Tryd.pinned (.plain (OpenSpec.upto outboxBoundSpec)) outboxBoundUptoCard
end Rows
end Go.Proofs.YtfknbndmabogjaaDoor
