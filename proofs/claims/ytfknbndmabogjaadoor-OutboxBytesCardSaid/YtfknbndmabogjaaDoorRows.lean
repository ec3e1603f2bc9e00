/-
  NARROWER THAN 'FOR EVERY INPUT', by the rows' own cells (each row's printed sentence says how): OutboxAdmits: laid · OutboxAcks: laid · OutboxSends: laid · OutboxBytes: laid · OutboxBound: laid.
  DERIVED. THE GIVEN ROWS OF THIS SEAT. 5 by the template 'for every input the law returns true; each argument reads behind the call as it read before'; 0 by the template 'total and deterministic' (their statements: YtfknbndmabogjaaDoorTotals.lean).
  GIVEN WITH THE SEED: the statements are not yours to turn. If you find one false, say at which input.
  Laid BY PROGRAM, IN A SANDBOX (cutbox-rows.mjs): the forced cells as the released guide's own fill.sh prints them over the translation 9c8406253f96b9f6… (all of the seat's roots in one cut). By AI agents, Wed Nov 11 2026. No macro, syntax, notation, axiom, sorry.
-/
import Derived.Test.YtfknbndmabogjaaDoorChecked
import GoSem.PinnedTables
import GoSem.Claim
import GoSem.ClaimJoined
import GoSem.ClaimMapViews
import Derived.JoinedTies
import Derived.KernelRfl
namespace Go.Proofs.YtfknbndmabogjaaDoor
/- THE CELL 'sum', in the pinned program and in every row, IS THE sha256 OF THE DUMP (.gsa) THAT YtfknbndmabogjaaDoorProg.lean LOADS. Nothing in Lean hashes anything: it is a label: what it is worth is what the hold of that sum in a sandbox is worth. -/
noncomputable def Tryd.pinned : Pinned := { name := "ytfknbndmabogjaadoor", sum := "9c8406253f96b9f67a86e89a9a80453c21319f65b685b66d0e43359d8a3bb482", checked := Tryd.checked }
namespace Rows
def none {H : Type} : Left H := { results := [], args := [] }

/- WHAT THE LISTED PACKAGE-LEVEL VARIABLES READ AS WHEN THE CALL BEGINS. Each datum BY PROGRAM (the guide's laid-datum.mjs) off the statement by which the dump's own 'gosem.cut.vars' lays the variable. In a bare row this is a premise. The card (YtfknbndmabogjaaDoorCards.lean) ties it to the program's text. -/
def laid_unicode_utf8_acceptRanges {H : Type} : DataW H := .agg [.agg [.lit (.int .u8 128), .lit (.int .u8 191)], .agg [.lit (.int .u8 160), .lit (.int .u8 191)], .agg [.lit (.int .u8 128), .lit (.int .u8 159)], .agg [.lit (.int .u8 144), .lit (.int .u8 191)], .agg [.lit (.int .u8 128), .lit (.int .u8 143)], .agg [.lit (.int .u8 0), .lit (.int .u8 0)], .agg [.lit (.int .u8 0), .lit (.int .u8 0)], .agg [.lit (.int .u8 0), .lit (.int .u8 0)], .agg [.lit (.int .u8 0), .lit (.int .u8 0)], .agg [.lit (.int .u8 0), .lit (.int .u8 0)], .agg [.lit (.int .u8 0), .lit (.int .u8 0)], .agg [.lit (.int .u8 0), .lit (.int .u8 0)], .agg [.lit (.int .u8 0), .lit (.int .u8 0)], .agg [.lit (.int .u8 0), .lit (.int .u8 0)], .agg [.lit (.int .u8 0), .lit (.int .u8 0)], .agg [.lit (.int .u8 0), .lit (.int .u8 0)]]
/-- One of Go's own tables, pinned by name: the form's constant. -/
def laid_unicode_utf8_first : DataW Unit := Go.Pinned.utf8First

/-- 'firebelllaw29.OutboxAdmits': WHATEVER THE INPUT: true; the input reads as it did. -/
def outboxAdmitsSpec : ChangeSpec := { name := "outboxAdmits", fn := fun _ => fun
  | [d1, d2, d3, d4] => { results := [.lit (.bool true)], args := [d1, d2, d3, d4] }
  | _ => none }
def outboxAdmitsRow : OpenClaim := { program := "ytfknbndmabogjaadoor", sum := "9c8406253f96b9f67a86e89a9a80453c21319f65b685b66d0e43359d8a3bb482", func := "firebell/firebelllaw29.OutboxAdmits", spec := "outboxAdmits", unfollowed := true, recurses := true, named := ["unicode/utf8.first", "unicode/utf8.acceptRanges"], apart := false, laid := [("unicode/utf8.acceptRanges", laid_unicode_utf8_acceptRanges), ("unicode/utf8.first", laid_unicode_utf8_first)] }
def OutboxAdmitsSaid : Prop := outboxAdmitsRow.holds Tryd.pinned (OpenSpec.ofChange outboxAdmitsSpec)

/-- ITS FALSE NEIGHBOUR: 'it returns false'. Refute it at one input. -/
def outboxAdmitsWrong : ChangeSpec := { name := "outboxAdmits", fn := fun _ => fun
  | [d1, d2, d3, d4] => { results := [.lit (.bool false)], args := [d1, d2, d3, d4] }
  | _ => none }
def OutboxAdmitsWrongFalsely : Prop := outboxAdmitsRow.holds Tryd.pinned (OpenSpec.ofChange outboxAdmitsWrong)

/-- 'firebelllaw29.OutboxAcks': WHATEVER THE INPUT: true; the input reads as it did. -/
def outboxAcksSpec : ChangeSpec := { name := "outboxAcks", fn := fun _ => fun
  | [d1, d2, d3, d4, d5, d6] => { results := [.lit (.bool true)], args := [d1, d2, d3, d4, d5, d6] }
  | _ => none }
def outboxAcksRow : OpenClaim := { program := "ytfknbndmabogjaadoor", sum := "9c8406253f96b9f67a86e89a9a80453c21319f65b685b66d0e43359d8a3bb482", func := "firebell/firebelllaw29.OutboxAcks", spec := "outboxAcks", unfollowed := true, recurses := true, named := ["unicode/utf8.first", "unicode/utf8.acceptRanges"], apart := false, laid := [("unicode/utf8.acceptRanges", laid_unicode_utf8_acceptRanges), ("unicode/utf8.first", laid_unicode_utf8_first)] }
def OutboxAcksSaid : Prop := outboxAcksRow.holds Tryd.pinned (OpenSpec.ofChange outboxAcksSpec)

/-- ITS FALSE NEIGHBOUR: 'it returns false'. Refute it at one input. -/
def outboxAcksWrong : ChangeSpec := { name := "outboxAcks", fn := fun _ => fun
  | [d1, d2, d3, d4, d5, d6] => { results := [.lit (.bool false)], args := [d1, d2, d3, d4, d5, d6] }
  | _ => none }
def OutboxAcksWrongFalsely : Prop := outboxAcksRow.holds Tryd.pinned (OpenSpec.ofChange outboxAcksWrong)

/-- 'firebelllaw29.OutboxSends': WHATEVER THE INPUT: true; the input reads as it did. -/
def outboxSendsSpec : ChangeSpec := { name := "outboxSends", fn := fun _ => fun
  | [d1, d2, d3, d4] => { results := [.lit (.bool true)], args := [d1, d2, d3, d4] }
  | _ => none }
def outboxSendsRow : OpenClaim := { program := "ytfknbndmabogjaadoor", sum := "9c8406253f96b9f67a86e89a9a80453c21319f65b685b66d0e43359d8a3bb482", func := "firebell/firebelllaw29.OutboxSends", spec := "outboxSends", unfollowed := true, recurses := true, named := ["unicode/utf8.first", "unicode/utf8.acceptRanges"], apart := false, laid := [("unicode/utf8.acceptRanges", laid_unicode_utf8_acceptRanges), ("unicode/utf8.first", laid_unicode_utf8_first)] }
def OutboxSendsSaid : Prop := outboxSendsRow.holds Tryd.pinned (OpenSpec.ofChange outboxSendsSpec)

/-- ITS FALSE NEIGHBOUR: 'it returns false'. Refute it at one input. -/
def outboxSendsWrong : ChangeSpec := { name := "outboxSends", fn := fun _ => fun
  | [d1, d2, d3, d4] => { results := [.lit (.bool false)], args := [d1, d2, d3, d4] }
  | _ => none }
def OutboxSendsWrongFalsely : Prop := outboxSendsRow.holds Tryd.pinned (OpenSpec.ofChange outboxSendsWrong)

/-- 'firebelllaw29.OutboxBytes': WHATEVER THE INPUT: true; the input reads as it did. -/
def outboxBytesSpec : ChangeSpec := { name := "outboxBytes", fn := fun _ => fun
  | [d1, d2] => { results := [.lit (.bool true)], args := [d1, d2] }
  | _ => none }
def outboxBytesRow : OpenClaim := { program := "ytfknbndmabogjaadoor", sum := "9c8406253f96b9f67a86e89a9a80453c21319f65b685b66d0e43359d8a3bb482", func := "firebell/firebelllaw29.OutboxBytes", spec := "outboxBytes", unfollowed := true, recurses := true, named := ["unicode/utf8.first", "unicode/utf8.acceptRanges"], apart := false, laid := [("unicode/utf8.acceptRanges", laid_unicode_utf8_acceptRanges), ("unicode/utf8.first", laid_unicode_utf8_first)] }
def OutboxBytesSaid : Prop := outboxBytesRow.holds Tryd.pinned (OpenSpec.ofChange outboxBytesSpec)

/-- ITS FALSE NEIGHBOUR: 'it returns false'. Refute it at one input. -/
def outboxBytesWrong : ChangeSpec := { name := "outboxBytes", fn := fun _ => fun
  | [d1, d2] => { results := [.lit (.bool false)], args := [d1, d2] }
  | _ => none }
def OutboxBytesWrongFalsely : Prop := outboxBytesRow.holds Tryd.pinned (OpenSpec.ofChange outboxBytesWrong)

/-- 'firebelllaw29.OutboxBound': WHATEVER THE INPUT: true; the input reads as it did. -/
def outboxBoundSpec : ChangeSpec := { name := "outboxBound", fn := fun _ => fun
  | [d1, d2, d3, d4, d5, d6] => { results := [.lit (.bool true)], args := [d1, d2, d3, d4, d5, d6] }
  | _ => none }
def outboxBoundRow : OpenClaim := { program := "ytfknbndmabogjaadoor", sum := "9c8406253f96b9f67a86e89a9a80453c21319f65b685b66d0e43359d8a3bb482", func := "firebell/firebelllaw29.OutboxBound", spec := "outboxBound", inPlace := ["math/bits.Add64"], unfollowed := true, recurses := true, named := ["unicode/utf8.first", "unicode/utf8.acceptRanges"], apart := false, laid := [("unicode/utf8.acceptRanges", laid_unicode_utf8_acceptRanges), ("unicode/utf8.first", laid_unicode_utf8_first)] }
def OutboxBoundSaid : Prop := outboxBoundRow.holds Tryd.pinned (OpenSpec.ofChange outboxBoundSpec)

/-- ITS FALSE NEIGHBOUR: 'it returns false'. Refute it at one input. -/
def outboxBoundWrong : ChangeSpec := { name := "outboxBound", fn := fun _ => fun
  | [d1, d2, d3, d4, d5, d6] => { results := [.lit (.bool false)], args := [d1, d2, d3, d4, d5, d6] }
  | _ => none }
def OutboxBoundWrongFalsely : Prop := outboxBoundRow.holds Tryd.pinned (OpenSpec.ofChange outboxBoundWrong)

/- THE SECOND FORM. 'bulk': how many values and letters a reading holds, each counted each time it is reached (what is shared counts as often as it is met; a slice's spare places count too). A statement '..UptoSaid' is the law's where the arguments, and the package variables that the reading takes, are together of bulk at most 1048576: NARROWER than '..Said'. Prove '..Said' where nothing that the law and all that it calls make is longer than what came in: it says more and counts as full. Else prove '..UptoSaid'. A law counts once. -/
mutual
def uptoBulk {H : Type} : DataW H → Nat
  | .lit (.string bytes) => bytes.length + 1
  | .lit _ => 1
  | .nil => 1
  | .ptr d => uptoBulk d + 1
  | .slice elems spare => uptoBulkAll elems + uptoBulkAll spare + 1
  | .agg parts => uptoBulkAll parts + 1
  | .iface _ d => uptoBulk d + 1
  | .map entries => uptoBulkEntries entries + 1
  | .held _ => 1
def uptoBulkAll {H : Type} : List (DataW H) → Nat
  | [] => 0
  | d :: r => uptoBulk d + uptoBulkAll r
def uptoBulkEntries {H : Type} : List (Lit × DataW H) → Nat
  | [] => 0
  | x :: r => uptoBulkEntry x + uptoBulkEntries r
def uptoBulkEntry {H : Type} : Lit × DataW H → Nat
  | (.string bytes, d) => bytes.length + uptoBulk d + 1
  | (_, d) => uptoBulk d + 1
 end
def uptoSmall : (H : Type) → List (DataW H) → Bool := fun _ ds => decide (uptoBulkAll ds ≤ 1048576)
def OpenSpec.upto (s : _root_.Go.ChangeSpec) : _root_.Go.OpenSpec := { _root_.Go.OpenSpec.ofChange s with cond := some uptoSmall }

/-- 'firebelllaw29.OutboxAdmits', WHERE WHAT IT READS IS OF BULK AT MOST 1048576: true; the input reads as it did. -/
def outboxAdmitsUptoRow : OpenClaim := { program := "ytfknbndmabogjaadoor", sum := "9c8406253f96b9f67a86e89a9a80453c21319f65b685b66d0e43359d8a3bb482", func := "firebell/firebelllaw29.OutboxAdmits", spec := "outboxAdmits", unfollowed := true, recurses := true, named := ["unicode/utf8.first", "unicode/utf8.acceptRanges"], apart := false, laid := [("unicode/utf8.acceptRanges", laid_unicode_utf8_acceptRanges), ("unicode/utf8.first", laid_unicode_utf8_first)], narrowed := true }
def OutboxAdmitsUptoSaid : Prop := outboxAdmitsUptoRow.holds Tryd.pinned (OpenSpec.upto outboxAdmitsSpec)

/-- 'firebelllaw29.OutboxAcks', WHERE WHAT IT READS IS OF BULK AT MOST 1048576: true; the input reads as it did. -/
def outboxAcksUptoRow : OpenClaim := { program := "ytfknbndmabogjaadoor", sum := "9c8406253f96b9f67a86e89a9a80453c21319f65b685b66d0e43359d8a3bb482", func := "firebell/firebelllaw29.OutboxAcks", spec := "outboxAcks", unfollowed := true, recurses := true, named := ["unicode/utf8.first", "unicode/utf8.acceptRanges"], apart := false, laid := [("unicode/utf8.acceptRanges", laid_unicode_utf8_acceptRanges), ("unicode/utf8.first", laid_unicode_utf8_first)], narrowed := true }
def OutboxAcksUptoSaid : Prop := outboxAcksUptoRow.holds Tryd.pinned (OpenSpec.upto outboxAcksSpec)

/-- 'firebelllaw29.OutboxSends', WHERE WHAT IT READS IS OF BULK AT MOST 1048576: true; the input reads as it did. -/
def outboxSendsUptoRow : OpenClaim := { program := "ytfknbndmabogjaadoor", sum := "9c8406253f96b9f67a86e89a9a80453c21319f65b685b66d0e43359d8a3bb482", func := "firebell/firebelllaw29.OutboxSends", spec := "outboxSends", unfollowed := true, recurses := true, named := ["unicode/utf8.first", "unicode/utf8.acceptRanges"], apart := false, laid := [("unicode/utf8.acceptRanges", laid_unicode_utf8_acceptRanges), ("unicode/utf8.first", laid_unicode_utf8_first)], narrowed := true }
def OutboxSendsUptoSaid : Prop := outboxSendsUptoRow.holds Tryd.pinned (OpenSpec.upto outboxSendsSpec)

/-- 'firebelllaw29.OutboxBytes', WHERE WHAT IT READS IS OF BULK AT MOST 1048576: true; the input reads as it did. -/
def outboxBytesUptoRow : OpenClaim := { program := "ytfknbndmabogjaadoor", sum := "9c8406253f96b9f67a86e89a9a80453c21319f65b685b66d0e43359d8a3bb482", func := "firebell/firebelllaw29.OutboxBytes", spec := "outboxBytes", unfollowed := true, recurses := true, named := ["unicode/utf8.first", "unicode/utf8.acceptRanges"], apart := false, laid := [("unicode/utf8.acceptRanges", laid_unicode_utf8_acceptRanges), ("unicode/utf8.first", laid_unicode_utf8_first)], narrowed := true }
def OutboxBytesUptoSaid : Prop := outboxBytesUptoRow.holds Tryd.pinned (OpenSpec.upto outboxBytesSpec)

/-- 'firebelllaw29.OutboxBound', WHERE WHAT IT READS IS OF BULK AT MOST 1048576: true; the input reads as it did. -/
def outboxBoundUptoRow : OpenClaim := { program := "ytfknbndmabogjaadoor", sum := "9c8406253f96b9f67a86e89a9a80453c21319f65b685b66d0e43359d8a3bb482", func := "firebell/firebelllaw29.OutboxBound", spec := "outboxBound", inPlace := ["math/bits.Add64"], unfollowed := true, recurses := true, named := ["unicode/utf8.first", "unicode/utf8.acceptRanges"], apart := false, laid := [("unicode/utf8.acceptRanges", laid_unicode_utf8_acceptRanges), ("unicode/utf8.first", laid_unicode_utf8_first)], narrowed := true }
def OutboxBoundUptoSaid : Prop := outboxBoundUptoRow.holds Tryd.pinned (OpenSpec.upto outboxBoundSpec)

end Rows
end Go.Proofs.YtfknbndmabogjaaDoor
