/-
  No cell of these rows narrows 'for every input' (looked for: loops, veiled, ifaces, maps, wideKeys, modest, calm, conditions, laid).
  DERIVED. THE GIVEN ROWS OF THIS SEAT. 3 by the template 'for every input the law returns true; each argument reads behind the call as it read before'; 0 by the template 'total and deterministic' (their statements: YteoajodoejoccaaTotals.lean).
  GIVEN WITH THE SEED: the statements are not yours to turn. If you find one false, say at which input.
  Laid BY PROGRAM, IN A SANDBOX (cutbox-rows.mjs): the forced cells as the released guide's own fill.sh prints them over the translation 9c6b2aa7c2da271a… (all of the seat's roots in one cut). By AI agents, Wed Nov 11 2026. No macro, syntax, notation, axiom, sorry.
-/
import Derived.Test.YteoajodoejoccaaChecked
import GoSem.Claim
import GoSem.ClaimJoined
import GoSem.ClaimMapViews
import Derived.JoinedTies
import Derived.KernelRfl
namespace Go.Proofs.Yteoajodoejoccaa
/- THE CELL 'sum', in the pinned program and in every row, IS THE sha256 OF THE DUMP (.gsa) THAT YteoajodoejoccaaProg.lean LOADS. Nothing in Lean hashes anything: it is a label: what it is worth is what the hold of that sum in a sandbox is worth. -/
noncomputable def Try.pinned : Pinned := { name := "yteoajodoejoccaa", sum := "9c6b2aa7c2da271ad3218a633f2dc39c5e92a0059b575aad84eff9228057b057", checked := Try.checked }
namespace Rows
def none {H : Type} : Left H := { results := [], args := [] }

/-- 'firebelllaw11.SlotsPlays': WHATEVER THE INPUT: true; the input reads as it did. -/
def slotsPlaysSpec : ChangeSpec := { name := "slotsPlays", fn := fun _ => fun
  | [d1, d2, d3, d4, d5] => { results := [.lit (.bool true)], args := [d1, d2, d3, d4, d5] }
  | _ => none }
def slotsPlaysRow : OpenClaim := { program := "yteoajodoejoccaa", sum := "9c6b2aa7c2da271ad3218a633f2dc39c5e92a0059b575aad84eff9228057b057", func := "firebell/firebelllaw11.SlotsPlays", spec := "slotsPlays", unfollowed := true, recurses := true, apart := false }
def SlotsPlaysSaid : Prop := slotsPlaysRow.holds Try.pinned (OpenSpec.ofChange slotsPlaysSpec)

/-- ITS FALSE NEIGHBOUR: 'it returns false'. Refute it at one input. -/
def slotsPlaysWrong : ChangeSpec := { name := "slotsPlays", fn := fun _ => fun
  | [d1, d2, d3, d4, d5] => { results := [.lit (.bool false)], args := [d1, d2, d3, d4, d5] }
  | _ => none }
def SlotsPlaysWrongFalsely : Prop := slotsPlaysRow.holds Try.pinned (OpenSpec.ofChange slotsPlaysWrong)

/-- 'firebelllaw11.SlotsLasts': WHATEVER THE INPUT: true; the input reads as it did. -/
def slotsLastsSpec : ChangeSpec := { name := "slotsLasts", fn := fun _ => fun
  | [d1, d2, d3, d4] => { results := [.lit (.bool true)], args := [d1, d2, d3, d4] }
  | _ => none }
def slotsLastsRow : OpenClaim := { program := "yteoajodoejoccaa", sum := "9c6b2aa7c2da271ad3218a633f2dc39c5e92a0059b575aad84eff9228057b057", func := "firebell/firebelllaw11.SlotsLasts", spec := "slotsLasts", unfollowed := true, recurses := true, apart := false }
def SlotsLastsSaid : Prop := slotsLastsRow.holds Try.pinned (OpenSpec.ofChange slotsLastsSpec)

/-- ITS FALSE NEIGHBOUR: 'it returns false'. Refute it at one input. -/
def slotsLastsWrong : ChangeSpec := { name := "slotsLasts", fn := fun _ => fun
  | [d1, d2, d3, d4] => { results := [.lit (.bool false)], args := [d1, d2, d3, d4] }
  | _ => none }
def SlotsLastsWrongFalsely : Prop := slotsLastsRow.holds Try.pinned (OpenSpec.ofChange slotsLastsWrong)

/-- 'firebelllaw11.SlotsReads': WHATEVER THE INPUT: true; the input reads as it did. -/
def slotsReadsSpec : ChangeSpec := { name := "slotsReads", fn := fun _ => fun
  | [d1, d2, d3, d4, d5] => { results := [.lit (.bool true)], args := [d1, d2, d3, d4, d5] }
  | _ => none }
def slotsReadsRow : OpenClaim := { program := "yteoajodoejoccaa", sum := "9c6b2aa7c2da271ad3218a633f2dc39c5e92a0059b575aad84eff9228057b057", func := "firebell/firebelllaw11.SlotsReads", spec := "slotsReads", unfollowed := true, recurses := true, apart := false }
def SlotsReadsSaid : Prop := slotsReadsRow.holds Try.pinned (OpenSpec.ofChange slotsReadsSpec)

/-- ITS FALSE NEIGHBOUR: 'it returns false'. Refute it at one input. -/
def slotsReadsWrong : ChangeSpec := { name := "slotsReads", fn := fun _ => fun
  | [d1, d2, d3, d4, d5] => { results := [.lit (.bool false)], args := [d1, d2, d3, d4, d5] }
  | _ => none }
def SlotsReadsWrongFalsely : Prop := slotsReadsRow.holds Try.pinned (OpenSpec.ofChange slotsReadsWrong)

/- THE SECOND FORM. 'bulk': how many values and letters a reading holds, each counted each time it is reached (what is shared counts as often as it is met; a slice's spare places count too). A statement '..UptoSaid' is the law's where the arguments, and the package variables that the reading takes, are together of bulk at most 1048576: NARROWER than '..Said'. Prove '..Said' where nothing that the law and all that it calls make is longer than what came in: it says more and counts as full. Else prove '..UptoSaid'. A law counts once. -/
mutual
def uptoBulk {H : Type} : DataW H → Nat
  | .lit (.string bytes) => bytes.length + 1
  | .lit _ => 1
  | .nil => 1
  | .ptr d => uptoBulk d + 1
  | .slice elems spare => uptoBulkAll elems + uptoBulkAll spare + 1
  | .agg parts => uptoBulkAll parts + 1
  | .iface _ d => uptoBulk d + 1
  | .map entries => uptoBulkEntries entries + 1
  | .held _ => 1
def uptoBulkAll {H : Type} : List (DataW H) → Nat
  | [] => 0
  | d :: r => uptoBulk d + uptoBulkAll r
def uptoBulkEntries {H : Type} : List (Lit × DataW H) → Nat
  | [] => 0
  | x :: r => uptoBulkEntry x + uptoBulkEntries r
def uptoBulkEntry {H : Type} : Lit × DataW H → Nat
  | (.string bytes, d) => bytes.length + uptoBulk d + 1
  | (_, d) => uptoBulk d + 1
 end
def uptoSmall : (H : Type) → List (DataW H) → Bool := fun _ ds => decide (uptoBulkAll ds ≤ 1048576)
def OpenSpec.upto (s : _root_.Go.ChangeSpec) : _root_.Go.OpenSpec := { _root_.Go.OpenSpec.ofChange s with cond := some uptoSmall }

/-- 'firebelllaw11.SlotsPlays', WHERE WHAT IT READS IS OF BULK AT MOST 1048576: true; the input reads as it did. -/
def slotsPlaysUptoRow : OpenClaim := { program := "yteoajodoejoccaa", sum := "9c6b2aa7c2da271ad3218a633f2dc39c5e92a0059b575aad84eff9228057b057", func := "firebell/firebelllaw11.SlotsPlays", spec := "slotsPlays", unfollowed := true, recurses := true, apart := false, narrowed := true }
def SlotsPlaysUptoSaid : Prop := slotsPlaysUptoRow.holds Try.pinned (OpenSpec.upto slotsPlaysSpec)

/-- 'firebelllaw11.SlotsLasts', WHERE WHAT IT READS IS OF BULK AT MOST 1048576: true; the input reads as it did. -/
def slotsLastsUptoRow : OpenClaim := { program := "yteoajodoejoccaa", sum := "9c6b2aa7c2da271ad3218a633f2dc39c5e92a0059b575aad84eff9228057b057", func := "firebell/firebelllaw11.SlotsLasts", spec := "slotsLasts", unfollowed := true, recurses := true, apart := false, narrowed := true }
def SlotsLastsUptoSaid : Prop := slotsLastsUptoRow.holds Try.pinned (OpenSpec.upto slotsLastsSpec)

/-- 'firebelllaw11.SlotsReads', WHERE WHAT IT READS IS OF BULK AT MOST 1048576: true; the input reads as it did. -/
def slotsReadsUptoRow : OpenClaim := { program := "yteoajodoejoccaa", sum := "9c6b2aa7c2da271ad3218a633f2dc39c5e92a0059b575aad84eff9228057b057", func := "firebell/firebelllaw11.SlotsReads", spec := "slotsReads", unfollowed := true, recurses := true, apart := false, narrowed := true }
def SlotsReadsUptoSaid : Prop := slotsReadsUptoRow.holds Try.pinned (OpenSpec.upto slotsReadsSpec)

end Rows
end Go.Proofs.Yteoajodoejoccaa
