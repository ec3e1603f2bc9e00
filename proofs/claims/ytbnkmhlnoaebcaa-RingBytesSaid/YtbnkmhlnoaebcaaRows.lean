/-
  No cell of these rows narrows 'for every input' (looked for: loops, veiled, ifaces, maps, wideKeys, modest, calm, conditions, laid).
  DERIVED. THE GIVEN ROWS OF THIS SEAT. 5 by the template 'for every input the law returns true; each argument reads behind the call as it read before'; 0 by the template 'total and deterministic' (their statements: YtbnkmhlnoaebcaaTotals.lean).
  GIVEN WITH THE SEED: the statements are not yours to turn. If you find one false, say at which input.
  Laid BY PROGRAM, IN A SANDBOX (cutbox-rows.mjs): the forced cells as the released guide's own fill.sh prints them over the translation 37f22cee0994d6f3… (all of the seat's roots in one cut). By AI agents, Wed Nov 11 2026. No macro, syntax, notation, axiom, sorry.
-/
import Derived.Test.YtbnkmhlnoaebcaaChecked
import GoSem.Claim
import GoSem.ClaimJoined
import GoSem.ClaimMapViews
import Derived.JoinedTies
import Derived.KernelRfl
namespace Go.Proofs.Ytbnkmhlnoaebcaa
/- THE CELL 'sum', in the pinned program and in every row, IS THE sha256 OF THE DUMP (.gsa) THAT YtbnkmhlnoaebcaaProg.lean LOADS. Nothing in Lean hashes anything: it is a label: what it is worth is what the hold of that sum in a sandbox is worth. -/
noncomputable def Try.pinned : Pinned := { name := "ytbnkmhlnoaebcaa", sum := "37f22cee0994d6f3b56f89d82dce2fbf736e97056da8fd6c35eee86f8e92d1b0", checked := Try.checked }
namespace Rows
def none {H : Type} : Left H := { results := [], args := [] }

/-- 'firebelllaw19.RingShapes': WHATEVER THE INPUT: true; the input reads as it did. -/
def ringShapesSpec : ChangeSpec := { name := "ringShapes", fn := fun _ => fun
  | [d1, d2] => { results := [.lit (.bool true)], args := [d1, d2] }
  | _ => none }
def ringShapesRow : OpenClaim := { program := "ytbnkmhlnoaebcaa", sum := "37f22cee0994d6f3b56f89d82dce2fbf736e97056da8fd6c35eee86f8e92d1b0", func := "firebell/firebelllaw19.RingShapes", spec := "ringShapes", apart := false }
def RingShapesSaid : Prop := ringShapesRow.holds Try.pinned (OpenSpec.ofChange ringShapesSpec)

/-- ITS FALSE NEIGHBOUR: 'it returns false'. Refute it at one input. -/
def ringShapesWrong : ChangeSpec := { name := "ringShapes", fn := fun _ => fun
  | [d1, d2] => { results := [.lit (.bool false)], args := [d1, d2] }
  | _ => none }
def RingShapesWrongFalsely : Prop := ringShapesRow.holds Try.pinned (OpenSpec.ofChange ringShapesWrong)

/-- 'firebelllaw19.RingPlays': WHATEVER THE INPUT: true; the input reads as it did. -/
def ringPlaysSpec : ChangeSpec := { name := "ringPlays", fn := fun _ => fun
  | [d1, d2, d3] => { results := [.lit (.bool true)], args := [d1, d2, d3] }
  | _ => none }
def ringPlaysRow : OpenClaim := { program := "ytbnkmhlnoaebcaa", sum := "37f22cee0994d6f3b56f89d82dce2fbf736e97056da8fd6c35eee86f8e92d1b0", func := "firebell/firebelllaw19.RingPlays", spec := "ringPlays", apart := false }
def RingPlaysSaid : Prop := ringPlaysRow.holds Try.pinned (OpenSpec.ofChange ringPlaysSpec)

/-- ITS FALSE NEIGHBOUR: 'it returns false'. Refute it at one input. -/
def ringPlaysWrong : ChangeSpec := { name := "ringPlays", fn := fun _ => fun
  | [d1, d2, d3] => { results := [.lit (.bool false)], args := [d1, d2, d3] }
  | _ => none }
def RingPlaysWrongFalsely : Prop := ringPlaysRow.holds Try.pinned (OpenSpec.ofChange ringPlaysWrong)

/-- 'firebelllaw19.RingNil': WHATEVER THE INPUT: true; the input reads as it did. -/
def ringNilSpec : ChangeSpec := { name := "ringNil", fn := fun _ => fun
  | [d1, d2] => { results := [.lit (.bool true)], args := [d1, d2] }
  | _ => none }
def ringNilRow : OpenClaim := { program := "ytbnkmhlnoaebcaa", sum := "37f22cee0994d6f3b56f89d82dce2fbf736e97056da8fd6c35eee86f8e92d1b0", func := "firebell/firebelllaw19.RingNil", spec := "ringNil", apart := false }
def RingNilSaid : Prop := ringNilRow.holds Try.pinned (OpenSpec.ofChange ringNilSpec)

/-- ITS FALSE NEIGHBOUR: 'it returns false'. Refute it at one input. -/
def ringNilWrong : ChangeSpec := { name := "ringNil", fn := fun _ => fun
  | [d1, d2] => { results := [.lit (.bool false)], args := [d1, d2] }
  | _ => none }
def RingNilWrongFalsely : Prop := ringNilRow.holds Try.pinned (OpenSpec.ofChange ringNilWrong)

/-- 'firebelllaw19.RingReads': WHATEVER THE INPUT: true; the input reads as it did. -/
def ringReadsSpec : ChangeSpec := { name := "ringReads", fn := fun _ => fun
  | [d1, d2, d3, d4] => { results := [.lit (.bool true)], args := [d1, d2, d3, d4] }
  | _ => none }
def ringReadsRow : OpenClaim := { program := "ytbnkmhlnoaebcaa", sum := "37f22cee0994d6f3b56f89d82dce2fbf736e97056da8fd6c35eee86f8e92d1b0", func := "firebell/firebelllaw19.RingReads", spec := "ringReads", apart := false }
def RingReadsSaid : Prop := ringReadsRow.holds Try.pinned (OpenSpec.ofChange ringReadsSpec)

/-- ITS FALSE NEIGHBOUR: 'it returns false'. Refute it at one input. -/
def ringReadsWrong : ChangeSpec := { name := "ringReads", fn := fun _ => fun
  | [d1, d2, d3, d4] => { results := [.lit (.bool false)], args := [d1, d2, d3, d4] }
  | _ => none }
def RingReadsWrongFalsely : Prop := ringReadsRow.holds Try.pinned (OpenSpec.ofChange ringReadsWrong)

/-- 'firebelllaw19.RingBytes': WHATEVER THE INPUT: true; the input reads as it did. -/
def ringBytesSpec : ChangeSpec := { name := "ringBytes", fn := fun _ => fun
  | [d1, d2, d3, d4] => { results := [.lit (.bool true)], args := [d1, d2, d3, d4] }
  | _ => none }
def ringBytesRow : OpenClaim := { program := "ytbnkmhlnoaebcaa", sum := "37f22cee0994d6f3b56f89d82dce2fbf736e97056da8fd6c35eee86f8e92d1b0", func := "firebell/firebelllaw19.RingBytes", spec := "ringBytes", apart := false }
def RingBytesSaid : Prop := ringBytesRow.holds Try.pinned (OpenSpec.ofChange ringBytesSpec)

/-- ITS FALSE NEIGHBOUR: 'it returns false'. Refute it at one input. -/
def ringBytesWrong : ChangeSpec := { name := "ringBytes", fn := fun _ => fun
  | [d1, d2, d3, d4] => { results := [.lit (.bool false)], args := [d1, d2, d3, d4] }
  | _ => none }
def RingBytesWrongFalsely : Prop := ringBytesRow.holds Try.pinned (OpenSpec.ofChange ringBytesWrong)

/- THE SECOND FORM. 'bulk': how many values and letters a reading holds, each counted each time it is reached (what is shared counts as often as it is met; a slice's spare places count too). A statement '..UptoSaid' is the law's where the arguments, and the package variables that the reading takes, are together of bulk at most 1048576: NARROWER than '..Said'. Prove '..Said' where nothing that the law and all that it calls make is longer than what came in: it says more and counts as full. Else prove '..UptoSaid'. A law counts once. -/
mutual
def uptoBulk {H : Type} : DataW H → Nat
  | .lit (.string bytes) => bytes.length + 1
  | .lit _ => 1
  | .nil => 1
  | .ptr d => uptoBulk d + 1
  | .slice elems spare => uptoBulkAll elems + uptoBulkAll spare + 1
  | .agg parts => uptoBulkAll parts + 1
  | .iface _ d => uptoBulk d + 1
  | .map entries => uptoBulkEntries entries + 1
  | .held _ => 1
def uptoBulkAll {H : Type} : List (DataW H) → Nat
  | [] => 0
  | d :: r => uptoBulk d + uptoBulkAll r
def uptoBulkEntries {H : Type} : List (Lit × DataW H) → Nat
  | [] => 0
  | x :: r => uptoBulkEntry x + uptoBulkEntries r
def uptoBulkEntry {H : Type} : Lit × DataW H → Nat
  | (.string bytes, d) => bytes.length + uptoBulk d + 1
  | (_, d) => uptoBulk d + 1
 end
def uptoSmall : (H : Type) → List (DataW H) → Bool := fun _ ds => decide (uptoBulkAll ds ≤ 1048576)
def OpenSpec.upto (s : _root_.Go.ChangeSpec) : _root_.Go.OpenSpec := { _root_.Go.OpenSpec.ofChange s with cond := some uptoSmall }

/-- 'firebelllaw19.RingShapes', WHERE WHAT IT READS IS OF BULK AT MOST 1048576: true; the input reads as it did. -/
def ringShapesUptoRow : OpenClaim := { program := "ytbnkmhlnoaebcaa", sum := "37f22cee0994d6f3b56f89d82dce2fbf736e97056da8fd6c35eee86f8e92d1b0", func := "firebell/firebelllaw19.RingShapes", spec := "ringShapes", apart := false, narrowed := true }
def RingShapesUptoSaid : Prop := ringShapesUptoRow.holds Try.pinned (OpenSpec.upto ringShapesSpec)

/-- 'firebelllaw19.RingPlays', WHERE WHAT IT READS IS OF BULK AT MOST 1048576: true; the input reads as it did. -/
def ringPlaysUptoRow : OpenClaim := { program := "ytbnkmhlnoaebcaa", sum := "37f22cee0994d6f3b56f89d82dce2fbf736e97056da8fd6c35eee86f8e92d1b0", func := "firebell/firebelllaw19.RingPlays", spec := "ringPlays", apart := false, narrowed := true }
def RingPlaysUptoSaid : Prop := ringPlaysUptoRow.holds Try.pinned (OpenSpec.upto ringPlaysSpec)

/-- 'firebelllaw19.RingNil', WHERE WHAT IT READS IS OF BULK AT MOST 1048576: true; the input reads as it did. -/
def ringNilUptoRow : OpenClaim := { program := "ytbnkmhlnoaebcaa", sum := "37f22cee0994d6f3b56f89d82dce2fbf736e97056da8fd6c35eee86f8e92d1b0", func := "firebell/firebelllaw19.RingNil", spec := "ringNil", apart := false, narrowed := true }
def RingNilUptoSaid : Prop := ringNilUptoRow.holds Try.pinned (OpenSpec.upto ringNilSpec)

/-- 'firebelllaw19.RingReads', WHERE WHAT IT READS IS OF BULK AT MOST 1048576: true; the input reads as it did. -/
def ringReadsUptoRow : OpenClaim := { program := "ytbnkmhlnoaebcaa", sum := "37f22cee0994d6f3b56f89d82dce2fbf736e97056da8fd6c35eee86f8e92d1b0", func := "firebell/firebelllaw19.RingReads", spec := "ringReads", apart := false, narrowed := true }
def RingReadsUptoSaid : Prop := ringReadsUptoRow.holds Try.pinned (OpenSpec.upto ringReadsSpec)

/-- 'firebelllaw19.RingBytes', WHERE WHAT IT READS IS OF BULK AT MOST 1048576: true; the input reads as it did. -/
def ringBytesUptoRow : OpenClaim := { program := "ytbnkmhlnoaebcaa", sum := "37f22cee0994d6f3b56f89d82dce2fbf736e97056da8fd6c35eee86f8e92d1b0", func := "firebell/firebelllaw19.RingBytes", spec := "ringBytes", apart := false, narrowed := true }
def RingBytesUptoSaid : Prop := ringBytesUptoRow.holds Try.pinned (OpenSpec.upto ringBytesSpec)

end Rows
end Go.Proofs.Ytbnkmhlnoaebcaa
