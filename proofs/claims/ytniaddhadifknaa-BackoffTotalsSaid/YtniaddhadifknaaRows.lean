/-
  No cell of these rows narrows 'for every input' (looked for: loops, veiled, ifaces, maps, wideKeys, modest, calm, conditions, laid).
  DERIVED. THE GIVEN ROWS OF THIS SEAT. 3 by the template 'for every input the law returns true; each argument reads behind the call as it read before'; 0 by the template 'total and deterministic' (their statements: YtniaddhadifknaaTotals.lean).
  GIVEN WITH THE SEED: the statements are not yours to turn. If you find one false, say at which input.
  Laid BY PROGRAM, IN A SANDBOX (cutbox-rows.mjs): the forced cells as the released guide's own fill.sh prints them over the translation fe0510f654049310… (all of the seat's roots in one cut). By AI agents, Wed Nov 11 2026. No macro, syntax, notation, axiom, sorry.
-/
import Derived.Test.YtniaddhadifknaaChecked
import GoSem.Claim
import GoSem.ClaimJoined
import GoSem.ClaimMapViews
import Derived.JoinedTies
import Derived.KernelRfl
namespace Go.Proofs.Ytniaddhadifknaa
/- THE CELL 'sum', in the pinned program and in every row, IS THE sha256 OF THE DUMP (.gsa) THAT YtniaddhadifknaaProg.lean LOADS. Nothing in Lean hashes anything: it is a label: what it is worth is what the hold of that sum in a sandbox is worth. -/
noncomputable def Try.pinned : Pinned := { name := "ytniaddhadifknaa", sum := "fe0510f654049310fea275c247297c6f4b78d7adf184cfb2540a4fa5e0b69003", checked := Try.checked }
namespace Rows
def none {H : Type} : Left H := { results := [], args := [] }

/-- 'firebelllaw28.BackoffGrows': WHATEVER THE INPUT: true; the input reads as it did. -/
def backoffGrowsSpec : ChangeSpec := { name := "backoffGrows", fn := fun _ => fun
  | [d1, d2, d3] => { results := [.lit (.bool true)], args := [d1, d2, d3] }
  | _ => none }
def backoffGrowsRow : OpenClaim := { program := "ytniaddhadifknaa", sum := "fe0510f654049310fea275c247297c6f4b78d7adf184cfb2540a4fa5e0b69003", func := "firebell/firebelllaw28.BackoffGrows", spec := "backoffGrows", inPlace := ["math/bits.Add64"], apart := false }
def BackoffGrowsSaid : Prop := backoffGrowsRow.holds Try.pinned (OpenSpec.ofChange backoffGrowsSpec)

/-- ITS FALSE NEIGHBOUR: 'it returns false'. Refute it at one input. -/
def backoffGrowsWrong : ChangeSpec := { name := "backoffGrows", fn := fun _ => fun
  | [d1, d2, d3] => { results := [.lit (.bool false)], args := [d1, d2, d3] }
  | _ => none }
def BackoffGrowsWrongFalsely : Prop := backoffGrowsRow.holds Try.pinned (OpenSpec.ofChange backoffGrowsWrong)

/-- 'firebelllaw28.BackoffDelays': WHATEVER THE INPUT: true; the input reads as it did. -/
def backoffDelaysSpec : ChangeSpec := { name := "backoffDelays", fn := fun _ => fun
  | [d1, d2, d3] => { results := [.lit (.bool true)], args := [d1, d2, d3] }
  | _ => none }
def backoffDelaysRow : OpenClaim := { program := "ytniaddhadifknaa", sum := "fe0510f654049310fea275c247297c6f4b78d7adf184cfb2540a4fa5e0b69003", func := "firebell/firebelllaw28.BackoffDelays", spec := "backoffDelays", inPlace := ["math/bits.Add64"], apart := false }
def BackoffDelaysSaid : Prop := backoffDelaysRow.holds Try.pinned (OpenSpec.ofChange backoffDelaysSpec)

/-- ITS FALSE NEIGHBOUR: 'it returns false'. Refute it at one input. -/
def backoffDelaysWrong : ChangeSpec := { name := "backoffDelays", fn := fun _ => fun
  | [d1, d2, d3] => { results := [.lit (.bool false)], args := [d1, d2, d3] }
  | _ => none }
def BackoffDelaysWrongFalsely : Prop := backoffDelaysRow.holds Try.pinned (OpenSpec.ofChange backoffDelaysWrong)

/-- 'firebelllaw28.BackoffTotals': WHATEVER THE INPUT: true; the input reads as it did. -/
def backoffTotalsSpec : ChangeSpec := { name := "backoffTotals", fn := fun _ => fun
  | [d1, d2, d3, d4] => { results := [.lit (.bool true)], args := [d1, d2, d3, d4] }
  | _ => none }
def backoffTotalsRow : OpenClaim := { program := "ytniaddhadifknaa", sum := "fe0510f654049310fea275c247297c6f4b78d7adf184cfb2540a4fa5e0b69003", func := "firebell/firebelllaw28.BackoffTotals", spec := "backoffTotals", inPlace := ["math/bits.Add64"], apart := false }
def BackoffTotalsSaid : Prop := backoffTotalsRow.holds Try.pinned (OpenSpec.ofChange backoffTotalsSpec)

/-- ITS FALSE NEIGHBOUR: 'it returns false'. Refute it at one input. -/
def backoffTotalsWrong : ChangeSpec := { name := "backoffTotals", fn := fun _ => fun
  | [d1, d2, d3, d4] => { results := [.lit (.bool false)], args := [d1, d2, d3, d4] }
  | _ => none }
def BackoffTotalsWrongFalsely : Prop := backoffTotalsRow.holds Try.pinned (OpenSpec.ofChange backoffTotalsWrong)

/- THE SECOND FORM. 'bulk': how many values and letters a reading holds, each counted each time it is reached (what is shared counts as often as it is met; a slice's spare places count too). A statement '..UptoSaid' is the law's where the arguments, and the package variables that the reading takes, are together of bulk at most 1048576: NARROWER than '..Said'. Prove '..Said' where nothing that the law and all that it calls make is longer than what came in: it says more and counts as full. Else prove '..UptoSaid'. A law counts once. -/
mutual
def uptoBulk {H : Type} : DataW H → Nat
  | .lit (.string bytes) => bytes.length + 1
  | .lit _ => 1
  | .nil => 1
  | .ptr d => uptoBulk d + 1
  | .slice elems spare => uptoBulkAll elems + uptoBulkAll spare + 1
  | .agg parts => uptoBulkAll parts + 1
  | .iface _ d => uptoBulk d + 1
  | .map entries => uptoBulkEntries entries + 1
  | .held _ => 1
def uptoBulkAll {H : Type} : List (DataW H) → Nat
  | [] => 0
  | d :: r => uptoBulk d + uptoBulkAll r
def uptoBulkEntries {H : Type} : List (Lit × DataW H) → Nat
  | [] => 0
  | x :: r => uptoBulkEntry x + uptoBulkEntries r
def uptoBulkEntry {H : Type} : Lit × DataW H → Nat
  | (.string bytes, d) => bytes.length + uptoBulk d + 1
  | (_, d) => uptoBulk d + 1
 end
def uptoSmall : (H : Type) → List (DataW H) → Bool := fun _ ds => decide (uptoBulkAll ds ≤ 1048576)
def OpenSpec.upto (s : _root_.Go.ChangeSpec) : _root_.Go.OpenSpec := { _root_.Go.OpenSpec.ofChange s with cond := some uptoSmall }

/-- 'firebelllaw28.BackoffGrows', WHERE WHAT IT READS IS OF BULK AT MOST 1048576: true; the input reads as it did. -/
def backoffGrowsUptoRow : OpenClaim := { program := "ytniaddhadifknaa", sum := "fe0510f654049310fea275c247297c6f4b78d7adf184cfb2540a4fa5e0b69003", func := "firebell/firebelllaw28.BackoffGrows", spec := "backoffGrows", inPlace := ["math/bits.Add64"], apart := false, narrowed := true }
def BackoffGrowsUptoSaid : Prop := backoffGrowsUptoRow.holds Try.pinned (OpenSpec.upto backoffGrowsSpec)

/-- 'firebelllaw28.BackoffDelays', WHERE WHAT IT READS IS OF BULK AT MOST 1048576: true; the input reads as it did. -/
def backoffDelaysUptoRow : OpenClaim := { program := "ytniaddhadifknaa", sum := "fe0510f654049310fea275c247297c6f4b78d7adf184cfb2540a4fa5e0b69003", func := "firebell/firebelllaw28.BackoffDelays", spec := "backoffDelays", inPlace := ["math/bits.Add64"], apart := false, narrowed := true }
def BackoffDelaysUptoSaid : Prop := backoffDelaysUptoRow.holds Try.pinned (OpenSpec.upto backoffDelaysSpec)

/-- 'firebelllaw28.BackoffTotals', WHERE WHAT IT READS IS OF BULK AT MOST 1048576: true; the input reads as it did. -/
def backoffTotalsUptoRow : OpenClaim := { program := "ytniaddhadifknaa", sum := "fe0510f654049310fea275c247297c6f4b78d7adf184cfb2540a4fa5e0b69003", func := "firebell/firebelllaw28.BackoffTotals", spec := "backoffTotals", inPlace := ["math/bits.Add64"], apart := false, narrowed := true }
def BackoffTotalsUptoSaid : Prop := backoffTotalsUptoRow.holds Try.pinned (OpenSpec.upto backoffTotalsSpec)

end Rows
end Go.Proofs.Ytniaddhadifknaa
