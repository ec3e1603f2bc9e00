/-
  No cell of these rows narrows 'for every input' (looked for: loops, veiled, ifaces, maps, wideKeys, modest, calm, conditions, laid).
  DERIVED. THE GIVEN ROWS OF THIS SEAT. 4 by the template 'for every input the law returns true; each argument reads behind the call as it read before'; 0 by the template 'total and deterministic' (their statements: YtljfldoekamccaaTotals.lean).
  GIVEN WITH THE SEED: the statements are not yours to turn. If you find one false, say at which input.
  Laid BY PROGRAM, IN A SANDBOX (cutbox-rows.mjs): the forced cells as the released guide's own fill.sh prints them over the translation efc21f23d1719293… (all of the seat's roots in one cut). By AI agents, Wed Nov 11 2026. No macro, syntax, notation, axiom, sorry.
-/
import Derived.Test.YtljfldoekamccaaChecked
import GoSem.Claim
import GoSem.ClaimJoined
import GoSem.ClaimMapViews
import Derived.JoinedTies
import Derived.KernelRfl
namespace Go.Proofs.Ytljfldoekamccaa
/- THE CELL 'sum', in the pinned program and in every row, IS THE sha256 OF THE DUMP (.gsa) THAT YtljfldoekamccaaProg.lean LOADS. Nothing in Lean hashes anything: it is a label: what it is worth is what the hold of that sum in a sandbox is worth. -/
noncomputable def Try.pinned : Pinned := { name := "ytljfldoekamccaa", sum := "efc21f23d1719293d7844c9d9ac21f9c3b94e7409236227039030670dbe428fc", checked := Try.checked }
namespace Rows
def none {H : Type} : Left H := { results := [], args := [] }

/-- 'firebelllaw22.AlertRuns': WHATEVER THE INPUT: true; the input reads as it did. -/
def alertRunsSpec : ChangeSpec := { name := "alertRuns", fn := fun _ => fun
  | [d1, d2] => { results := [.lit (.bool true)], args := [d1, d2] }
  | _ => none }
def alertRunsRow : OpenClaim := { program := "ytljfldoekamccaa", sum := "efc21f23d1719293d7844c9d9ac21f9c3b94e7409236227039030670dbe428fc", func := "firebell/firebelllaw22.AlertRuns", spec := "alertRuns", unfollowed := true, recurses := true, apart := false }
def AlertRunsSaid : Prop := alertRunsRow.holds Try.pinned (OpenSpec.ofChange alertRunsSpec)

/-- ITS FALSE NEIGHBOUR: 'it returns false'. Refute it at one input. -/
def alertRunsWrong : ChangeSpec := { name := "alertRuns", fn := fun _ => fun
  | [d1, d2] => { results := [.lit (.bool false)], args := [d1, d2] }
  | _ => none }
def AlertRunsWrongFalsely : Prop := alertRunsRow.holds Try.pinned (OpenSpec.ofChange alertRunsWrong)

/-- 'firebelllaw22.AlertQuiet': WHATEVER THE INPUT: true; the input reads as it did. -/
def alertQuietSpec : ChangeSpec := { name := "alertQuiet", fn := fun _ => fun
  | [d1, d2, d3] => { results := [.lit (.bool true)], args := [d1, d2, d3] }
  | _ => none }
def alertQuietRow : OpenClaim := { program := "ytljfldoekamccaa", sum := "efc21f23d1719293d7844c9d9ac21f9c3b94e7409236227039030670dbe428fc", func := "firebell/firebelllaw22.AlertQuiet", spec := "alertQuiet", unfollowed := true, recurses := true, apart := false }
def AlertQuietSaid : Prop := alertQuietRow.holds Try.pinned (OpenSpec.ofChange alertQuietSpec)

/-- ITS FALSE NEIGHBOUR: 'it returns false'. Refute it at one input. -/
def alertQuietWrong : ChangeSpec := { name := "alertQuiet", fn := fun _ => fun
  | [d1, d2, d3] => { results := [.lit (.bool false)], args := [d1, d2, d3] }
  | _ => none }
def AlertQuietWrongFalsely : Prop := alertQuietRow.holds Try.pinned (OpenSpec.ofChange alertQuietWrong)

/-- 'firebelllaw22.AlertSteps': WHATEVER THE INPUT: true; the input reads as it did. -/
def alertStepsSpec : ChangeSpec := { name := "alertSteps", fn := fun _ => fun
  | [d1, d2, d3, d4, d5] => { results := [.lit (.bool true)], args := [d1, d2, d3, d4, d5] }
  | _ => none }
def alertStepsRow : OpenClaim := { program := "ytljfldoekamccaa", sum := "efc21f23d1719293d7844c9d9ac21f9c3b94e7409236227039030670dbe428fc", func := "firebell/firebelllaw22.AlertSteps", spec := "alertSteps", unfollowed := true, recurses := true, apart := false }
def AlertStepsSaid : Prop := alertStepsRow.holds Try.pinned (OpenSpec.ofChange alertStepsSpec)

/-- ITS FALSE NEIGHBOUR: 'it returns false'. Refute it at one input. -/
def alertStepsWrong : ChangeSpec := { name := "alertSteps", fn := fun _ => fun
  | [d1, d2, d3, d4, d5] => { results := [.lit (.bool false)], args := [d1, d2, d3, d4, d5] }
  | _ => none }
def AlertStepsWrongFalsely : Prop := alertStepsRow.holds Try.pinned (OpenSpec.ofChange alertStepsWrong)

/-- 'firebelllaw22.AlertBytes': WHATEVER THE INPUT: true; the input reads as it did. -/
def alertBytesSpec : ChangeSpec := { name := "alertBytes", fn := fun _ => fun
  | [d1, d2] => { results := [.lit (.bool true)], args := [d1, d2] }
  | _ => none }
def alertBytesRow : OpenClaim := { program := "ytljfldoekamccaa", sum := "efc21f23d1719293d7844c9d9ac21f9c3b94e7409236227039030670dbe428fc", func := "firebell/firebelllaw22.AlertBytes", spec := "alertBytes", unfollowed := true, recurses := true, apart := false }
def AlertBytesSaid : Prop := alertBytesRow.holds Try.pinned (OpenSpec.ofChange alertBytesSpec)

/-- ITS FALSE NEIGHBOUR: 'it returns false'. Refute it at one input. -/
def alertBytesWrong : ChangeSpec := { name := "alertBytes", fn := fun _ => fun
  | [d1, d2] => { results := [.lit (.bool false)], args := [d1, d2] }
  | _ => none }
def AlertBytesWrongFalsely : Prop := alertBytesRow.holds Try.pinned (OpenSpec.ofChange alertBytesWrong)

/- THE SECOND FORM. 'bulk': how many values and letters a reading holds, each counted each time it is reached (what is shared counts as often as it is met; a slice's spare places count too). A statement '..UptoSaid' is the law's where the arguments, and the package variables that the reading takes, are together of bulk at most 1048576: NARROWER than '..Said'. Prove '..Said' where nothing that the law and all that it calls make is longer than what came in: it says more and counts as full. Else prove '..UptoSaid'. A law counts once. -/
mutual
def uptoBulk {H : Type} : DataW H → Nat
  | .lit (.string bytes) => bytes.length + 1
  | .lit _ => 1
  | .nil => 1
  | .ptr d => uptoBulk d + 1
  | .slice elems spare => uptoBulkAll elems + uptoBulkAll spare + 1
  | .agg parts => uptoBulkAll parts + 1
  | .iface _ d => uptoBulk d + 1
  | .map entries => uptoBulkEntries entries + 1
  | .held _ => 1
def uptoBulkAll {H : Type} : List (DataW H) → Nat
  | [] => 0
  | d :: r => uptoBulk d + uptoBulkAll r
def uptoBulkEntries {H : Type} : List (Lit × DataW H) → Nat
  | [] => 0
  | x :: r => uptoBulkEntry x + uptoBulkEntries r
def uptoBulkEntry {H : Type} : Lit × DataW H → Nat
  | (.string bytes, d) => bytes.length + uptoBulk d + 1
  | (_, d) => uptoBulk d + 1
 end
def uptoSmall : (H : Type) → List (DataW H) → Bool := fun _ ds => decide (uptoBulkAll ds ≤ 1048576)
def OpenSpec.upto (s : _root_.Go.ChangeSpec) : _root_.Go.OpenSpec := { _root_.Go.OpenSpec.ofChange s with cond := some uptoSmall }

/-- 'firebelllaw22.AlertRuns', WHERE WHAT IT READS IS OF BULK AT MOST 1048576: true; the input reads as it did. -/
def alertRunsUptoRow : OpenClaim := { program := "ytljfldoekamccaa", sum := "efc21f23d1719293d7844c9d9ac21f9c3b94e7409236227039030670dbe428fc", func := "firebell/firebelllaw22.AlertRuns", spec := "alertRuns", unfollowed := true, recurses := true, apart := false, narrowed := true }
def AlertRunsUptoSaid : Prop := alertRunsUptoRow.holds Try.pinned (OpenSpec.upto alertRunsSpec)

/-- 'firebelllaw22.AlertQuiet', WHERE WHAT IT READS IS OF BULK AT MOST 1048576: true; the input reads as it did. -/
def alertQuietUptoRow : OpenClaim := { program := "ytljfldoekamccaa", sum := "efc21f23d1719293d7844c9d9ac21f9c3b94e7409236227039030670dbe428fc", func := "firebell/firebelllaw22.AlertQuiet", spec := "alertQuiet", unfollowed := true, recurses := true, apart := false, narrowed := true }
def AlertQuietUptoSaid : Prop := alertQuietUptoRow.holds Try.pinned (OpenSpec.upto alertQuietSpec)

/-- 'firebelllaw22.AlertSteps', WHERE WHAT IT READS IS OF BULK AT MOST 1048576: true; the input reads as it did. -/
def alertStepsUptoRow : OpenClaim := { program := "ytljfldoekamccaa", sum := "efc21f23d1719293d7844c9d9ac21f9c3b94e7409236227039030670dbe428fc", func := "firebell/firebelllaw22.AlertSteps", spec := "alertSteps", unfollowed := true, recurses := true, apart := false, narrowed := true }
def AlertStepsUptoSaid : Prop := alertStepsUptoRow.holds Try.pinned (OpenSpec.upto alertStepsSpec)

/-- 'firebelllaw22.AlertBytes', WHERE WHAT IT READS IS OF BULK AT MOST 1048576: true; the input reads as it did. -/
def alertBytesUptoRow : OpenClaim := { program := "ytljfldoekamccaa", sum := "efc21f23d1719293d7844c9d9ac21f9c3b94e7409236227039030670dbe428fc", func := "firebell/firebelllaw22.AlertBytes", spec := "alertBytes", unfollowed := true, recurses := true, apart := false, narrowed := true }
def AlertBytesUptoSaid : Prop := alertBytesUptoRow.holds Try.pinned (OpenSpec.upto alertBytesSpec)

end Rows
end Go.Proofs.Ytljfldoekamccaa
