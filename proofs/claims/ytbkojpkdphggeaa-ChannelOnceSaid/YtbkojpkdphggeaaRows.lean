/-
  No cell of these rows narrows 'for every input' (looked for: loops, veiled, ifaces, maps, wideKeys, modest, calm, conditions, laid).
  DERIVED. THE GIVEN ROWS OF THIS SEAT. 3 by the template 'for every input the law returns true; each argument reads behind the call as it read before'; 0 by the template 'total and deterministic' (their statements: YtbkojpkdphggeaaTotals.lean).
  GIVEN WITH THE SEED: the statements are not yours to turn. If you find one false, say at which input.
  Laid BY PROGRAM, IN A SANDBOX (cutbox-rows.mjs): the forced cells as the released guide's own fill.sh prints them over the translation aad4ace2954f9f69… (all of the seat's roots in one cut). By AI agents, Wed Nov 11 2026. No macro, syntax, notation, axiom, sorry.
-/
import Derived.Test.YtbkojpkdphggeaaChecked
import GoSem.Claim
import GoSem.ClaimJoined
import GoSem.ClaimMapViews
import Derived.JoinedTies
import Derived.KernelRfl
namespace Go.Proofs.Ytbkojpkdphggeaa
/- THE CELL 'sum', in the pinned program and in every row, IS THE sha256 OF THE DUMP (.gsa) THAT YtbkojpkdphggeaaProg.lean LOADS. Nothing in Lean hashes anything: it is a label: what it is worth is what the hold of that sum in a sandbox is worth. -/
noncomputable def Try.pinned : Pinned := { name := "ytbkojpkdphggeaa", sum := "aad4ace2954f9f696ea937c84ee7d06d2e6bdf9416230971abcd65a13d46120b", checked := Try.checked }
namespace Rows
def none {H : Type} : Left H := { results := [], args := [] }

/-- 'firebelllaw31.ChannelPlays': WHATEVER THE INPUT: true; the input reads as it did. -/
def channelPlaysSpec : ChangeSpec := { name := "channelPlays", fn := fun _ => fun
  | [d] => { results := [.lit (.bool true)], args := [d] }
  | _ => none }
def channelPlaysRow : OpenClaim := { program := "ytbkojpkdphggeaa", sum := "aad4ace2954f9f696ea937c84ee7d06d2e6bdf9416230971abcd65a13d46120b", func := "firebell/firebelllaw31.ChannelPlays", spec := "channelPlays", apart := false }
def ChannelPlaysSaid : Prop := channelPlaysRow.holds Try.pinned (OpenSpec.ofChange channelPlaysSpec)

/-- ITS FALSE NEIGHBOUR: 'it returns false'. Refute it at one input. -/
def channelPlaysWrong : ChangeSpec := { name := "channelPlays", fn := fun _ => fun
  | [d] => { results := [.lit (.bool false)], args := [d] }
  | _ => none }
def ChannelPlaysWrongFalsely : Prop := channelPlaysRow.holds Try.pinned (OpenSpec.ofChange channelPlaysWrong)

/-- 'firebelllaw31.ChannelOnce': WHATEVER THE INPUT: true; the input reads as it did. -/
def channelOnceSpec : ChangeSpec := { name := "channelOnce", fn := fun _ => fun
  | [d] => { results := [.lit (.bool true)], args := [d] }
  | _ => none }
def channelOnceRow : OpenClaim := { program := "ytbkojpkdphggeaa", sum := "aad4ace2954f9f696ea937c84ee7d06d2e6bdf9416230971abcd65a13d46120b", func := "firebell/firebelllaw31.ChannelOnce", spec := "channelOnce", apart := false }
def ChannelOnceSaid : Prop := channelOnceRow.holds Try.pinned (OpenSpec.ofChange channelOnceSpec)

/-- ITS FALSE NEIGHBOUR: 'it returns false'. Refute it at one input. -/
def channelOnceWrong : ChangeSpec := { name := "channelOnce", fn := fun _ => fun
  | [d] => { results := [.lit (.bool false)], args := [d] }
  | _ => none }
def ChannelOnceWrongFalsely : Prop := channelOnceRow.holds Try.pinned (OpenSpec.ofChange channelOnceWrong)

/-- 'firebelllaw31.ChannelNil': WHATEVER THE INPUT: true; the input reads as it did. -/
def channelNilSpec : ChangeSpec := { name := "channelNil", fn := fun _ => fun
  | [d1, d2] => { results := [.lit (.bool true)], args := [d1, d2] }
  | _ => none }
def channelNilRow : OpenClaim := { program := "ytbkojpkdphggeaa", sum := "aad4ace2954f9f696ea937c84ee7d06d2e6bdf9416230971abcd65a13d46120b", func := "firebell/firebelllaw31.ChannelNil", spec := "channelNil", apart := false }
def ChannelNilSaid : Prop := channelNilRow.holds Try.pinned (OpenSpec.ofChange channelNilSpec)

/-- ITS FALSE NEIGHBOUR: 'it returns false'. Refute it at one input. -/
def channelNilWrong : ChangeSpec := { name := "channelNil", fn := fun _ => fun
  | [d1, d2] => { results := [.lit (.bool false)], args := [d1, d2] }
  | _ => none }
def ChannelNilWrongFalsely : Prop := channelNilRow.holds Try.pinned (OpenSpec.ofChange channelNilWrong)

/- THE SECOND FORM. 'bulk': how many values and letters a reading holds, each counted each time it is reached (what is shared counts as often as it is met; a slice's spare places count too). A statement '..UptoSaid' is the law's where the arguments, and the package variables that the reading takes, are together of bulk at most 1048576: NARROWER than '..Said'. Prove '..Said' where nothing that the law and all that it calls make is longer than what came in: it says more and counts as full. Else prove '..UptoSaid'. A law counts once. -/
mutual
def uptoBulk {H : Type} : DataW H → Nat
  | .lit (.string bytes) => bytes.length + 1
  | .lit _ => 1
  | .nil => 1
  | .ptr d => uptoBulk d + 1
  | .slice elems spare => uptoBulkAll elems + uptoBulkAll spare + 1
  | .agg parts => uptoBulkAll parts + 1
  | .iface _ d => uptoBulk d + 1
  | .map entries => uptoBulkEntries entries + 1
  | .held _ => 1
def uptoBulkAll {H : Type} : List (DataW H) → Nat
  | [] => 0
  | d :: r => uptoBulk d + uptoBulkAll r
def uptoBulkEntries {H : Type} : List (Lit × DataW H) → Nat
  | [] => 0
  | x :: r => uptoBulkEntry x + uptoBulkEntries r
def uptoBulkEntry {H : Type} : Lit × DataW H → Nat
  | (.string bytes, d) => bytes.length + uptoBulk d + 1
  | (_, d) => uptoBulk d + 1
 end
def uptoSmall : (H : Type) → List (DataW H) → Bool := fun _ ds => decide (uptoBulkAll ds ≤ 1048576)
def OpenSpec.upto (s : _root_.Go.ChangeSpec) : _root_.Go.OpenSpec := { _root_.Go.OpenSpec.ofChange s with cond := some uptoSmall }

/-- 'firebelllaw31.ChannelPlays', WHERE WHAT IT READS IS OF BULK AT MOST 1048576: true; the input reads as it did. -/
def channelPlaysUptoRow : OpenClaim := { program := "ytbkojpkdphggeaa", sum := "aad4ace2954f9f696ea937c84ee7d06d2e6bdf9416230971abcd65a13d46120b", func := "firebell/firebelllaw31.ChannelPlays", spec := "channelPlays", apart := false, narrowed := true }
def ChannelPlaysUptoSaid : Prop := channelPlaysUptoRow.holds Try.pinned (OpenSpec.upto channelPlaysSpec)

/-- 'firebelllaw31.ChannelOnce', WHERE WHAT IT READS IS OF BULK AT MOST 1048576: true; the input reads as it did. -/
def channelOnceUptoRow : OpenClaim := { program := "ytbkojpkdphggeaa", sum := "aad4ace2954f9f696ea937c84ee7d06d2e6bdf9416230971abcd65a13d46120b", func := "firebell/firebelllaw31.ChannelOnce", spec := "channelOnce", apart := false, narrowed := true }
def ChannelOnceUptoSaid : Prop := channelOnceUptoRow.holds Try.pinned (OpenSpec.upto channelOnceSpec)

/-- 'firebelllaw31.ChannelNil', WHERE WHAT IT READS IS OF BULK AT MOST 1048576: true; the input reads as it did. -/
def channelNilUptoRow : OpenClaim := { program := "ytbkojpkdphggeaa", sum := "aad4ace2954f9f696ea937c84ee7d06d2e6bdf9416230971abcd65a13d46120b", func := "firebell/firebelllaw31.ChannelNil", spec := "channelNil", apart := false, narrowed := true }
def ChannelNilUptoSaid : Prop := channelNilUptoRow.holds Try.pinned (OpenSpec.upto channelNilSpec)

end Rows
end Go.Proofs.Ytbkojpkdphggeaa
