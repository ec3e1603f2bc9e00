/-
  No cell of these rows narrows 'for every input' (looked for: loops, veiled, ifaces, maps, wideKeys, modest, calm, conditions, laid).
  DERIVED. THE GIVEN ROWS OF THIS SEAT. 4 by the template 'for every input the law returns true; each argument reads behind the call as it read before'; 0 by the template 'total and deterministic' (their statements: YtnhkohgamnchlaaTotals.lean).
  GIVEN WITH THE SEED: the statements are not yours to turn. If you find one false, say at which input.
  Laid BY PROGRAM, IN A SANDBOX (cutbox-rows.mjs): the forced cells as the released guide's own fill.sh prints them over the translation 79a0ee9f6d9b4740… (all of the seat's roots in one cut). By AI agents, Wed Nov 11 2026. No macro, syntax, notation, axiom, sorry.
-/
import Derived.Test.YtnhkohgamnchlaaChecked
import GoSem.Claim
import GoSem.ClaimJoined
import GoSem.ClaimMapViews
import Derived.JoinedTies
import Derived.KernelRfl
namespace Go.Proofs.Ytnhkohgamnchlaa
/- THE CELL 'sum', in the pinned program and in every row, IS THE sha256 OF THE DUMP (.gsa) THAT YtnhkohgamnchlaaProg.lean LOADS. Nothing in Lean hashes anything: it is a label: what it is worth is what the hold of that sum in a sandbox is worth. -/
noncomputable def Try.pinned : Pinned := { name := "ytnhkohgamnchlaa", sum := "79a0ee9f6d9b4740e8d52147e5a704151047507e1ed35ba02fdc60a0f66a6cae", checked := Try.checked }
namespace Rows
def none {H : Type} : Left H := { results := [], args := [] }

/-- 'firebelllaw09.BlockFuses': WHATEVER THE INPUT: true; the input reads as it did. -/
def blockFusesSpec : ChangeSpec := { name := "blockFuses", fn := fun _ => fun
  | [d1, d2] => { results := [.lit (.bool true)], args := [d1, d2] }
  | _ => none }
def blockFusesRow : OpenClaim := { program := "ytnhkohgamnchlaa", sum := "79a0ee9f6d9b4740e8d52147e5a704151047507e1ed35ba02fdc60a0f66a6cae", func := "firebell/firebelllaw09.BlockFuses", spec := "blockFuses", apart := false }
def BlockFusesSaid : Prop := blockFusesRow.holds Try.pinned (OpenSpec.ofChange blockFusesSpec)

/-- ITS FALSE NEIGHBOUR: 'it returns false'. Refute it at one input. -/
def blockFusesWrong : ChangeSpec := { name := "blockFuses", fn := fun _ => fun
  | [d1, d2] => { results := [.lit (.bool false)], args := [d1, d2] }
  | _ => none }
def BlockFusesWrongFalsely : Prop := blockFusesRow.holds Try.pinned (OpenSpec.ofChange blockFusesWrong)

/-- 'firebelllaw09.BlockLasts': WHATEVER THE INPUT: true; the input reads as it did. -/
def blockLastsSpec : ChangeSpec := { name := "blockLasts", fn := fun _ => fun
  | [d1, d2, d3, d4] => { results := [.lit (.bool true)], args := [d1, d2, d3, d4] }
  | _ => none }
def blockLastsRow : OpenClaim := { program := "ytnhkohgamnchlaa", sum := "79a0ee9f6d9b4740e8d52147e5a704151047507e1ed35ba02fdc60a0f66a6cae", func := "firebell/firebelllaw09.BlockLasts", spec := "blockLasts", apart := false }
def BlockLastsSaid : Prop := blockLastsRow.holds Try.pinned (OpenSpec.ofChange blockLastsSpec)

/-- ITS FALSE NEIGHBOUR: 'it returns false'. Refute it at one input. -/
def blockLastsWrong : ChangeSpec := { name := "blockLasts", fn := fun _ => fun
  | [d1, d2, d3, d4] => { results := [.lit (.bool false)], args := [d1, d2, d3, d4] }
  | _ => none }
def BlockLastsWrongFalsely : Prop := blockLastsRow.holds Try.pinned (OpenSpec.ofChange blockLastsWrong)

/-- 'firebelllaw09.BlockPlays': WHATEVER THE INPUT: true; the input reads as it did. -/
def blockPlaysSpec : ChangeSpec := { name := "blockPlays", fn := fun _ => fun
  | [d1, d2, d3] => { results := [.lit (.bool true)], args := [d1, d2, d3] }
  | _ => none }
def blockPlaysRow : OpenClaim := { program := "ytnhkohgamnchlaa", sum := "79a0ee9f6d9b4740e8d52147e5a704151047507e1ed35ba02fdc60a0f66a6cae", func := "firebell/firebelllaw09.BlockPlays", spec := "blockPlays", apart := false }
def BlockPlaysSaid : Prop := blockPlaysRow.holds Try.pinned (OpenSpec.ofChange blockPlaysSpec)

/-- ITS FALSE NEIGHBOUR: 'it returns false'. Refute it at one input. -/
def blockPlaysWrong : ChangeSpec := { name := "blockPlays", fn := fun _ => fun
  | [d1, d2, d3] => { results := [.lit (.bool false)], args := [d1, d2, d3] }
  | _ => none }
def BlockPlaysWrongFalsely : Prop := blockPlaysRow.holds Try.pinned (OpenSpec.ofChange blockPlaysWrong)

/-- 'firebelllaw09.BlockNil': WHATEVER THE INPUT: true; the input reads as it did. -/
def blockNilSpec : ChangeSpec := { name := "blockNil", fn := fun _ => fun
  | [d1, d2] => { results := [.lit (.bool true)], args := [d1, d2] }
  | _ => none }
def blockNilRow : OpenClaim := { program := "ytnhkohgamnchlaa", sum := "79a0ee9f6d9b4740e8d52147e5a704151047507e1ed35ba02fdc60a0f66a6cae", func := "firebell/firebelllaw09.BlockNil", spec := "blockNil", apart := false }
def BlockNilSaid : Prop := blockNilRow.holds Try.pinned (OpenSpec.ofChange blockNilSpec)

/-- ITS FALSE NEIGHBOUR: 'it returns false'. Refute it at one input. -/
def blockNilWrong : ChangeSpec := { name := "blockNil", fn := fun _ => fun
  | [d1, d2] => { results := [.lit (.bool false)], args := [d1, d2] }
  | _ => none }
def BlockNilWrongFalsely : Prop := blockNilRow.holds Try.pinned (OpenSpec.ofChange blockNilWrong)

/- THE SECOND FORM. 'bulk': how many values and letters a reading holds, each counted each time it is reached (what is shared counts as often as it is met; a slice's spare places count too). A statement '..UptoSaid' is the law's where the arguments, and the package variables that the reading takes, are together of bulk at most 1048576: NARROWER than '..Said'. Prove '..Said' where nothing that the law and all that it calls make is longer than what came in: it says more and counts as full. Else prove '..UptoSaid'. A law counts once. -/
mutual
def uptoBulk {H : Type} : DataW H → Nat
  | .lit (.string bytes) => bytes.length + 1
  | .lit _ => 1
  | .nil => 1
  | .ptr d => uptoBulk d + 1
  | .slice elems spare => uptoBulkAll elems + uptoBulkAll spare + 1
  | .agg parts => uptoBulkAll parts + 1
  | .iface _ d => uptoBulk d + 1
  | .map entries => uptoBulkEntries entries + 1
  | .held _ => 1
def uptoBulkAll {H : Type} : List (DataW H) → Nat
  | [] => 0
  | d :: r => uptoBulk d + uptoBulkAll r
def uptoBulkEntries {H : Type} : List (Lit × DataW H) → Nat
  | [] => 0
  | x :: r => uptoBulkEntry x + uptoBulkEntries r
def uptoBulkEntry {H : Type} : Lit × DataW H → Nat
  | (.string bytes, d) => bytes.length + uptoBulk d + 1
  | (_, d) => uptoBulk d + 1
 end
def uptoSmall : (H : Type) → List (DataW H) → Bool := fun _ ds => decide (uptoBulkAll ds ≤ 1048576)
def OpenSpec.upto (s : _root_.Go.ChangeSpec) : _root_.Go.OpenSpec := { _root_.Go.OpenSpec.ofChange s with cond := some uptoSmall }

/-- 'firebelllaw09.BlockFuses', WHERE WHAT IT READS IS OF BULK AT MOST 1048576: true; the input reads as it did. -/
def blockFusesUptoRow : OpenClaim := { program := "ytnhkohgamnchlaa", sum := "79a0ee9f6d9b4740e8d52147e5a704151047507e1ed35ba02fdc60a0f66a6cae", func := "firebell/firebelllaw09.BlockFuses", spec := "blockFuses", apart := false, narrowed := true }
def BlockFusesUptoSaid : Prop := blockFusesUptoRow.holds Try.pinned (OpenSpec.upto blockFusesSpec)

/-- 'firebelllaw09.BlockLasts', WHERE WHAT IT READS IS OF BULK AT MOST 1048576: true; the input reads as it did. -/
def blockLastsUptoRow : OpenClaim := { program := "ytnhkohgamnchlaa", sum := "79a0ee9f6d9b4740e8d52147e5a704151047507e1ed35ba02fdc60a0f66a6cae", func := "firebell/firebelllaw09.BlockLasts", spec := "blockLasts", apart := false, narrowed := true }
def BlockLastsUptoSaid : Prop := blockLastsUptoRow.holds Try.pinned (OpenSpec.upto blockLastsSpec)

/-- 'firebelllaw09.BlockPlays', WHERE WHAT IT READS IS OF BULK AT MOST 1048576: true; the input reads as it did. -/
def blockPlaysUptoRow : OpenClaim := { program := "ytnhkohgamnchlaa", sum := "79a0ee9f6d9b4740e8d52147e5a704151047507e1ed35ba02fdc60a0f66a6cae", func := "firebell/firebelllaw09.BlockPlays", spec := "blockPlays", apart := false, narrowed := true }
def BlockPlaysUptoSaid : Prop := blockPlaysUptoRow.holds Try.pinned (OpenSpec.upto blockPlaysSpec)

/-- 'firebelllaw09.BlockNil', WHERE WHAT IT READS IS OF BULK AT MOST 1048576: true; the input reads as it did. -/
def blockNilUptoRow : OpenClaim := { program := "ytnhkohgamnchlaa", sum := "79a0ee9f6d9b4740e8d52147e5a704151047507e1ed35ba02fdc60a0f66a6cae", func := "firebell/firebelllaw09.BlockNil", spec := "blockNil", apart := false, narrowed := true }
def BlockNilUptoSaid : Prop := blockNilUptoRow.holds Try.pinned (OpenSpec.upto blockNilSpec)

end Rows
end Go.Proofs.Ytnhkohgamnchlaa
