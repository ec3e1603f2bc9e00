/-
  No cell of these rows narrows 'for every input' (looked for: loops, veiled, ifaces, maps, wideKeys, modest, calm, conditions, laid).
  DERIVED. THE GIVEN ROWS OF THIS SEAT. 3 by the template 'for every input the law returns true; each argument reads behind the call as it read before'; 0 by the template 'total and deterministic' (their statements: YtkfodhcljknibaaTotals.lean).
  GIVEN WITH THE SEED: the statements are not yours to turn. If you find one false, say at which input.
  Laid BY PROGRAM, IN A SANDBOX (cutbox-rows.mjs): the forced cells as the released guide's own fill.sh prints them over the translation d56b82b5228b1109… (all of the seat's roots in one cut). By AI agents, Wed Nov 11 2026. No macro, syntax, notation, axiom, sorry.
-/
import Derived.Test.YtkfodhcljknibaaChecked
import GoSem.Claim
import GoSem.ClaimJoined
import GoSem.ClaimMapViews
import Derived.JoinedTies
import Derived.KernelRfl
namespace Go.Proofs.Ytkfodhcljknibaa
/- THE CELL 'sum', in the pinned program and in every row, IS THE sha256 OF THE DUMP (.gsa) THAT YtkfodhcljknibaaProg.lean LOADS. Nothing in Lean hashes anything: it is a label: what it is worth is what the hold of that sum in a sandbox is worth. -/
noncomputable def Try.pinned : Pinned := { name := "ytkfodhcljknibaa", sum := "d56b82b5228b1109cd331badb56491ec4bb2efd966860e9dbce285f46e83c8cf", checked := Try.checked }
namespace Rows
def none {H : Type} : Left H := { results := [], args := [] }

/-- 'firebelllaw08.CrcSums': WHATEVER THE INPUT: true; the input reads as it did. -/
def crcSumsSpec : ChangeSpec := { name := "crcSums", fn := fun _ => fun
  | [d1, d2] => { results := [.lit (.bool true)], args := [d1, d2] }
  | _ => none }
def crcSumsRow : OpenClaim := { program := "ytkfodhcljknibaa", sum := "d56b82b5228b1109cd331badb56491ec4bb2efd966860e9dbce285f46e83c8cf", func := "firebell/firebelllaw08.CrcSums", spec := "crcSums", apart := false }
def CrcSumsSaid : Prop := crcSumsRow.holds Try.pinned (OpenSpec.ofChange crcSumsSpec)

/-- ITS FALSE NEIGHBOUR: 'it returns false'. Refute it at one input. -/
def crcSumsWrong : ChangeSpec := { name := "crcSums", fn := fun _ => fun
  | [d1, d2] => { results := [.lit (.bool false)], args := [d1, d2] }
  | _ => none }
def CrcSumsWrongFalsely : Prop := crcSumsRow.holds Try.pinned (OpenSpec.ofChange crcSumsWrong)

/-- 'firebelllaw08.CrcTorn': WHATEVER THE INPUT: true; the input reads as it did. -/
def crcTornSpec : ChangeSpec := { name := "crcTorn", fn := fun _ => fun
  | [d1, d2] => { results := [.lit (.bool true)], args := [d1, d2] }
  | _ => none }
def crcTornRow : OpenClaim := { program := "ytkfodhcljknibaa", sum := "d56b82b5228b1109cd331badb56491ec4bb2efd966860e9dbce285f46e83c8cf", func := "firebell/firebelllaw08.CrcTorn", spec := "crcTorn", apart := false }
def CrcTornSaid : Prop := crcTornRow.holds Try.pinned (OpenSpec.ofChange crcTornSpec)

/-- ITS FALSE NEIGHBOUR: 'it returns false'. Refute it at one input. -/
def crcTornWrong : ChangeSpec := { name := "crcTorn", fn := fun _ => fun
  | [d1, d2] => { results := [.lit (.bool false)], args := [d1, d2] }
  | _ => none }
def CrcTornWrongFalsely : Prop := crcTornRow.holds Try.pinned (OpenSpec.ofChange crcTornWrong)

/-- 'firebelllaw08.CrcOpens': WHATEVER THE INPUT: true; the input reads as it did. -/
def crcOpensSpec : ChangeSpec := { name := "crcOpens", fn := fun _ => fun
  | [d1, d2, d3] => { results := [.lit (.bool true)], args := [d1, d2, d3] }
  | _ => none }
def crcOpensRow : OpenClaim := { program := "ytkfodhcljknibaa", sum := "d56b82b5228b1109cd331badb56491ec4bb2efd966860e9dbce285f46e83c8cf", func := "firebell/firebelllaw08.CrcOpens", spec := "crcOpens", apart := false }
def CrcOpensSaid : Prop := crcOpensRow.holds Try.pinned (OpenSpec.ofChange crcOpensSpec)

/-- ITS FALSE NEIGHBOUR: 'it returns false'. Refute it at one input. -/
def crcOpensWrong : ChangeSpec := { name := "crcOpens", fn := fun _ => fun
  | [d1, d2, d3] => { results := [.lit (.bool false)], args := [d1, d2, d3] }
  | _ => none }
def CrcOpensWrongFalsely : Prop := crcOpensRow.holds Try.pinned (OpenSpec.ofChange crcOpensWrong)

/- THE SECOND FORM. 'bulk': how many values and letters a reading holds, each counted each time it is reached (what is shared counts as often as it is met; a slice's spare places count too). A statement '..UptoSaid' is the law's where the arguments, and the package variables that the reading takes, are together of bulk at most 1048576: NARROWER than '..Said'. Prove '..Said' where nothing that the law and all that it calls make is longer than what came in: it says more and counts as full. Else prove '..UptoSaid'. A law counts once. -/
mutual
def uptoBulk {H : Type} : DataW H → Nat
  | .lit (.string bytes) => bytes.length + 1
  | .lit _ => 1
  | .nil => 1
  | .ptr d => uptoBulk d + 1
  | .slice elems spare => uptoBulkAll elems + uptoBulkAll spare + 1
  | .agg parts => uptoBulkAll parts + 1
  | .iface _ d => uptoBulk d + 1
  | .map entries => uptoBulkEntries entries + 1
  | .held _ => 1
def uptoBulkAll {H : Type} : List (DataW H) → Nat
  | [] => 0
  | d :: r => uptoBulk d + uptoBulkAll r
def uptoBulkEntries {H : Type} : List (Lit × DataW H) → Nat
  | [] => 0
  | x :: r => uptoBulkEntry x + uptoBulkEntries r
def uptoBulkEntry {H : Type} : Lit × DataW H → Nat
  | (.string bytes, d) => bytes.length + uptoBulk d + 1
  | (_, d) => uptoBulk d + 1
 end
def uptoSmall : (H : Type) → List (DataW H) → Bool := fun _ ds => decide (uptoBulkAll ds ≤ 1048576)
def OpenSpec.upto (s : _root_.Go.ChangeSpec) : _root_.Go.OpenSpec := { _root_.Go.OpenSpec.ofChange s with cond := some uptoSmall }

/-- 'firebelllaw08.CrcSums', WHERE WHAT IT READS IS OF BULK AT MOST 1048576: true; the input reads as it did. -/
def crcSumsUptoRow : OpenClaim := { program := "ytkfodhcljknibaa", sum := "d56b82b5228b1109cd331badb56491ec4bb2efd966860e9dbce285f46e83c8cf", func := "firebell/firebelllaw08.CrcSums", spec := "crcSums", apart := false, narrowed := true }
def CrcSumsUptoSaid : Prop := crcSumsUptoRow.holds Try.pinned (OpenSpec.upto crcSumsSpec)

/-- 'firebelllaw08.CrcTorn', WHERE WHAT IT READS IS OF BULK AT MOST 1048576: true; the input reads as it did. -/
def crcTornUptoRow : OpenClaim := { program := "ytkfodhcljknibaa", sum := "d56b82b5228b1109cd331badb56491ec4bb2efd966860e9dbce285f46e83c8cf", func := "firebell/firebelllaw08.CrcTorn", spec := "crcTorn", apart := false, narrowed := true }
def CrcTornUptoSaid : Prop := crcTornUptoRow.holds Try.pinned (OpenSpec.upto crcTornSpec)

/-- 'firebelllaw08.CrcOpens', WHERE WHAT IT READS IS OF BULK AT MOST 1048576: true; the input reads as it did. -/
def crcOpensUptoRow : OpenClaim := { program := "ytkfodhcljknibaa", sum := "d56b82b5228b1109cd331badb56491ec4bb2efd966860e9dbce285f46e83c8cf", func := "firebell/firebelllaw08.CrcOpens", spec := "crcOpens", apart := false, narrowed := true }
def CrcOpensUptoSaid : Prop := crcOpensUptoRow.holds Try.pinned (OpenSpec.upto crcOpensSpec)

end Rows
end Go.Proofs.Ytkfodhcljknibaa
