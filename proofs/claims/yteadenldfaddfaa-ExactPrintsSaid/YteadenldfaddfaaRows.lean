/-
  No cell of these rows narrows 'for every input' (looked for: loops, veiled, ifaces, maps, wideKeys, modest, calm, conditions, laid).
  DERIVED. THE GIVEN ROWS OF THIS SEAT. 5 by the template 'for every input the law returns true; each argument reads behind the call as it read before'; 0 by the template 'total and deterministic' (their statements: YteadenldfaddfaaTotals.lean).
  GIVEN WITH THE SEED: the statements are not yours to turn. If you find one false, say at which input.
  Laid BY PROGRAM, IN A SANDBOX (cutbox-rows.mjs): the forced cells as the released guide's own fill.sh prints them over the translation e1e8db02d3249733… (all of the seat's roots in one cut). By AI agents, Wed Nov 11 2026. No macro, syntax, notation, axiom, sorry.
-/
import Derived.Test.YteadenldfaddfaaChecked
import GoSem.Claim
import GoSem.ClaimJoined
import GoSem.ClaimMapViews
import Derived.JoinedTies
import Derived.KernelRfl
namespace Go.Proofs.Yteadenldfaddfaa
/- THE CELL 'sum', in the pinned program and in every row, IS THE sha256 OF THE DUMP (.gsa) THAT YteadenldfaddfaaProg.lean LOADS. Nothing in Lean hashes anything: it is a label: what it is worth is what the hold of that sum in a sandbox is worth. -/
noncomputable def Try.pinned : Pinned := { name := "yteadenldfaddfaa", sum := "e1e8db02d3249733005533b6230609873af8bca16bbba9590d98d5bb31d3fc34", checked := Try.checked }
namespace Rows
def none {H : Type} : Left H := { results := [], args := [] }

/-- 'firebelllaw01.ExactRatios': WHATEVER THE INPUT: true; the input reads as it did. -/
def exactRatiosSpec : ChangeSpec := { name := "exactRatios", fn := fun _ => fun
  | [d1, d2, d3, d4] => { results := [.lit (.bool true)], args := [d1, d2, d3, d4] }
  | _ => none }
def exactRatiosRow : OpenClaim := { program := "yteadenldfaddfaa", sum := "e1e8db02d3249733005533b6230609873af8bca16bbba9590d98d5bb31d3fc34", func := "firebell/firebelllaw01.ExactRatios", spec := "exactRatios", named := ["math/bits.divideError", "math/bits.overflowError"], apart := false }
def ExactRatiosSaid : Prop := exactRatiosRow.holds Try.pinned (OpenSpec.ofChange exactRatiosSpec)

/-- ITS FALSE NEIGHBOUR: 'it returns false'. Refute it at one input. -/
def exactRatiosWrong : ChangeSpec := { name := "exactRatios", fn := fun _ => fun
  | [d1, d2, d3, d4] => { results := [.lit (.bool false)], args := [d1, d2, d3, d4] }
  | _ => none }
def ExactRatiosWrongFalsely : Prop := exactRatiosRow.holds Try.pinned (OpenSpec.ofChange exactRatiosWrong)

/-- 'firebelllaw01.ExactSums': WHATEVER THE INPUT: true; the input reads as it did. -/
def exactSumsSpec : ChangeSpec := { name := "exactSums", fn := fun _ => fun
  | [d1, d2] => { results := [.lit (.bool true)], args := [d1, d2] }
  | _ => none }
def exactSumsRow : OpenClaim := { program := "yteadenldfaddfaa", sum := "e1e8db02d3249733005533b6230609873af8bca16bbba9590d98d5bb31d3fc34", func := "firebell/firebelllaw01.ExactSums", spec := "exactSums", inPlace := ["math/bits.Add64"], named := ["math/bits.divideError", "math/bits.overflowError"], apart := false }
def ExactSumsSaid : Prop := exactSumsRow.holds Try.pinned (OpenSpec.ofChange exactSumsSpec)

/-- ITS FALSE NEIGHBOUR: 'it returns false'. Refute it at one input. -/
def exactSumsWrong : ChangeSpec := { name := "exactSums", fn := fun _ => fun
  | [d1, d2] => { results := [.lit (.bool false)], args := [d1, d2] }
  | _ => none }
def ExactSumsWrongFalsely : Prop := exactSumsRow.holds Try.pinned (OpenSpec.ofChange exactSumsWrong)

/-- 'firebelllaw01.ExactParts': WHATEVER THE INPUT: true; the input reads as it did. -/
def exactPartsSpec : ChangeSpec := { name := "exactParts", fn := fun _ => fun
  | [d1, d2] => { results := [.lit (.bool true)], args := [d1, d2] }
  | _ => none }
def exactPartsRow : OpenClaim := { program := "yteadenldfaddfaa", sum := "e1e8db02d3249733005533b6230609873af8bca16bbba9590d98d5bb31d3fc34", func := "firebell/firebelllaw01.ExactParts", spec := "exactParts", inPlace := ["math/bits.Add64"], named := ["math/bits.divideError", "math/bits.overflowError"], apart := false }
def ExactPartsSaid : Prop := exactPartsRow.holds Try.pinned (OpenSpec.ofChange exactPartsSpec)

/-- ITS FALSE NEIGHBOUR: 'it returns false'. Refute it at one input. -/
def exactPartsWrong : ChangeSpec := { name := "exactParts", fn := fun _ => fun
  | [d1, d2] => { results := [.lit (.bool false)], args := [d1, d2] }
  | _ => none }
def ExactPartsWrongFalsely : Prop := exactPartsRow.holds Try.pinned (OpenSpec.ofChange exactPartsWrong)

/-- 'firebelllaw01.ExactAdds': WHATEVER THE INPUT: true; the input reads as it did. -/
def exactAddsSpec : ChangeSpec := { name := "exactAdds", fn := fun _ => fun
  | [d1, d2, d3] => { results := [.lit (.bool true)], args := [d1, d2, d3] }
  | _ => none }
def exactAddsRow : OpenClaim := { program := "yteadenldfaddfaa", sum := "e1e8db02d3249733005533b6230609873af8bca16bbba9590d98d5bb31d3fc34", func := "firebell/firebelllaw01.ExactAdds", spec := "exactAdds", inPlace := ["math/bits.Add64", "math/bits.Sub64"], named := ["math/bits.divideError", "math/bits.overflowError"], apart := false }
def ExactAddsSaid : Prop := exactAddsRow.holds Try.pinned (OpenSpec.ofChange exactAddsSpec)

/-- ITS FALSE NEIGHBOUR: 'it returns false'. Refute it at one input. -/
def exactAddsWrong : ChangeSpec := { name := "exactAdds", fn := fun _ => fun
  | [d1, d2, d3] => { results := [.lit (.bool false)], args := [d1, d2, d3] }
  | _ => none }
def ExactAddsWrongFalsely : Prop := exactAddsRow.holds Try.pinned (OpenSpec.ofChange exactAddsWrong)

/-- 'firebelllaw01.ExactPrints': WHATEVER THE INPUT: true; the input reads as it did. -/
def exactPrintsSpec : ChangeSpec := { name := "exactPrints", fn := fun _ => fun
  | [d1, d2] => { results := [.lit (.bool true)], args := [d1, d2] }
  | _ => none }
def exactPrintsRow : OpenClaim := { program := "yteadenldfaddfaa", sum := "e1e8db02d3249733005533b6230609873af8bca16bbba9590d98d5bb31d3fc34", func := "firebell/firebelllaw01.ExactPrints", spec := "exactPrints", inPlace := ["math/bits.Add64"], named := ["math/bits.divideError", "math/bits.overflowError"], apart := false }
def ExactPrintsSaid : Prop := exactPrintsRow.holds Try.pinned (OpenSpec.ofChange exactPrintsSpec)

/-- ITS FALSE NEIGHBOUR: 'it returns false'. Refute it at one input. -/
def exactPrintsWrong : ChangeSpec := { name := "exactPrints", fn := fun _ => fun
  | [d1, d2] => { results := [.lit (.bool false)], args := [d1, d2] }
  | _ => none }
def ExactPrintsWrongFalsely : Prop := exactPrintsRow.holds Try.pinned (OpenSpec.ofChange exactPrintsWrong)

/- THE SECOND FORM. 'bulk': how many values and letters a reading holds, each counted each time it is reached (what is shared counts as often as it is met; a slice's spare places count too). A statement '..UptoSaid' is the law's where the arguments, and the package variables that the reading takes, are together of bulk at most 1048576: NARROWER than '..Said'. Prove '..Said' where nothing that the law and all that it calls make is longer than what came in: it says more and counts as full. Else prove '..UptoSaid'. A law counts once. -/
mutual
def uptoBulk {H : Type} : DataW H → Nat
  | .lit (.string bytes) => bytes.length + 1
  | .lit _ => 1
  | .nil => 1
  | .ptr d => uptoBulk d + 1
  | .slice elems spare => uptoBulkAll elems + uptoBulkAll spare + 1
  | .agg parts => uptoBulkAll parts + 1
  | .iface _ d => uptoBulk d + 1
  | .map entries => uptoBulkEntries entries + 1
  | .held _ => 1
def uptoBulkAll {H : Type} : List (DataW H) → Nat
  | [] => 0
  | d :: r => uptoBulk d + uptoBulkAll r
def uptoBulkEntries {H : Type} : List (Lit × DataW H) → Nat
  | [] => 0
  | x :: r => uptoBulkEntry x + uptoBulkEntries r
def uptoBulkEntry {H : Type} : Lit × DataW H → Nat
  | (.string bytes, d) => bytes.length + uptoBulk d + 1
  | (_, d) => uptoBulk d + 1
 end
def uptoSmall : (H : Type) → List (DataW H) → Bool := fun _ ds => decide (uptoBulkAll ds ≤ 1048576)
def OpenSpec.upto (s : _root_.Go.ChangeSpec) : _root_.Go.OpenSpec := { _root_.Go.OpenSpec.ofChange s with cond := some uptoSmall }

/-- 'firebelllaw01.ExactRatios', WHERE WHAT IT READS IS OF BULK AT MOST 1048576: true; the input reads as it did. -/
def exactRatiosUptoRow : OpenClaim := { program := "yteadenldfaddfaa", sum := "e1e8db02d3249733005533b6230609873af8bca16bbba9590d98d5bb31d3fc34", func := "firebell/firebelllaw01.ExactRatios", spec := "exactRatios", named := ["math/bits.divideError", "math/bits.overflowError"], apart := false, narrowed := true }
def ExactRatiosUptoSaid : Prop := exactRatiosUptoRow.holds Try.pinned (OpenSpec.upto exactRatiosSpec)

/-- 'firebelllaw01.ExactSums', WHERE WHAT IT READS IS OF BULK AT MOST 1048576: true; the input reads as it did. -/
def exactSumsUptoRow : OpenClaim := { program := "yteadenldfaddfaa", sum := "e1e8db02d3249733005533b6230609873af8bca16bbba9590d98d5bb31d3fc34", func := "firebell/firebelllaw01.ExactSums", spec := "exactSums", inPlace := ["math/bits.Add64"], named := ["math/bits.divideError", "math/bits.overflowError"], apart := false, narrowed := true }
def ExactSumsUptoSaid : Prop := exactSumsUptoRow.holds Try.pinned (OpenSpec.upto exactSumsSpec)

/-- 'firebelllaw01.ExactParts', WHERE WHAT IT READS IS OF BULK AT MOST 1048576: true; the input reads as it did. -/
def exactPartsUptoRow : OpenClaim := { program := "yteadenldfaddfaa", sum := "e1e8db02d3249733005533b6230609873af8bca16bbba9590d98d5bb31d3fc34", func := "firebell/firebelllaw01.ExactParts", spec := "exactParts", inPlace := ["math/bits.Add64"], named := ["math/bits.divideError", "math/bits.overflowError"], apart := false, narrowed := true }
def ExactPartsUptoSaid : Prop := exactPartsUptoRow.holds Try.pinned (OpenSpec.upto exactPartsSpec)

/-- 'firebelllaw01.ExactAdds', WHERE WHAT IT READS IS OF BULK AT MOST 1048576: true; the input reads as it did. -/
def exactAddsUptoRow : OpenClaim := { program := "yteadenldfaddfaa", sum := "e1e8db02d3249733005533b6230609873af8bca16bbba9590d98d5bb31d3fc34", func := "firebell/firebelllaw01.ExactAdds", spec := "exactAdds", inPlace := ["math/bits.Add64", "math/bits.Sub64"], named := ["math/bits.divideError", "math/bits.overflowError"], apart := false, narrowed := true }
def ExactAddsUptoSaid : Prop := exactAddsUptoRow.holds Try.pinned (OpenSpec.upto exactAddsSpec)

/-- 'firebelllaw01.ExactPrints', WHERE WHAT IT READS IS OF BULK AT MOST 1048576: true; the input reads as it did. -/
def exactPrintsUptoRow : OpenClaim := { program := "yteadenldfaddfaa", sum := "e1e8db02d3249733005533b6230609873af8bca16bbba9590d98d5bb31d3fc34", func := "firebell/firebelllaw01.ExactPrints", spec := "exactPrints", inPlace := ["math/bits.Add64"], named := ["math/bits.divideError", "math/bits.overflowError"], apart := false, narrowed := true }
def ExactPrintsUptoSaid : Prop := exactPrintsUptoRow.holds Try.pinned (OpenSpec.upto exactPrintsSpec)

end Rows
end Go.Proofs.Yteadenldfaddfaa
