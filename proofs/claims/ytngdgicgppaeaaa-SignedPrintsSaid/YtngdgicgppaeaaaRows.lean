/-
  No cell of these rows narrows 'for every input' (looked for: loops, veiled, ifaces, maps, wideKeys, modest, calm, conditions, laid).
  DERIVED. THE GIVEN ROWS OF THIS SEAT. 4 by the template 'for every input the law returns true; each argument reads behind the call as it read before'; 0 by the template 'total and deterministic' (their statements: YtngdgicgppaeaaaTotals.lean).
  GIVEN WITH THE SEED: the statements are not yours to turn. If you find one false, say at which input.
  Laid BY PROGRAM, IN A SANDBOX (cutbox-rows.mjs): the forced cells as the released guide's own fill.sh prints them over the translation b84b9e2d32a667c1… (all of the seat's roots in one cut). By AI agents, Wed Nov 11 2026. No macro, syntax, notation, axiom, sorry.
-/
import Derived.Test.YtngdgicgppaeaaaChecked
import GoSem.Claim
import GoSem.ClaimJoined
import GoSem.ClaimMapViews
import Derived.JoinedTies
import Derived.KernelRfl
namespace Go.Proofs.Ytngdgicgppaeaaa
/- THE CELL 'sum', in the pinned program and in every row, IS THE sha256 OF THE DUMP (.gsa) THAT YtngdgicgppaeaaaProg.lean LOADS. Nothing in Lean hashes anything: it is a label: what it is worth is what the hold of that sum in a sandbox is worth. -/
noncomputable def Try.pinned : Pinned := { name := "ytngdgicgppaeaaa", sum := "b84b9e2d32a667c18382d944bdee5a12ac8926e174bf32b4832983eb0eafcdf8", checked := Try.checked }
namespace Rows
def none {H : Type} : Left H := { results := [], args := [] }

/-- 'firebelllaw02.SignedSmall': WHATEVER THE INPUT: true; the input reads as it did. -/
def signedSmallSpec : ChangeSpec := { name := "signedSmall", fn := fun _ => fun
  | [d1, d2] => { results := [.lit (.bool true)], args := [d1, d2] }
  | _ => none }
def signedSmallRow : OpenClaim := { program := "ytngdgicgppaeaaa", sum := "b84b9e2d32a667c18382d944bdee5a12ac8926e174bf32b4832983eb0eafcdf8", func := "firebell/firebelllaw02.SignedSmall", spec := "signedSmall", inPlace := ["math/bits.Sub64"], named := ["math/bits.divideError", "math/bits.overflowError"], apart := false }
def SignedSmallSaid : Prop := signedSmallRow.holds Try.pinned (OpenSpec.ofChange signedSmallSpec)

/-- ITS FALSE NEIGHBOUR: 'it returns false'. Refute it at one input. -/
def signedSmallWrong : ChangeSpec := { name := "signedSmall", fn := fun _ => fun
  | [d1, d2] => { results := [.lit (.bool false)], args := [d1, d2] }
  | _ => none }
def SignedSmallWrongFalsely : Prop := signedSmallRow.holds Try.pinned (OpenSpec.ofChange signedSmallWrong)

/-- 'firebelllaw02.SignedBetween': WHATEVER THE INPUT: true; the input reads as it did. -/
def signedBetweenSpec : ChangeSpec := { name := "signedBetween", fn := fun _ => fun
  | [d1, d2, d3] => { results := [.lit (.bool true)], args := [d1, d2, d3] }
  | _ => none }
def signedBetweenRow : OpenClaim := { program := "ytngdgicgppaeaaa", sum := "b84b9e2d32a667c18382d944bdee5a12ac8926e174bf32b4832983eb0eafcdf8", func := "firebell/firebelllaw02.SignedBetween", spec := "signedBetween", inPlace := ["math/bits.Sub64", "math/bits.Add64"], named := ["math/bits.divideError", "math/bits.overflowError"], apart := false }
def SignedBetweenSaid : Prop := signedBetweenRow.holds Try.pinned (OpenSpec.ofChange signedBetweenSpec)

/-- ITS FALSE NEIGHBOUR: 'it returns false'. Refute it at one input. -/
def signedBetweenWrong : ChangeSpec := { name := "signedBetween", fn := fun _ => fun
  | [d1, d2, d3] => { results := [.lit (.bool false)], args := [d1, d2, d3] }
  | _ => none }
def SignedBetweenWrongFalsely : Prop := signedBetweenRow.holds Try.pinned (OpenSpec.ofChange signedBetweenWrong)

/-- 'firebelllaw02.SignedAdds': WHATEVER THE INPUT: true; the input reads as it did. -/
def signedAddsSpec : ChangeSpec := { name := "signedAdds", fn := fun _ => fun
  | [d1, d2] => { results := [.lit (.bool true)], args := [d1, d2] }
  | _ => none }
def signedAddsRow : OpenClaim := { program := "ytngdgicgppaeaaa", sum := "b84b9e2d32a667c18382d944bdee5a12ac8926e174bf32b4832983eb0eafcdf8", func := "firebell/firebelllaw02.SignedAdds", spec := "signedAdds", inPlace := ["math/bits.Sub64", "math/bits.Add64"], named := ["math/bits.divideError", "math/bits.overflowError"], apart := false }
def SignedAddsSaid : Prop := signedAddsRow.holds Try.pinned (OpenSpec.ofChange signedAddsSpec)

/-- ITS FALSE NEIGHBOUR: 'it returns false'. Refute it at one input. -/
def signedAddsWrong : ChangeSpec := { name := "signedAdds", fn := fun _ => fun
  | [d1, d2] => { results := [.lit (.bool false)], args := [d1, d2] }
  | _ => none }
def SignedAddsWrongFalsely : Prop := signedAddsRow.holds Try.pinned (OpenSpec.ofChange signedAddsWrong)

/-- 'firebelllaw02.SignedPrints': WHATEVER THE INPUT: true; the input reads as it did. -/
def signedPrintsSpec : ChangeSpec := { name := "signedPrints", fn := fun _ => fun
  | [d1, d2] => { results := [.lit (.bool true)], args := [d1, d2] }
  | _ => none }
def signedPrintsRow : OpenClaim := { program := "ytngdgicgppaeaaa", sum := "b84b9e2d32a667c18382d944bdee5a12ac8926e174bf32b4832983eb0eafcdf8", func := "firebell/firebelllaw02.SignedPrints", spec := "signedPrints", inPlace := ["math/bits.Sub64", "math/bits.Add64"], named := ["math/bits.divideError", "math/bits.overflowError"], apart := false }
def SignedPrintsSaid : Prop := signedPrintsRow.holds Try.pinned (OpenSpec.ofChange signedPrintsSpec)

/-- ITS FALSE NEIGHBOUR: 'it returns false'. Refute it at one input. -/
def signedPrintsWrong : ChangeSpec := { name := "signedPrints", fn := fun _ => fun
  | [d1, d2] => { results := [.lit (.bool false)], args := [d1, d2] }
  | _ => none }
def SignedPrintsWrongFalsely : Prop := signedPrintsRow.holds Try.pinned (OpenSpec.ofChange signedPrintsWrong)

/- THE SECOND FORM. 'bulk': how many values and letters a reading holds, each counted each time it is reached (what is shared counts as often as it is met; a slice's spare places count too). A statement '..UptoSaid' is the law's where the arguments, and the package variables that the reading takes, are together of bulk at most 1048576: NARROWER than '..Said'. Prove '..Said' where nothing that the law and all that it calls make is longer than what came in: it says more and counts as full. Else prove '..UptoSaid'. A law counts once. -/
mutual
def uptoBulk {H : Type} : DataW H → Nat
  | .lit (.string bytes) => bytes.length + 1
  | .lit _ => 1
  | .nil => 1
  | .ptr d => uptoBulk d + 1
  | .slice elems spare => uptoBulkAll elems + uptoBulkAll spare + 1
  | .agg parts => uptoBulkAll parts + 1
  | .iface _ d => uptoBulk d + 1
  | .map entries => uptoBulkEntries entries + 1
  | .held _ => 1
def uptoBulkAll {H : Type} : List (DataW H) → Nat
  | [] => 0
  | d :: r => uptoBulk d + uptoBulkAll r
def uptoBulkEntries {H : Type} : List (Lit × DataW H) → Nat
  | [] => 0
  | x :: r => uptoBulkEntry x + uptoBulkEntries r
def uptoBulkEntry {H : Type} : Lit × DataW H → Nat
  | (.string bytes, d) => bytes.length + uptoBulk d + 1
  | (_, d) => uptoBulk d + 1
 end
def uptoSmall : (H : Type) → List (DataW H) → Bool := fun _ ds => decide (uptoBulkAll ds ≤ 1048576)
def OpenSpec.upto (s : _root_.Go.ChangeSpec) : _root_.Go.OpenSpec := { _root_.Go.OpenSpec.ofChange s with cond := some uptoSmall }

/-- 'firebelllaw02.SignedSmall', WHERE WHAT IT READS IS OF BULK AT MOST 1048576: true; the input reads as it did. -/
def signedSmallUptoRow : OpenClaim := { program := "ytngdgicgppaeaaa", sum := "b84b9e2d32a667c18382d944bdee5a12ac8926e174bf32b4832983eb0eafcdf8", func := "firebell/firebelllaw02.SignedSmall", spec := "signedSmall", inPlace := ["math/bits.Sub64"], named := ["math/bits.divideError", "math/bits.overflowError"], apart := false, narrowed := true }
def SignedSmallUptoSaid : Prop := signedSmallUptoRow.holds Try.pinned (OpenSpec.upto signedSmallSpec)

/-- 'firebelllaw02.SignedBetween', WHERE WHAT IT READS IS OF BULK AT MOST 1048576: true; the input reads as it did. -/
def signedBetweenUptoRow : OpenClaim := { program := "ytngdgicgppaeaaa", sum := "b84b9e2d32a667c18382d944bdee5a12ac8926e174bf32b4832983eb0eafcdf8", func := "firebell/firebelllaw02.SignedBetween", spec := "signedBetween", inPlace := ["math/bits.Sub64", "math/bits.Add64"], named := ["math/bits.divideError", "math/bits.overflowError"], apart := false, narrowed := true }
def SignedBetweenUptoSaid : Prop := signedBetweenUptoRow.holds Try.pinned (OpenSpec.upto signedBetweenSpec)

/-- 'firebelllaw02.SignedAdds', WHERE WHAT IT READS IS OF BULK AT MOST 1048576: true; the input reads as it did. -/
def signedAddsUptoRow : OpenClaim := { program := "ytngdgicgppaeaaa", sum := "b84b9e2d32a667c18382d944bdee5a12ac8926e174bf32b4832983eb0eafcdf8", func := "firebell/firebelllaw02.SignedAdds", spec := "signedAdds", inPlace := ["math/bits.Sub64", "math/bits.Add64"], named := ["math/bits.divideError", "math/bits.overflowError"], apart := false, narrowed := true }
def SignedAddsUptoSaid : Prop := signedAddsUptoRow.holds Try.pinned (OpenSpec.upto signedAddsSpec)

/-- 'firebelllaw02.SignedPrints', WHERE WHAT IT READS IS OF BULK AT MOST 1048576: true; the input reads as it did. -/
def signedPrintsUptoRow : OpenClaim := { program := "ytngdgicgppaeaaa", sum := "b84b9e2d32a667c18382d944bdee5a12ac8926e174bf32b4832983eb0eafcdf8", func := "firebell/firebelllaw02.SignedPrints", spec := "signedPrints", inPlace := ["math/bits.Sub64", "math/bits.Add64"], named := ["math/bits.divideError", "math/bits.overflowError"], apart := false, narrowed := true }
def SignedPrintsUptoSaid : Prop := signedPrintsUptoRow.holds Try.pinned (OpenSpec.upto signedPrintsSpec)

end Rows
end Go.Proofs.Ytngdgicgppaeaaa
