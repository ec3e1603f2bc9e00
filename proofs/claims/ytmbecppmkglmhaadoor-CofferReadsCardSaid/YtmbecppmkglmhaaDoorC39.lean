/-
  The walks and the laws that the statement leans on, part 39.
-/
import Derived.Test.YtmbecppmkglmhaaDoorC11
import Derived.Test.YtmbecppmkglmhaaDoorC38
namespace Go.Proofs.YtmbecppmkglmhaaDoor.Wi
open Go
set_option linter.unusedVariables false
set_option linter.unusedSimpArgs false
def Post3 (zl : Nat) (o : Option (AV × List Int)) (r : AV) (F' : Hp) : Prop :=
  match o with
  | none => Bad3 r F'
  | some (g, rest) => r = .tup [g, iv .i64 ((zl - rest.length : Nat) : Int), bv true] ∧ F' = []
theorem good3_mk {zl : Nat} {g g' : AV} {nx : Int} {f : Bool} {rest : List Int} (hg : g' = g) (h1 : nx = ((zl - rest.length : Nat) : Int)) (h2 : f = true) : Post3 zl (some (g, rest)) (.tup [g', iv .i64 nx, bv f]) [] := by
  subst hg h1 h2; exact ⟨rfl, rfl⟩
def tailF (kind most : Int) (ng : Bool) (N : Nat) (r : List Int) : Option (AV × List Int) :=
  if kind = 1 then (if ng then (if N = 0 ∨ 9223372036854775808 < N then none else some (.agg [nu 0, iv .i64 (-(N : Int)), eS, bv false], r)) else if 9223372036854775807 < N then none else some (.agg [nu 0, iv .i64 (N : Int), eS, bv false], r))
  else if kind = 0 then some (.agg [nu N, iv .i64 0, eS, bv false], r)
  else if most < 0 ∨ most < (N : Int) then none
  else if kind = 4 then some (.agg [nu N, iv .i64 0, eS, bv false], r)
  else if r.length < N then none else some (.agg [nu 0, iv .i64 0, .lit (.string (bstr (r.take N))), bv false], r.drop N)
end Go.Proofs.YtmbecppmkglmhaaDoor.Wi
