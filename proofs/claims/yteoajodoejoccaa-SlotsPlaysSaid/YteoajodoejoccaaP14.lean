/-
  The walks and the laws that the statement leans on, part 14.
-/
import Derived.Test.YteoajodoejoccaaP10
import Derived.Test.YteoajodoejoccaaP13
namespace Go.Proofs.Yteoajodoejoccaa
open Go
set_option linter.unusedVariables false
set_option linter.unusedSimpArgs false
def layW : List (List Int) → List (Nat × List Int) → List (List Int)
  | L, [] => L
  | L, (i, x) :: r => layW (L.set i x) r
theorem layW_len : ∀ (W : List (Nat × List Int)) (L : List (List Int)), (layW L W).length = L.length
  | [], L => rfl
  | (i, x) :: r, L => by rw [layW, layW_len r, List.length_set]
def crL (L : List (List Int)) (W : List (Nat × List Int)) (k t : Nat) : List (List Int) :=
  match W[k]? with
  | none => layW L (W.take k)
  | some w => (layW L (W.take k)).set w.1 (w.2.take t ++ ((layW L (W.take k)).getD w.1 []).drop t)
def hN (n : Int) (m : Nat) : Nat := (held n m).toNat
theorem hN_le (n : Int) (m : Nat) : hN n m ≤ m := by unfold hN held; split <;> split at * <;> omega
end Go.Proofs.Yteoajodoejoccaa
