/-
  The walks and the laws that the statement leans on, part 35.
-/
import Derived.Test.YtfknbndmabogjaaDoorD34
namespace Go.Proofs.YtfknbndmabogjaaDoor
open Go
set_option linter.unusedVariables false
set_option linter.unusedSimpArgs false
theorem waitN_le (f m i : Nat) : waitN f m i ≤ m := by unfold waitN; split <;> omega
end Go.Proofs.YtfknbndmabogjaaDoor
