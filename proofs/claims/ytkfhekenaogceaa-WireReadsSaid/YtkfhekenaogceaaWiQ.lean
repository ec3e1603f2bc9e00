/-
  What the document writes; whether two are the same.
-/
import Derived.Test.YtkfhekenaogceaaWiP
namespace Go.Proofs.Ytkfhekenaogceaa
open Go
set_option linter.unusedVariables false
set_option linter.unusedSimpArgs false

theorem size_le {n j : Nat} : (lenN n + 7) / 8 ≤ j ↔ n < 256 ^ j := by
  rw [show (256 : Nat) = 2 ^ 8 from rfl, ← Nat.pow_mul, ← lenN_le]; omega
end Go.Proofs.Ytkfhekenaogceaa
