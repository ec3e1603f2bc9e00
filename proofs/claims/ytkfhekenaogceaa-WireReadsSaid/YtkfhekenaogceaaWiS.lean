/-
  The wire, read: numbers, texts, flags.
-/
import Derived.Test.YtkfhekenaogceaaWiR
namespace Go.Proofs.Ytkfhekenaogceaa
open Go
set_option linter.unusedVariables false
set_option linter.unusedSimpArgs false

end Go.Proofs.Ytkfhekenaogceaa
