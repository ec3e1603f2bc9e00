/-
  The wire, written behind what is there; and what the document writes.
-/
import Derived.Test.YtkfhekenaogceaaWiB
namespace Go.Proofs.Ytkfhekenaogceaa
open Go
set_option linter.unusedVariables false
set_option linter.unusedSimpArgs false

end Go.Proofs.Ytkfhekenaogceaa
