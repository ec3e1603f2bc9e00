/-
  A reader that is not there, and one of no bytes.
-/
import Derived.Test.YtkfhekenaogceaaWiB
namespace Go.Proofs.Ytkfhekenaogceaa
open Go
set_option linter.unusedVariables false
set_option linter.unusedSimpArgs false

abbrev nilS : AV := .lit (.slice none 0 0)
end Go.Proofs.Ytkfhekenaogceaa
