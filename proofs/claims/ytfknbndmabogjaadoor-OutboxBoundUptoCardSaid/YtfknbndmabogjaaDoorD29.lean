/-
  The walks and the laws that the statement leans on, part 29.
-/
import Derived.Test.YtfknbndmabogjaaDoorD9
import Derived.Test.YtfknbndmabogjaaDoorD21
import Derived.Test.YtfknbndmabogjaaDoorD22
import Derived.Test.YtfknbndmabogjaaDoorD28
namespace Go.Proofs.YtfknbndmabogjaaDoor
open Go
set_option linter.unusedVariables false
set_option linter.unusedSimpArgs false
theorem drop_getD {C L : List AV} {a : Nat} (h : C.drop a = L) (i : Nat) : C.getD (a + i) .any = L.getD i .any := by
  rw [← h]; simp [List.getD_eq_getElem?_getD, List.getElem?_drop]
end Go.Proofs.YtfknbndmabogjaaDoor
