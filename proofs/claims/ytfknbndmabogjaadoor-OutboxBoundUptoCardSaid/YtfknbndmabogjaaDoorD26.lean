/-
  The walks and the laws that the statement leans on, part 26.
-/
import Derived.Test.YtfknbndmabogjaaDoorD9
import Derived.Test.YtfknbndmabogjaaDoorD19

