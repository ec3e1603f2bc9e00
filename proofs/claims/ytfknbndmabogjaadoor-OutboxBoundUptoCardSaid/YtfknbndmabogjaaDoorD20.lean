/-
  The walks and the laws that the statement leans on, part 20.
-/
import Derived.Test.YtfknbndmabogjaaDoorD9
import Derived.Test.YtfknbndmabogjaaDoorD18

