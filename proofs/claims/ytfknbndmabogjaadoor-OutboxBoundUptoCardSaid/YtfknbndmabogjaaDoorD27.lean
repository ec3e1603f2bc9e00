/-
  The walks and the laws that the statement leans on, part 27.
-/
import Derived.Test.YtfknbndmabogjaaDoorD8
import Derived.Test.YtfknbndmabogjaaDoorD9

