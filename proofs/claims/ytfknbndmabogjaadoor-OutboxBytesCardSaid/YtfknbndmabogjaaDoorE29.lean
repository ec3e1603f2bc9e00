/-
  The walks and the laws that the statement leans on, part 29.
-/
import Derived.Test.YtfknbndmabogjaaDoorE10
import Derived.Test.YtfknbndmabogjaaDoorE28

