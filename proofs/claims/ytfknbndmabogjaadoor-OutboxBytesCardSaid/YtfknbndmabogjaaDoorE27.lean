/-
  The walks and the laws that the statement leans on, part 27.
-/
import Derived.Test.YtfknbndmabogjaaDoorE9
import Derived.Test.YtfknbndmabogjaaDoorE10
import Derived.Test.YtfknbndmabogjaaDoorE20

