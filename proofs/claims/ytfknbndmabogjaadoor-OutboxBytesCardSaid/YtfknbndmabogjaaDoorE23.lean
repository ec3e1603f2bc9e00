/-
  The walks and the laws that the statement leans on, part 23.
-/
import Derived.Test.YtfknbndmabogjaaDoorE10
import Derived.Test.YtfknbndmabogjaaDoorE22

