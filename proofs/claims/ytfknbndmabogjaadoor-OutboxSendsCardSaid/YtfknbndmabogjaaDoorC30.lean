/-
  The walks and the laws that the statement leans on, part 30.
-/
import Derived.Test.YtfknbndmabogjaaDoorC9
import Derived.Test.YtfknbndmabogjaaDoorC29

