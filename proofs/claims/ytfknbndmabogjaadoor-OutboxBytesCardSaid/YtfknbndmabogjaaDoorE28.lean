/-
  The walks and the laws that the statement leans on, part 28.
-/
import Derived.Test.YtfknbndmabogjaaDoorE10
import Derived.Test.YtfknbndmabogjaaDoorE22
import Derived.Test.YtfknbndmabogjaaDoorE23
import Derived.Test.YtfknbndmabogjaaDoorE27

