/-
  The walks and the laws that the statement leans on, part 24.
-/
import Derived.Test.YteoajodoejoccaaP9
import Derived.Test.YteoajodoejoccaaP10
import Derived.Test.YteoajodoejoccaaP23

