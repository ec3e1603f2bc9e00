/-
  The walks and the laws that the statement leans on, part 29.
-/
import Derived.Test.YteoajodoejoccaaP10
import Derived.Test.YteoajodoejoccaaP20

