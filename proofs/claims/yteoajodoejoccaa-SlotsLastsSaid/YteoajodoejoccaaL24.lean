/-
  The walks and the laws that the statement leans on, part 24.
-/
import Derived.Test.YteoajodoejoccaaL9
import Derived.Test.YteoajodoejoccaaL10
import Derived.Test.YteoajodoejoccaaL23

