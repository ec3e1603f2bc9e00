/-
  The walks and the laws that the statement leans on, part 21.
-/
import Derived.Test.YtaffbklkjjmmdaaDoorC9
import Derived.Test.YtaffbklkjjmmdaaDoorC17
import Derived.Test.YtaffbklkjjmmdaaDoorC20

