/-
  The walks and the laws that the statement leans on, part 34.
-/
import Derived.Test.YtpidkkgjgichdaaDoorW10
import Derived.Test.YtpidkkgjgichdaaDoorW31

