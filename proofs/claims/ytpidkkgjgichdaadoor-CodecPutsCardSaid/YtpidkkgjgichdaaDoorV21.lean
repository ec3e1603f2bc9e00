/-
  The walks and the laws that the statement leans on, part 21.
-/
import Derived.Test.YtpidkkgjgichdaaDoorV8
import Derived.Test.YtpidkkgjgichdaaDoorV9
import Derived.Test.YtpidkkgjgichdaaDoorV20

