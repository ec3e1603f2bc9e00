/-
  The walks and the laws that the statement leans on, part 32.
-/
import Derived.Test.YtpidkkgjgichdaaDoorV9
import Derived.Test.YtpidkkgjgichdaaDoorV22
import Derived.Test.YtpidkkgjgichdaaDoorV30

