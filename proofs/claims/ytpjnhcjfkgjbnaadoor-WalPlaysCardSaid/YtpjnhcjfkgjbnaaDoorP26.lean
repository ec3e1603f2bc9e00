/-
  The walks and the laws that the statement leans on, part 26.
-/
import Derived.Test.YtpjnhcjfkgjbnaaDoorP10
import Derived.Test.YtpjnhcjfkgjbnaaDoorP25

