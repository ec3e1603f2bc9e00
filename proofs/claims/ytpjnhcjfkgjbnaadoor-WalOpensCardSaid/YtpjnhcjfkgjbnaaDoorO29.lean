/-
  The walks and the laws that the statement leans on, part 29.
-/
import Derived.Test.YtpjnhcjfkgjbnaaDoorO9
import Derived.Test.YtpjnhcjfkgjbnaaDoorO28

