/- The walks of package bag and its statements. Printed by a program of this session. -/
import Derived.Test.YtjhkmflnelbbmaaDoorW1
import Derived.Test.YtjhkmflnelbbmaaDoorW2
import Derived.Test.YtjhkmflnelbbmaaDoorW3
import Derived.Test.YtjhkmflnelbbmaaDoorW4
