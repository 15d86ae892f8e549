/- The walks of package dict and its statements. Printed by a program of this session. -/
import Derived.Test.YtallccfhkhonbaaDoorW1
import Derived.Test.YtallccfhkhonbaaDoorW2
import Derived.Test.YtallccfhkhonbaaDoorW3
