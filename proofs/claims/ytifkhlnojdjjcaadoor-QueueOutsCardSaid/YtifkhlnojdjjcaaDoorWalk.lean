/- The walks of package queue and its statements. Printed by a program of this session. -/
import Derived.Test.YtifkhlnojdjjcaaDoorW1
import Derived.Test.YtifkhlnojdjjcaaDoorW2
import Derived.Test.YtifkhlnojdjjcaaDoorW3
import Derived.Test.YtifkhlnojdjjcaaDoorW4
