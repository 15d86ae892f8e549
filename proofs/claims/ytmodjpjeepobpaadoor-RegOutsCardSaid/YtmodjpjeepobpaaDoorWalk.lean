/- The walks of package reg and its statements. Printed by a program of this session. -/
import Derived.Test.YtmodjpjeepobpaaDoorW1
import Derived.Test.YtmodjpjeepobpaaDoorW2
import Derived.Test.YtmodjpjeepobpaaDoorW3
import Derived.Test.YtmodjpjeepobpaaDoorW4
