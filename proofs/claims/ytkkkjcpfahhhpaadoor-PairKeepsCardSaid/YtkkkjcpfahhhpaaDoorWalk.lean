/- The walks of package pair and its statements. Printed by a program of this session. -/
import Derived.Test.YtkkkjcpfahhhpaaDoorW1
import Derived.Test.YtkkkjcpfahhhpaaDoorW2
