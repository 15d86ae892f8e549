/- The walks of package sign and its statements. Printed by a program of this session. -/
import Derived.Test.YtaeinncalendfaaDoorW1
import Derived.Test.YtaeinncalendfaaDoorW2
