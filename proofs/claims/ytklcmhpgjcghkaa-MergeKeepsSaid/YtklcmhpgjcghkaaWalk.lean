/- The walks of package merge and its statement. Printed by a program of this session. -/
import Derived.Test.YtklcmhpgjcghkaaW1
import Derived.Test.YtklcmhpgjcghkaaW2
