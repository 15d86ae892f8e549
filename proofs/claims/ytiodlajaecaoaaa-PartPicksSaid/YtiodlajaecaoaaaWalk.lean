/- The walks of package part and its statements. Printed by a program of this session. -/
import Derived.Test.YtiodlajaecaoaaaW1
import Derived.Test.YtiodlajaecaoaaaW2
