/- The walks of package sign and its statements. Printed by a program of this session. -/
import Derived.Test.YtaeinncalendfaaDoorInc
import Derived.Test.YtaeinncalendfaaDoorProg
set_option linter.unusedVariables false
set_option maxRecDepth 100000
namespace Go.L09
open Go Go.Abs Go.Inc

def tab : List (Nat × Ty) := [(2, (.int .i64)), (3, (.int .i64)), (4, .bool), (5, (.int .u8)), (9, .str), (23, (.pr (.int .i64) (.pr (.int .i64) (.pr .str .un)))), (26, (.sl (.int .i64))), (30, (.pr (.sl (.int .i64)) (.pr (.int .i64) (.pr .bool (.pr .bool .un))))), (34, (.sl (.pr (.int .i64) (.pr (.int .i64) (.pr .str .un))))), (36, (.pr (.int .i64) (.pr (.int .i64) (.pr (.sl (.pr (.int .i64) (.pr (.int .i64) (.pr .str .un)))) .un)))), (49, (.pr (.int .i64) (.pr (.int .i64) (.pr .str (.pr (.int .i64) (.pr .bool .un)))))), (59, (.sl (.pr (.int .i64) (.pr (.int .i64) (.pr .str (.pr (.int .i64) (.pr .bool .un))))))), (61, .o1)]
def ebs : List (Nat × Nat) := [(26, 8), (34, 32), (59, 48)]

def S3 : Abs.Spec := { ta := (.pr (.int .i64) (.pr (.pr (.int .i64) (.pr (.int .i64) (.pr .str .un))) .un)), tr := (.pr .bool .un), multi := false, pre := fun x => okT x.1 x.2.1, val := fun x => (true, ()) }
def S4 : Abs.Spec := { ta := (.pr (.int .i64) (.pr (.int .i64) .un)), tr := (.pr .bool .un), multi := false, pre := fun x => true, val := fun x => (true, ()) }
def S5 : Abs.Spec := { ta := (.pr (.pr (.int .i64) (.pr (.int .i64) (.pr (.sl (.pr (.int .i64) (.pr (.int .i64) (.pr .str .un)))) .un))) .un), tr := (.pr .bool .un), multi := false, pre := fun x => okD x.1, val := fun x => (true, ()) }
def S6 : Abs.Spec := { ta := (.pr (.pr (.int .i64) (.pr (.int .i64) (.pr (.sl (.pr (.int .i64) (.pr (.int .i64) (.pr .str .un)))) .un))) .un), tr := (.pr .bool .un), multi := false, pre := fun x => okD x.1, val := fun x => (true, ()) }
def S8 : Abs.Spec := { ta := .un, tr := (.pr .bool .un), multi := false, pre := fun x => true, val := fun x => (true, ()) }
def S9 : Abs.Spec := { ta := (.pr (.int .i64) (.pr (.pr (.int .i64) (.pr (.int .i64) (.pr .str .un))) .un)), tr := (.pr .bool .un), multi := false, pre := fun x => okT x.1 x.2.1, val := fun x => (takes x.1 x.2.1, ()) }
def S10 : Abs.Spec := { ta := (.pr (.int .i64) (.pr (.pr (.int .i64) (.pr (.int .i64) (.pr .str .un))) .un)), tr := (.pr .bool .un), multi := false, pre := fun x => okT x.1 x.2.1, val := fun x => (takes x.1 x.2.1, ()) }
def S11 : Abs.Spec := { ta := (.pr (.int .i64) (.pr (.int .i64) .un)), tr := (.pr (.sl (.int .i64)) (.pr .bool .un)), multi := true, pre := fun x => true, val := fun x => argsGo x.1 x.2.1 }
def S12 : Abs.Spec := { ta := (.pr (.int .i64) (.pr (.int .i64) .un)), tr := (.pr (.pr (.sl (.int .i64)) (.pr (.int .i64) (.pr .bool (.pr .bool .un)))) .un), multi := false, pre := fun x => true, val := fun x => (signRef x.1 x.2.1, ()) }
def S13 : Abs.Spec := { ta := (.pr (.sl (.int .i64)) (.pr (.sl (.int .i64)) .un)), tr := (.pr .bool .un), multi := false, pre := fun x => okSame x.1 x.2.1, val := fun x => (eqL x.1 x.2.1, ()) }
def S14 : Abs.Spec := { ta := (.pr (.int .i64) (.pr (.int .i64) (.pr (.sl (.pr (.int .i64) (.pr (.int .i64) (.pr .str .un)))) .un))), tr := (.pr (.sl (.int .i64)) (.pr .bool .un)), multi := true, pre := fun x => okF x.1 x.2.1 x.2.2.1, val := fun x => outsGo x.1 x.2.1 x.2.2.1 }
def S15 : Abs.Spec := { ta := (.pr (.int .i64) (.pr (.int .i64) (.pr (.sl (.pr (.int .i64) (.pr (.int .i64) (.pr .str .un)))) .un))), tr := (.pr (.sl (.int .i64)) (.pr .bool .un)), multi := true, pre := fun x => okF x.1 x.2.1 x.2.2.1, val := fun x => outsGo x.1 x.2.1 x.2.2.1 }
def S16 : Abs.Spec := { ta := (.pr (.int .i64) (.pr (.int .i64) (.pr (.sl (.pr (.int .i64) (.pr (.int .i64) (.pr .str .un)))) .un))), tr := (.pr .bool .un), multi := false, pre := fun x => okF x.1 x.2.1 x.2.2.1, val := fun x => (fits x.1 x.2.1 x.2.2.1, ()) }
def S17 : Abs.Spec := { ta := (.pr (.int .i64) (.pr (.int .i64) (.pr (.sl (.pr (.int .i64) (.pr (.int .i64) (.pr .str .un)))) .un))), tr := (.pr .bool .un), multi := false, pre := fun x => okF x.1 x.2.1 x.2.2.1, val := fun x => (fits x.1 x.2.1 x.2.2.1, ()) }
def S23 : Abs.Spec := { ta := (.pr (.int .i64) .un), tr := (.pr .str .un), multi := false, pre := fun x => true, val := fun x => (modelName x.1, ()) }
def S25 : Abs.Spec := { ta := (.pr (.int .i64) .un), tr := (.pr .str .un), multi := false, pre := fun x => true, val := fun x => (opName x.1, ()) }
def S26 : Abs.Spec := { ta := (.pr (.pr (.int .i64) (.pr (.int .i64) (.pr .str .un))) .un), tr := (.pr .bool .un), multi := false, pre := fun x => okV x.1, val := fun x => (right x.1, ()) }
def S27 : Abs.Spec := { ta := (.pr (.pr (.int .i64) (.pr (.int .i64) (.pr .str .un))) .un), tr := (.pr .bool .un), multi := false, pre := fun x => okV x.1, val := fun x => (name x.1, ()) }
def S28 : Abs.Spec := { ta := (.pr (.pr (.int .i64) (.pr (.int .i64) (.pr .str .un))) .un), tr := (.pr .bool .un), multi := false, pre := fun x => okV x.1, val := fun x => (right x.1, ()) }
def S29 : Abs.Spec := { ta := (.pr (.int .i64) (.pr (.int .i64) .un)), tr := (.pr (.pr (.int .i64) (.pr (.int .i64) (.pr .str (.pr (.int .i64) (.pr .bool .un))))) (.pr .bool .un)), multi := true, pre := fun x => true, val := fun x => findGo x.1 x.2.1 }
def S30 : Abs.Spec := { ta := (.pr (.int .u8) .un), tr := (.pr (.int .i64) .un), multi := false, pre := fun x => true, val := fun x => (domain x.1, ()) }
def S31 : Abs.Spec := { ta := (.pr (.sl (.pr (.int .i64) (.pr (.int .i64) (.pr .str .un)))) .un), tr := (.pr (.sl (.int .i64)) (.pr .bool .un)), multi := true, pre := fun x => okL x.1, val := fun x => pairedGo x.1 }
def S33 : Abs.Spec := { ta := (.pr .str .un), tr := (.pr .bool .un), multi := false, pre := fun x => okS x.1, val := fun x => (isWord x.1, ()) }
def S34 : Abs.Spec := { ta := (.pr .str .un), tr := (.pr .bool .un), multi := false, pre := fun x => okS x.1, val := fun x => (isWord x.1, ()) }
def S37 : Abs.Spec := { ta := (.pr (.int .u8) (.pr .bool .un)), tr := (.pr .bool .un), multi := false, pre := fun x => ok8 x.1 x.2.1, val := fun x => (letterGo x.1 x.2.1, ()) }
def X36 : XSpec := { hin := [(0, (.pr (.i .i64) (.pr (.i .i64) (.pr .st (.pr (.i .i64) (.pr .bo .un)))))), (2, (.bx 1000 0)), (4, (.bx 1001 0)), (2001, (.pr (.i .i64) .un)), (2003, (.pr (.i .i64) .un))], hout := [(0, .bo), (2001, (.pr (.i .i64) .un)), (2003, (.pr (.i .i64) .un))], np := 3, nr := 1, multi := false, pins := [1000, 1001], pre := fun x => true, val := fun x => ((hitA x.1.1 x.1.2.1 x.1.2.2.1 x.1.2.2.2.1 x.1.2.2.2.2.1 x.2.2.2.1.1 x.2.2.2.2.1.1), ((x.2.2.2.1.1, ()), ((x.2.2.2.2.1.1, ()), ()))) }
def X35 : XSpec := { hin := [(0, (.sl (.pr (.int .i64) (.pr (.int .i64) (.pr .str (.pr (.int .i64) (.pr .bool .un))))) .no)), (2, (.cl 36 .un (.pr (.bx 1000 0) (.pr (.bx 1001 0) .un)))), (2001, (.pr (.i .i64) .un)), (2003, (.pr (.i .i64) .un))], hout := [(0, (.i .i64)), (2001, (.pr (.i .i64) .un)), (2003, (.pr (.i .i64) .un))], np := 2, nr := 1, multi := false, pins := [1000, 1001], pre := fun x => okX x.1 x.2.2.1.1 x.2.2.2.1.1, val := fun x => ((idxR x.1 x.2.2.1.1 x.2.2.2.1.1), ((x.2.2.1.1, ()), ((x.2.2.2.1.1, ()), ()))) }

def H37_2 : Head := { hd := [(0, (.i .u8)), (2, .bo), (10, (.i .u8))], exits := [(0, [(8, .bo)]), (1, [(0, (.i .u8)), (2, .bo)])] }
def C37 : Cfg := { nt := 27, tab := tab, eb := ebs, glob := [(2, .pt VT (3, 1, ByteArray.empty, ())), (3, .pt VT (3, 0, ByteArray.empty, ()))], specs := [], clones := [], keep := [0, 2, 8, 10], own := [], heads := [(2, H37_2)], calls := [] }
def H34_2 : Head := { hd := [(0, .st), (6, (.i .i64))], exits := [(0, [(4, .bo)]), (1, [(0, .st)])] }
def C34 : Cfg := { nt := 25, tab := tab, eb := ebs, glob := [(2, .pt VT (3, 1, ByteArray.empty, ())), (3, .pt VT (3, 0, ByteArray.empty, ()))], specs := [(37, S37)], clones := [], keep := [0, 4, 6], own := [], heads := [(2, H34_2)], calls := [] }
def C28 : Cfg := { nt := 45, tab := tab, eb := ebs, glob := [(2, .pt VT (3, 1, ByteArray.empty, ())), (3, .pt VT (3, 0, ByteArray.empty, ()))], specs := [(34, S34)], clones := [], keep := [0, 2, 3, 4, 8], own := [], heads := [], calls := [] }
def C27 : Cfg := { nt := 15, tab := tab, eb := ebs, glob := [(2, .pt VT (3, 1, ByteArray.empty, ())), (3, .pt VT (3, 0, ByteArray.empty, ()))], specs := [(28, S28)], clones := [], keep := [0, 2, 3, 4], own := [], heads := [], calls := [] }
def H33_4 : Head := { hd := [(0, .st), (46, (.i .i64)), (48, (.i .i64))], exits := [(0, [(4, .bo)]), (1, [])] }
def C33 : Cfg := { nt := 50, tab := tab, eb := ebs, glob := [(2, .pt VT (3, 1, ByteArray.empty, ())), (3, .pt VT (3, 0, ByteArray.empty, ()))], specs := [], clones := [], keep := [0, 4, 6, 8, 46, 48], own := [], heads := [(4, H33_4)], calls := [] }
def C26 : Cfg := { nt := 33, tab := tab, eb := ebs, glob := [(2, .pt VT (3, 1, ByteArray.empty, ())), (3, .pt VT (3, 0, ByteArray.empty, ()))], specs := [(33, S33)], clones := [], keep := [0, 2, 3, 4, 8], own := [], heads := [], calls := [] }
def C9 : Cfg := { nt := 35, tab := tab, eb := ebs, glob := [(2, .pt VT (3, 1, ByteArray.empty, ())), (3, .pt VT (3, 0, ByteArray.empty, ()))], specs := [(26, S26)], clones := [], keep := [0, 2, 6, 7, 8, 16], own := [], heads := [], calls := [] }
def C10 : Cfg := { nt := 37, tab := tab, eb := ebs, glob := [(2, .pt VT (3, 1, ByteArray.empty, ())), (3, .pt VT (3, 0, ByteArray.empty, ()))], specs := [(27, S27), (28, S28)], clones := [], keep := [0, 2, 6, 7, 8], own := [], heads := [], calls := [] }
def C23 : Cfg := { nt := 24, tab := tab, eb := ebs, glob := [(2, .pt VT (3, 1, ByteArray.empty, ())), (3, .pt VT (3, 0, ByteArray.empty, ()))], specs := [], clones := [], keep := [0, 4, 6], own := [], heads := [], calls := [] }
def C25 : Cfg := { nt := 30, tab := tab, eb := ebs, glob := [(2, .pt VT (3, 1, ByteArray.empty, ())), (3, .pt VT (3, 0, ByteArray.empty, ()))], specs := [], clones := [], keep := [0, 4, 6], own := [], heads := [], calls := [] }
def C12 : Cfg := { nt := 74, tab := tab, eb := ebs, glob := [(2, .pt VT (3, 1, ByteArray.empty, ())), (3, .pt VT (3, 0, ByteArray.empty, ()))], specs := [(23, S23), (25, S25)], clones := [], keep := [0, 2, 8, 9, 20], own := [], heads := [], calls := [] }
def H13_4 : Head := { hd := [(0, (.sl (.int .i64) .no)), (2, (.sl (.int .i64) .no)), (10, (.i .i64))], exits := [(0, [(8, .bo)]), (1, [])] }
def C13 : Cfg := { nt := 26, tab := tab, eb := ebs, glob := [(2, .pt VT (3, 1, ByteArray.empty, ())), (3, .pt VT (3, 0, ByteArray.empty, ()))], specs := [], clones := [], keep := [0, 2, 8, 10], own := [], heads := [(4, H13_4)], calls := [] }
def C36 : Cfg := { nt := 15, tab := tab, eb := ebs, glob := [(2, .pt VT (3, 1, ByteArray.empty, ())), (3, .pt VT (3, 0, ByteArray.empty, ()))], specs := [], clones := [], keep := [0, 2, 4, 6, 7, 8, 2001, 2003], own := [], heads := [], calls := [] }
def H35_2 : Head := { hd := [(0, (.sl (.pr (.int .i64) (.pr (.int .i64) (.pr .str (.pr (.int .i64) (.pr .bool .un))))) .no)), (2, (.cl 36 .un (.pr (.bx 1000 0) (.pr (.bx 1001 0) .un)))), (14, (.i .i64)), (16, (.i .i64)), (2001, (.pr (.i .i64) .un)), (2003, (.pr (.i .i64) .un))], exits := [(0, [(8, (.i .i64)), (2001, (.pr (.i .i64) .un)), (2003, (.pr (.i .i64) .un))]), (1, [(2001, (.pr (.i .i64) .un)), (2003, (.pr (.i .i64) .un))])] }
def C35 : Cfg := { nt := 19, tab := tab, eb := ebs, glob := [(2, .pt VT (3, 1, ByteArray.empty, ())), (3, .pt VT (3, 0, ByteArray.empty, ()))], specs := [], clones := [], keep := [0, 2, 8, 10, 14, 16, 2001, 2003], own := [], heads := [(2, H35_2)], calls := [(16, { f := 36, X := X36, ins := [(1000, 1000), (1001, 1001)], news := [] })] }
def C29 : Cfg := { nt := 43, tab := tab, eb := ebs, glob := [(2, .pt VT (3, 1, ByteArray.empty, ())), (3, .pt VT (3, 0, ByteArray.empty, ()))], specs := [], clones := [], keep := [0, 2, 4, 5, 6, 7, 8, 9, 10, 12, 14], own := [], heads := [], calls := [(35, { f := 35, X := X35, ins := [(2, 1000), (3, 1001)], news := [] })] }
def C30 : Cfg := { nt := 10, tab := tab, eb := ebs, glob := [(2, .pt VT (3, 1, ByteArray.empty, ())), (3, .pt VT (3, 0, ByteArray.empty, ()))], specs := [], clones := [], keep := [0, 4, 6], own := [], heads := [], calls := [] }
def H11_6 : Head := { hd := [(12, (.bx 6 0)), (13, (.pr (.i .i64) (.pr (.i .i64) (.pr .st (.pr (.i .i64) (.pr .bo .un)))))), (16, (.sl (.int .i64) (.own 31))), (40, (.i .i64)), (42, (.i .i64))], exits := [(1, [(13, (.pr (.i .i64) (.pr (.i .i64) (.pr .st (.pr (.i .i64) (.pr .bo .un)))))), (16, (.sl (.int .i64) (.own 31)))])] }
def C11 : Cfg := { nt := 34, tab := tab, eb := ebs, glob := [(2, .pt VT (3, 1, ByteArray.empty, ())), (3, .pt VT (3, 0, ByteArray.empty, ()))], specs := [(29, S29), (30, S30)], clones := [], keep := [0, 2, 8, 10, 12, 13, 14, 16, 18, 40, 42], own := [], heads := [(6, H11_6)], calls := [] }
def H31_5 : Head := { hd := [(8, (.sl (.int .i64) (.own 29))), (24, (.sl (.pr (.int .i64) (.pr (.int .i64) (.pr .str .un))) .no)), (26, (.i .i64)), (28, (.i .i64))], exits := [(0, [(4, (.sl (.int .i64) .full)), (6, .bo), (13, (.pr (.i .i64) (.pr (.i .i64) (.pr .st .un))))]), (1, [(8, (.sl (.int .i64) (.own 29)))])] }
def C31 : Cfg := { nt := 32, tab := tab, eb := ebs, glob := [(2, .pt VT (3, 1, ByteArray.empty, ())), (3, .pt VT (3, 0, ByteArray.empty, ()))], specs := [(9, S9)], clones := [], keep := [0, 4, 6, 8, 10, 12, 13, 14, 24, 26, 28], own := [], heads := [(5, H31_5)], calls := [] }
def C14 : Cfg := { nt := 62, tab := tab, eb := ebs, glob := [(2, .pt VT (3, 1, ByteArray.empty, ())), (3, .pt VT (3, 0, ByteArray.empty, ()))], specs := [(9, S9), (29, S29), (31, S31)], clones := [], keep := [0, 2, 4, 12, 14, 16, 17, 18], own := [], heads := [], calls := [] }
def H15_7 : Head := { hd := [(4, (.sl (.pr (.int .i64) (.pr (.int .i64) (.pr .str .un))) .no)), (17, (.pr (.sl (.int .i64) .no) (.pr (.i .i64) (.pr .bo (.pr .bo .un))))), (18, (.sl (.int .i64) (.own 54))), (20, (.i .i64))], exits := [(0, [(12, (.sl (.int .i64) .full)), (14, .bo), (17, (.pr (.sl (.int .i64) .no) (.pr (.i .i64) (.pr .bo (.pr .bo .un)))))]), (1, [(17, (.pr (.sl (.int .i64) .no) (.pr (.i .i64) (.pr .bo (.pr .bo .un))))), (18, (.sl (.int .i64) (.own 54)))])] }
def C15 : Cfg := { nt := 84, tab := tab, eb := ebs, glob := [(2, .pt VT (3, 1, ByteArray.empty, ())), (3, .pt VT (3, 0, ByteArray.empty, ()))], specs := [(10, S10), (12, S12)], clones := [], keep := [0, 2, 4, 12, 14, 16, 17, 18, 20, 22, 24, 25], own := [], heads := [(7, H15_7)], calls := [] }
def H16_5 : Head := { hd := [(4, (.sl (.pr (.int .i64) (.pr (.int .i64) (.pr .str .un))) .no)), (52, (.sl (.int .i64) .no)), (54, (.i .i64)), (56, (.i .i64))], exits := [(0, [(12, .bo)]), (1, [])] }
def C16 : Cfg := { nt := 41, tab := tab, eb := ebs, glob := [(2, .pt VT (3, 1, ByteArray.empty, ())), (3, .pt VT (3, 0, ByteArray.empty, ()))], specs := [(9, S9), (11, S11)], clones := [], keep := [0, 2, 4, 12, 14, 16, 18, 20, 52, 54, 56], own := [], heads := [(5, H16_5)], calls := [] }
def H17_5 : Head := { hd := [(4, (.sl (.pr (.int .i64) (.pr (.int .i64) (.pr .str .un))) .no)), (14, (.bx 7 0)), (15, (.pr (.sl (.int .i64) .no) (.pr (.i .i64) (.pr .bo (.pr .bo .un))))), (16, (.i .i64))], exits := [(0, [(12, .bo), (15, (.pr (.sl (.int .i64) .no) (.pr (.i .i64) (.pr .bo (.pr .bo .un)))))]), (1, [(15, (.pr (.sl (.int .i64) .no) (.pr (.i .i64) (.pr .bo (.pr .bo .un)))))])] }
def C17 : Cfg := { nt := 40, tab := tab, eb := ebs, glob := [(2, .pt VT (3, 1, ByteArray.empty, ())), (3, .pt VT (3, 0, ByteArray.empty, ()))], specs := [(10, S10), (12, S12)], clones := [], keep := [0, 2, 4, 12, 14, 15, 16], own := [], heads := [(5, H17_5)], calls := [] }
def C8 : Cfg := { nt := 39, tab := tab, eb := ebs, glob := [(2, .pt VT (3, 1, ByteArray.empty, ())), (3, .pt VT (3, 0, ByteArray.empty, ()))], specs := [(11, S11), (13, S13), (14, S14)], clones := [], keep := [0, 2, 4, 8, 10, 12], own := [], heads := [], calls := [] }
def C3 : Cfg := { nt := 21, tab := tab, eb := ebs, glob := [(2, .pt VT (3, 1, ByteArray.empty, ())), (3, .pt VT (3, 0, ByteArray.empty, ()))], specs := [(8, S8), (9, S9), (10, S10)], clones := [], keep := [0, 2, 6, 7, 8], own := [], heads := [], calls := [] }
def C4 : Cfg := { nt := 29, tab := tab, eb := ebs, glob := [(2, .pt VT (3, 1, ByteArray.empty, ())), (3, .pt VT (3, 0, ByteArray.empty, ()))], specs := [(8, S8), (11, S11), (12, S12), (13, S13)], clones := [], keep := [0, 2, 8, 10, 12, 14, 15], own := [], heads := [], calls := [] }
def H5_6 : Head := { hd := [(2, (.bx 1 0)), (3, (.pr (.i .i64) (.pr (.i .i64) (.pr (.sl (.pr (.int .i64) (.pr (.int .i64) (.pr .str .un))) .no) .un)))), (32, (.sl (.pr (.int .i64) (.pr (.int .i64) (.pr .str .un))) .no)), (34, (.i .i64)), (36, (.i .i64))], exits := [(0, [(3, (.pr (.i .i64) (.pr (.i .i64) (.pr (.sl (.pr (.int .i64) (.pr (.int .i64) (.pr .str .un))) .no) .un)))), (4, .bo), (9, (.pr (.i .i64) (.pr (.i .i64) (.pr .st .un))))]), (1, [(2, (.bx 1 0)), (3, (.pr (.i .i64) (.pr (.i .i64) (.pr (.sl (.pr (.int .i64) (.pr (.int .i64) (.pr .str .un))) .no) .un))))])] }
def C5 : Cfg := { nt := 55, tab := tab, eb := ebs, glob := [(2, .pt VT (3, 1, ByteArray.empty, ())), (3, .pt VT (3, 0, ByteArray.empty, ()))], specs := [(8, S8), (13, S13), (14, S14), (15, S15)], clones := [], keep := [0, 2, 3, 4, 8, 9, 10, 12, 14, 16, 32, 34, 36], own := [], heads := [(6, H5_6)], calls := [] }
def H6_6 : Head := { hd := [(2, (.bx 1 0)), (3, (.pr (.i .i64) (.pr (.i .i64) (.pr (.sl (.pr (.int .i64) (.pr (.int .i64) (.pr .str .un))) .no) .un)))), (24, (.sl (.pr (.int .i64) (.pr (.int .i64) (.pr .str .un))) .no)), (26, (.i .i64)), (28, (.i .i64))], exits := [(0, [(3, (.pr (.i .i64) (.pr (.i .i64) (.pr (.sl (.pr (.int .i64) (.pr (.int .i64) (.pr .str .un))) .no) .un)))), (4, .bo), (9, (.pr (.i .i64) (.pr (.i .i64) (.pr .st .un))))]), (1, [(2, (.bx 1 0)), (3, (.pr (.i .i64) (.pr (.i .i64) (.pr (.sl (.pr (.int .i64) (.pr (.int .i64) (.pr .str .un))) .no) .un))))])] }
def C6 : Cfg := { nt := 38, tab := tab, eb := ebs, glob := [(2, .pt VT (3, 1, ByteArray.empty, ())), (3, .pt VT (3, 0, ByteArray.empty, ()))], specs := [(8, S8), (16, S16), (17, S17)], clones := [], keep := [0, 2, 3, 4, 8, 9, 24, 26, 28], own := [], heads := [(6, H6_6)], calls := [] }

def q12 (m o : Int) (l : List UInt8) : Bool := ByteArray.toList (((Go.Inc.modelName m) ++ (strL [32])) ++ (Go.Inc.opName o)) == ByteArray.toList (strL l)
/-! ### 37: incognito/incognitoref07.letter -/
def W37_2 {β : Type} (N : Nat) (x0 : Bool → Option β) (x1 : Int → Bool → Option β) : Nat → Int → Bool → Int → Option β
  | 0, _, _, _ => none
  | n + 1, t0, t1, t5 =>
  bif decide (t5 ≤ (122 : Int)) then
    bif (t0 == t5) then
      x0 true
    else
      W37_2 N x0 x1 n t0 t1 (Go.IntKind.wrap .u8 (t5 + (1 : Int)))
  else
    x1 t0 t1
def L37 (N : Nat) : Loops (Bool × Unit) := fun k ρ K => match Nat.beq k 2 with
  | true => (match adH ρ H37_2.hd with
    | some v => W37_2 N (fun t4 => K .ret (encH [(8, .bo)] (t4, ()))) (fun t0 t1 => K (.exit 0) (encH [(0, (.i .u8)), (2, .bo)] (t0, (t1, ())))) N v.1 v.2.1 v.2.2.1
    | none => none)
  | false => none
def F37 (N : Nat) (p0 : Int) (p1 : Bool) : Option (Bool × Unit) :=
  W37_2 N
    (fun t4 =>
      some (t4, ()))
    (fun t0 t1 =>
      bif (!t1) then
        bif (t0 == (95 : Int)) then
          some (true, ())
        else
          bif decide (t0 ≥ (48 : Int)) then
            some (decide (t0 ≤ (57 : Int)), ())
          else
            some (false, ())
      else
        some (false, ()))
    N p0 p1 (97 : Int)
theorem loops37 (N : Nat) : loopsOk C37 (L37 N) Go.Proofs.Tryd.f37 := ⟨trivial, ⟨⟨trivial, ⟨loopOk_of H37_2 N (fun K n v => W37_2 N (fun t4 => K .ret (encH [(8, .bo)] (t4, ()))) (fun t0 t1 => K (.exit 0) (encH [(0, (.i .u8)), (2, .bo)] (t0, (t1, ())))) n v.1 v.2.1 v.2.2.1) (by kernel_rfl) (fun K v => by kernel_rfl) (fun K v => by kernel_rfl) (fun K n v => by kernel_rfl), ⟨⟨trivial, ⟨trivial, trivial⟩⟩, ⟨⟨trivial, ⟨⟨trivial, trivial⟩, trivial⟩⟩, trivial⟩⟩⟩⟩, ⟨trivial, trivial⟩⟩⟩
theorem runs37 (N : Nat) (x : S37.ta.den) : run C37 S37 (L37 N) Go.Proofs.Tryd.f37 x = F37 N x.1 x.2.1 := by kernel_rfl

/-! ### 34: incognito/incognitoref07.IsWord -/
def W34_2 {β : Type} (N : Nat) (x0 : Bool → Option β) (x1 : ByteArray → Option β) : Nat → ByteArray → Int → Option β
  | 0, _, _ => none
  | n + 1, t0, t3 =>
  bif decide (t3 < (((ByteArray.size t0) : Nat) : Int)) then
    bif ((decide ((0 : Int) ≤ t3)) && (decide (t3 < (((ByteArray.size t0) : Nat) : Int)))) then
      bif (Go.Inc.ok8 (((UInt8.toNat (List.getD (Array.toList (ByteArray.data t0)) (Int.toNat t3) (0 : UInt8))) : Nat) : Int) (t3 == (0 : Int))) then
        bif (!(Go.Inc.letterGo (((UInt8.toNat (List.getD (Array.toList (ByteArray.data t0)) (Int.toNat t3) (0 : UInt8))) : Nat) : Int) (t3 == (0 : Int)))) then
          x0 false
        else
          W34_2 N x0 x1 n t0 (Go.IntKind.wrap .i64 (t3 + (1 : Int)))
      else
        none
    else
      none
  else
    x1 t0
def L34 (N : Nat) : Loops (Bool × Unit) := fun k ρ K => match Nat.beq k 2 with
  | true => (match adH ρ H34_2.hd with
    | some v => W34_2 N (fun t2 => K .ret (encH [(4, .bo)] (t2, ()))) (fun t0 => K (.exit 0) (encH [(0, .st)] (t0, ()))) N v.1 v.2.1
    | none => none)
  | false => none
def F34 (N : Nat) (p0 : ByteArray) : Option (Bool × Unit) :=
  W34_2 N
    (fun t2 =>
      some (t2, ()))
    (fun t0 =>
      bif decide ((((ByteArray.size t0) : Nat) : Int) ≥ (1 : Int)) then
        some (decide ((((ByteArray.size t0) : Nat) : Int) ≤ (40 : Int)), ())
      else
        some (false, ()))
    N p0 (0 : Int)
theorem loops34 (N : Nat) : loopsOk C34 (L34 N) Go.Proofs.Tryd.f34 := ⟨trivial, ⟨⟨trivial, ⟨loopOk_of H34_2 N (fun K n v => W34_2 N (fun t2 => K .ret (encH [(4, .bo)] (t2, ()))) (fun t0 => K (.exit 0) (encH [(0, .st)] (t0, ()))) n v.1 v.2.1) (by kernel_rfl) (fun K v => by kernel_rfl) (fun K v => by kernel_rfl) (fun K n v => by kernel_rfl), ⟨⟨trivial, ⟨trivial, trivial⟩⟩, ⟨⟨trivial, ⟨⟨trivial, trivial⟩, trivial⟩⟩, trivial⟩⟩⟩⟩, ⟨trivial, trivial⟩⟩⟩
theorem runs34 (N : Nat) (x : S34.ta.den) : run C34 S34 (L34 N) Go.Proofs.Tryd.f34 x = F34 N x.1 := by kernel_rfl

/-! ### 28: incognito/incognitoref07.Right -/
def L28 (_ : Nat) : Loops (Bool × Unit) := fun _ _ _ => none
def F28 (N : Nat) (p0 : Int × Int × ByteArray × Unit) : Option (Bool × Unit) :=
  bif (p0.1 == (0 : Int)) then
    bif (p0.2.1 == (0 : Int)) then
      some (((ByteArray.toList p0.2.2.1) == (ByteArray.toList (strL []))), ())
    else
      some (false, ())
  else
    bif (p0.1 == (1 : Int)) then
      some (((ByteArray.toList p0.2.2.1) == (ByteArray.toList (strL []))), ())
    else
      bif (p0.1 == (2 : Int)) then
        bif (p0.2.1 == (0 : Int)) then
          bif (Go.Inc.okS p0.2.2.1) then
            some ((Go.Inc.isWord p0.2.2.1), ())
          else
            none
        else
          some (false, ())
      else
        bif (p0.1 == (3 : Int)) then
          bif (p0.2.1 == (0 : Int)) then
            some (((ByteArray.toList p0.2.2.1) == (ByteArray.toList (strL []))), ())
          else
            bif (p0.2.1 == (1 : Int)) then
              some (((ByteArray.toList p0.2.2.1) == (ByteArray.toList (strL []))), ())
            else
              some (false, ())
        else
          some (false, ())
theorem loops28 (N : Nat) : loopsOk C28 (L28 N) Go.Proofs.Tryd.f28 := ⟨trivial, ⟨⟨trivial, ⟨trivial, ⟨⟨trivial, trivial⟩, ⟨trivial, ⟨⟨trivial, trivial⟩, ⟨trivial, ⟨⟨trivial, trivial⟩, ⟨trivial, ⟨⟨trivial, trivial⟩, trivial⟩⟩⟩⟩⟩⟩⟩⟩⟩, ⟨trivial, trivial⟩⟩⟩
theorem runs28 (N : Nat) (x : S28.ta.den) : run C28 S28 (L28 N) Go.Proofs.Tryd.f28 x = F28 N x.1 := by kernel_rfl

/-! ### 27: incognito/incognitoref07.Name -/
def L27 (_ : Nat) : Loops (Bool × Unit) := fun _ _ _ => none
def F27 (N : Nat) (p0 : Int × Int × ByteArray × Unit) : Option (Bool × Unit) :=
  bif (Go.Inc.okV (p0.1, (p0.2.1, (p0.2.2.1, ())))) then
    bif (Go.Inc.right (p0.1, (p0.2.1, (p0.2.2.1, ())))) then
      bif (p0.1 == (1 : Int)) then
        some (true, ())
      else
        some ((p0.1 == (2 : Int)), ())
    else
      some (false, ())
  else
    none
theorem loops27 (N : Nat) : loopsOk C27 (L27 N) Go.Proofs.Tryd.f27 := ⟨trivial, ⟨trivial, trivial⟩⟩
theorem runs27 (N : Nat) (x : S27.ta.den) : run C27 S27 (L27 N) Go.Proofs.Tryd.f27 x = F27 N x.1 := by kernel_rfl

/-! ### 33: incognito/value.IsWord -/
def W33_4 {β : Type} (N : Nat) (x0 : Bool → Option β) (x1 : Unit → Option β) : Nat → ByteArray → Int → Int → Option β
  | 0, _, _, _ => none
  | n + 1, t0, t23, t24 =>
  bif decide (t24 < t23) then
    bif ((decide ((0 : Int) ≤ t24)) && (decide (t24 < (((ByteArray.size t0) : Nat) : Int)))) then
      bif decide ((((UInt8.toNat (List.getD (Array.toList (ByteArray.data t0)) (Int.toNat t24) (0 : UInt8))) : Nat) : Int) ≥ (97 : Int)) then
        bif decide ((((UInt8.toNat (List.getD (Array.toList (ByteArray.data t0)) (Int.toNat t24) (0 : UInt8))) : Nat) : Int) ≤ (122 : Int)) then
          W33_4 N x0 x1 n t0 t23 (Go.IntKind.wrap .i64 (t24 + (1 : Int)))
        else
          bif decide ((((UInt8.toNat (List.getD (Array.toList (ByteArray.data t0)) (Int.toNat t24) (0 : UInt8))) : Nat) : Int) ≥ (48 : Int)) then
            bif decide ((((UInt8.toNat (List.getD (Array.toList (ByteArray.data t0)) (Int.toNat t24) (0 : UInt8))) : Nat) : Int) ≤ (57 : Int)) then
              W33_4 N x0 x1 n t0 t23 (Go.IntKind.wrap .i64 (t24 + (1 : Int)))
            else
              bif (!((((UInt8.toNat (List.getD (Array.toList (ByteArray.data t0)) (Int.toNat t24) (0 : UInt8))) : Nat) : Int) == (95 : Int))) then
              x0 false
            else
              W33_4 N x0 x1 n t0 t23 (Go.IntKind.wrap .i64 (t24 + (1 : Int)))
          else
            bif (!((((UInt8.toNat (List.getD (Array.toList (ByteArray.data t0)) (Int.toNat t24) (0 : UInt8))) : Nat) : Int) == (95 : Int))) then
              x0 false
            else
              W33_4 N x0 x1 n t0 t23 (Go.IntKind.wrap .i64 (t24 + (1 : Int)))
      else
        bif decide ((((UInt8.toNat (List.getD (Array.toList (ByteArray.data t0)) (Int.toNat t24) (0 : UInt8))) : Nat) : Int) ≥ (48 : Int)) then
          bif decide ((((UInt8.toNat (List.getD (Array.toList (ByteArray.data t0)) (Int.toNat t24) (0 : UInt8))) : Nat) : Int) ≤ (57 : Int)) then
            W33_4 N x0 x1 n t0 t23 (Go.IntKind.wrap .i64 (t24 + (1 : Int)))
          else
            bif (!((((UInt8.toNat (List.getD (Array.toList (ByteArray.data t0)) (Int.toNat t24) (0 : UInt8))) : Nat) : Int) == (95 : Int))) then
              x0 false
            else
              W33_4 N x0 x1 n t0 t23 (Go.IntKind.wrap .i64 (t24 + (1 : Int)))
        else
          bif (!((((UInt8.toNat (List.getD (Array.toList (ByteArray.data t0)) (Int.toNat t24) (0 : UInt8))) : Nat) : Int) == (95 : Int))) then
            x0 false
          else
            W33_4 N x0 x1 n t0 t23 (Go.IntKind.wrap .i64 (t24 + (1 : Int)))
    else
      none
  else
    x1 ()
def L33 (N : Nat) : Loops (Bool × Unit) := fun k ρ K => match Nat.beq k 4 with
  | true => (match adH ρ H33_4.hd with
    | some v => W33_4 N (fun t2 => K .ret (encH [(4, .bo)] (t2, ()))) (fun _ => K (.exit 0) (encH [] ())) N v.1 v.2.1 v.2.2.1
    | none => none)
  | false => none
def F33 (N : Nat) (p0 : ByteArray) : Option (Bool × Unit) :=
  bif ((ByteArray.toList p0) == (ByteArray.toList (strL []))) then
    some (false, ())
  else
    bif decide ((((ByteArray.size p0) : Nat) : Int) > (40 : Int)) then
      some (false, ())
    else
      bif ((decide ((0 : Int) ≤ (0 : Int))) && (decide ((0 : Int) < (((ByteArray.size p0) : Nat) : Int)))) then
        bif decide ((((UInt8.toNat (List.getD (Array.toList (ByteArray.data p0)) (Int.toNat (0 : Int)) (0 : UInt8))) : Nat) : Int) < (97 : Int)) then
          some (false, ())
        else
          bif ((decide ((0 : Int) ≤ (0 : Int))) && (decide ((0 : Int) < (((ByteArray.size p0) : Nat) : Int)))) then
            bif decide ((((UInt8.toNat (List.getD (Array.toList (ByteArray.data p0)) (Int.toNat (0 : Int)) (0 : UInt8))) : Nat) : Int) > (122 : Int)) then
              some (false, ())
            else
              W33_4 N
              (fun t2 =>
                some (t2, ()))
              (fun (_ : Unit) =>
                some (true, ()))
              N p0 (((ByteArray.size p0) : Nat) : Int) (0 : Int)
          else
            none
      else
        none
theorem loops33 (N : Nat) : loopsOk C33 (L33 N) Go.Proofs.Tryd.f33 := ⟨trivial, ⟨⟨trivial, ⟨⟨trivial, trivial⟩, trivial⟩⟩, ⟨⟨trivial, ⟨loopOk_of H33_4 N (fun K n v => W33_4 N (fun t2 => K .ret (encH [(4, .bo)] (t2, ()))) (fun _ => K (.exit 0) (encH [] ())) n v.1 v.2.1 v.2.2.1) (by kernel_rfl) (fun K v => by kernel_rfl) (fun K v => by kernel_rfl) (fun K n v => by kernel_rfl), ⟨trivial, ⟨⟨trivial, trivial⟩, ⟨⟨trivial, ⟨trivial, ⟨trivial, ⟨⟨trivial, trivial⟩, trivial⟩⟩⟩⟩, trivial⟩⟩⟩⟩⟩, ⟨trivial, trivial⟩⟩⟩⟩
theorem runs33 (N : Nat) (x : S33.ta.den) : run C33 S33 (L33 N) Go.Proofs.Tryd.f33 x = F33 N x.1 := by kernel_rfl

/-! ### 26: incognito/value.Right -/
def L26 (_ : Nat) : Loops (Bool × Unit) := fun _ _ _ => none
def F26 (N : Nat) (p0 : Int × Int × ByteArray × Unit) : Option (Bool × Unit) :=
  bif (p0.1 == (0 : Int)) then
    some (((p0.1 == (0 : Int)) && ((p0.2.1 == (0 : Int)) && ((p0.2.2.1 == ByteArray.empty) && true))), ())
  else
    bif (p0.1 == (1 : Int)) then
      some (((ByteArray.toList p0.2.2.1) == (ByteArray.toList (strL []))), ())
    else
      bif (p0.1 == (2 : Int)) then
        bif (p0.2.1 == (0 : Int)) then
          bif (Go.Inc.okS p0.2.2.1) then
            some ((Go.Inc.isWord p0.2.2.1), ())
          else
            none
        else
          some (false, ())
      else
        bif ((p0.1 == (3 : Int)) && ((p0.2.1 == (1 : Int)) && ((p0.2.2.1 == ByteArray.empty) && true))) then
          some (true, ())
        else
          some (((p0.1 == (3 : Int)) && ((p0.2.1 == (0 : Int)) && ((p0.2.2.1 == ByteArray.empty) && true))), ())
theorem loops26 (N : Nat) : loopsOk C26 (L26 N) Go.Proofs.Tryd.f26 := ⟨trivial, ⟨⟨trivial, ⟨trivial, ⟨⟨trivial, trivial⟩, ⟨trivial, ⟨⟨trivial, trivial⟩, ⟨trivial, ⟨⟨trivial, trivial⟩, trivial⟩⟩⟩⟩⟩⟩⟩, ⟨trivial, trivial⟩⟩⟩
theorem runs26 (N : Nat) (x : S26.ta.den) : run C26 S26 (L26 N) Go.Proofs.Tryd.f26 x = F26 N x.1 := by kernel_rfl

/-! ### 9: incognito/sign.Takes -/
def L9 (_ : Nat) : Loops (Bool × Unit) := fun _ _ _ => none
def F9 (N : Nat) (p0 : Int) (p1 : Int × Int × ByteArray × Unit) : Option (Bool × Unit) :=
  bif (Go.Inc.okV (p1.1, (p1.2.1, (p1.2.2.1, ())))) then
    bif (!(Go.Inc.right (p1.1, (p1.2.1, (p1.2.2.1, ()))))) then
      some (false, ())
    else
      bif (p0 == (0 : Int)) then
        bif (p0 == (0 : Int)) then
          bif (p1.1 == (1 : Int)) then
            some (true, ())
          else
            some ((p1.1 == (2 : Int)), ())
        else
          bif (p0 == (5 : Int)) then
            some ((p1.1 == (1 : Int)), ())
          else
            bif (p0 == (6 : Int)) then
              some ((p1.1 == (3 : Int)), ())
            else
              some (false, ())
      else
        bif (p0 == (1 : Int)) then
          bif (p0 == (1 : Int)) then
            bif (p1.1 == (1 : Int)) then
              some (true, ())
            else
              some ((p1.1 == (2 : Int)), ())
          else
            bif (p0 == (5 : Int)) then
              some ((p1.1 == (1 : Int)), ())
            else
              bif (p0 == (6 : Int)) then
              some ((p1.1 == (3 : Int)), ())
            else
              some (false, ())
        else
          bif (p0 == (2 : Int)) then
            bif (p0 == (2 : Int)) then
              bif (p1.1 == (1 : Int)) then
              some (true, ())
            else
              some ((p1.1 == (2 : Int)), ())
            else
              bif (p0 == (5 : Int)) then
              some ((p1.1 == (1 : Int)), ())
            else
              bif (p0 == (6 : Int)) then
              some ((p1.1 == (3 : Int)), ())
            else
              some (false, ())
          else
            bif (p0 == (3 : Int)) then
              bif (p0 == (3 : Int)) then
              bif (p1.1 == (1 : Int)) then
              some (true, ())
            else
              some ((p1.1 == (2 : Int)), ())
            else
              bif (p0 == (5 : Int)) then
              some ((p1.1 == (1 : Int)), ())
            else
              bif (p0 == (6 : Int)) then
              some ((p1.1 == (3 : Int)), ())
            else
              some (false, ())
            else
              bif (p0 == (4 : Int)) then
              bif (p1.1 == (1 : Int)) then
              some (true, ())
            else
              some ((p1.1 == (2 : Int)), ())
            else
              bif (p0 == (5 : Int)) then
              some ((p1.1 == (1 : Int)), ())
            else
              bif (p0 == (6 : Int)) then
              some ((p1.1 == (3 : Int)), ())
            else
              some (false, ())
  else
    none
theorem loops9 (N : Nat) : loopsOk C9 (L9 N) Go.Proofs.Tryd.f9 := ⟨trivial, ⟨⟨trivial, ⟨⟨trivial, trivial⟩, trivial⟩⟩, ⟨⟨trivial, ⟨⟨trivial, ⟨trivial, ⟨trivial, ⟨trivial, ⟨trivial, ⟨trivial, ⟨trivial, ⟨trivial, trivial⟩⟩⟩⟩⟩⟩⟩⟩, ⟨⟨trivial, trivial⟩, ⟨trivial, ⟨⟨trivial, trivial⟩, trivial⟩⟩⟩⟩⟩, ⟨trivial, trivial⟩⟩⟩⟩
theorem runs9 (N : Nat) (x : S9.ta.den) : run C9 S9 (L9 N) Go.Proofs.Tryd.f9 x = F9 N x.1 x.2.1 := by kernel_rfl

/-! ### 10: incognito/incognitoref09.Takes -/
def L10 (_ : Nat) : Loops (Bool × Unit) := fun _ _ _ => none
def F10 (N : Nat) (p0 : Int) (p1 : Int × Int × ByteArray × Unit) : Option (Bool × Unit) :=
  bif decide (p0 ≥ (0 : Int)) then
    bif decide (p0 ≤ (4 : Int)) then
      bif (Go.Inc.okV (p1.1, (p1.2.1, (p1.2.2.1, ())))) then
        some ((Go.Inc.name (p1.1, (p1.2.1, (p1.2.2.1, ())))), ())
      else
        none
    else
      bif (p0 == (5 : Int)) then
        bif (Go.Inc.okV (p1.1, (p1.2.1, (p1.2.2.1, ())))) then
          bif (Go.Inc.right (p1.1, (p1.2.1, (p1.2.2.1, ())))) then
            bif (p1.1 == (1 : Int)) then
              some (true, ())
            else
              bif (p0 == (6 : Int)) then
              bif (Go.Inc.okV (p1.1, (p1.2.1, (p1.2.2.1, ())))) then
              bif (Go.Inc.right (p1.1, (p1.2.1, (p1.2.2.1, ())))) then
              some ((p1.1 == (3 : Int)), ())
            else
              some (false, ())
            else
              none
            else
              some (false, ())
          else
            bif (p0 == (6 : Int)) then
              bif (Go.Inc.okV (p1.1, (p1.2.1, (p1.2.2.1, ())))) then
              bif (Go.Inc.right (p1.1, (p1.2.1, (p1.2.2.1, ())))) then
              some ((p1.1 == (3 : Int)), ())
            else
              some (false, ())
            else
              none
            else
              some (false, ())
        else
          none
      else
        bif (p0 == (6 : Int)) then
          bif (Go.Inc.okV (p1.1, (p1.2.1, (p1.2.2.1, ())))) then
            bif (Go.Inc.right (p1.1, (p1.2.1, (p1.2.2.1, ())))) then
              some ((p1.1 == (3 : Int)), ())
            else
              some (false, ())
          else
            none
        else
          some (false, ())
  else
    bif (p0 == (5 : Int)) then
      bif (Go.Inc.okV (p1.1, (p1.2.1, (p1.2.2.1, ())))) then
        bif (Go.Inc.right (p1.1, (p1.2.1, (p1.2.2.1, ())))) then
          bif (p1.1 == (1 : Int)) then
            some (true, ())
          else
            bif (p0 == (6 : Int)) then
              bif (Go.Inc.okV (p1.1, (p1.2.1, (p1.2.2.1, ())))) then
              bif (Go.Inc.right (p1.1, (p1.2.1, (p1.2.2.1, ())))) then
              some ((p1.1 == (3 : Int)), ())
            else
              some (false, ())
            else
              none
            else
              some (false, ())
        else
          bif (p0 == (6 : Int)) then
            bif (Go.Inc.okV (p1.1, (p1.2.1, (p1.2.2.1, ())))) then
              bif (Go.Inc.right (p1.1, (p1.2.1, (p1.2.2.1, ())))) then
              some ((p1.1 == (3 : Int)), ())
            else
              some (false, ())
            else
              none
          else
            some (false, ())
      else
        none
    else
      bif (p0 == (6 : Int)) then
        bif (Go.Inc.okV (p1.1, (p1.2.1, (p1.2.2.1, ())))) then
          bif (Go.Inc.right (p1.1, (p1.2.1, (p1.2.2.1, ())))) then
            some ((p1.1 == (3 : Int)), ())
          else
            some (false, ())
        else
          none
      else
        some (false, ())
theorem loops10 (N : Nat) : loopsOk C10 (L10 N) Go.Proofs.Tryd.f10 := ⟨trivial, ⟨⟨trivial, ⟨⟨trivial, trivial⟩, trivial⟩⟩, ⟨trivial, trivial⟩⟩⟩
theorem runs10 (N : Nat) (x : S10.ta.den) : run C10 S10 (L10 N) Go.Proofs.Tryd.f10 x = F10 N x.1 x.2.1 := by kernel_rfl

/-! ### 23: incognito/incognitoref09.ModelName -/
def L23 (_ : Nat) : Loops (ByteArray × Unit) := fun _ _ _ => none
def F23 (N : Nat) (p0 : Int) : Option (ByteArray × Unit) :=
  bif (p0 == (1 : Int)) then
    some ((strL [114, 101, 103]), ())
  else
    bif (p0 == (2 : Int)) then
      some ((strL [99, 97, 115]), ())
    else
      bif (p0 == (3 : Int)) then
        some ((strL [115, 101, 116]), ())
      else
        bif (p0 == (4 : Int)) then
          some ((strL [109, 97, 112]), ())
        else
          bif (p0 == (5 : Int)) then
            some ((strL [102, 105, 102, 111]), ())
          else
            bif (p0 == (6 : Int)) then
              some ((strL [115, 116, 97, 99, 107]), ())
            else
              bif (p0 == (7 : Int)) then
              some ((strL [108, 111, 99, 107]), ())
            else
              bif (p0 == (8 : Int)) then
              some ((strL [99, 111, 117, 110, 116]), ())
            else
              bif (p0 == (9 : Int)) then
              some ((strL [109, 97, 120]), ())
            else
              bif (p0 == (10 : Int)) then
              some ((strL [111, 109, 97, 112]), ())
            else
              some ((strL []), ())
theorem loops23 (N : Nat) : loopsOk C23 (L23 N) Go.Proofs.Tryd.f23 := ⟨trivial, ⟨⟨trivial, ⟨trivial, ⟨⟨trivial, trivial⟩, ⟨trivial, ⟨⟨trivial, trivial⟩, ⟨trivial, ⟨⟨trivial, trivial⟩, ⟨trivial, ⟨⟨trivial, trivial⟩, ⟨trivial, ⟨⟨trivial, trivial⟩, ⟨trivial, ⟨⟨trivial, trivial⟩, ⟨trivial, ⟨⟨trivial, trivial⟩, ⟨trivial, ⟨⟨trivial, trivial⟩, ⟨trivial, ⟨⟨trivial, trivial⟩, ⟨trivial, ⟨⟨trivial, trivial⟩, trivial⟩⟩⟩⟩⟩⟩⟩⟩⟩⟩⟩⟩⟩⟩⟩⟩⟩⟩⟩⟩⟩, ⟨trivial, trivial⟩⟩⟩
theorem runs23 (N : Nat) (x : S23.ta.den) : run C23 S23 (L23 N) Go.Proofs.Tryd.f23 x = F23 N x.1 := by kernel_rfl

/-! ### 25: incognito/incognitoref09.OpName -/
def L25 (_ : Nat) : Loops (ByteArray × Unit) := fun _ _ _ => none
def F25 (N : Nat) (p0 : Int) : Option (ByteArray × Unit) :=
  bif (p0 == (1 : Int)) then
    some ((strL [119, 114, 105, 116, 101]), ())
  else
    bif (p0 == (2 : Int)) then
      some ((strL [114, 101, 97, 100]), ())
    else
      bif (p0 == (3 : Int)) then
        some ((strL [115, 119, 97, 112]), ())
      else
        bif (p0 == (4 : Int)) then
          some ((strL [97, 100, 100]), ())
        else
          bif (p0 == (5 : Int)) then
            some ((strL [100, 101, 108]), ())
          else
            bif (p0 == (6 : Int)) then
              some ((strL [104, 97, 115]), ())
            else
              bif (p0 == (7 : Int)) then
              some ((strL [112, 117, 116]), ())
            else
              bif (p0 == (8 : Int)) then
              some ((strL [103, 101, 116]), ())
            else
              bif (p0 == (9 : Int)) then
              some ((strL [112, 117, 115, 104]), ())
            else
              bif (p0 == (10 : Int)) then
              some ((strL [112, 111, 112]), ())
            else
              bif (p0 == (11 : Int)) then
              some ((strL [116, 97, 107, 101]), ())
            else
              bif (p0 == (12 : Int)) then
              some ((strL [102, 114, 101, 101]), ())
            else
              bif (p0 == (13 : Int)) then
              some ((strL [115, 99, 97, 110]), ())
            else
              some ((strL []), ())
theorem loops25 (N : Nat) : loopsOk C25 (L25 N) Go.Proofs.Tryd.f25 := ⟨trivial, ⟨⟨trivial, ⟨trivial, ⟨⟨trivial, trivial⟩, ⟨trivial, ⟨⟨trivial, trivial⟩, ⟨trivial, ⟨⟨trivial, trivial⟩, ⟨trivial, ⟨⟨trivial, trivial⟩, ⟨trivial, ⟨⟨trivial, trivial⟩, ⟨trivial, ⟨⟨trivial, trivial⟩, ⟨trivial, ⟨⟨trivial, trivial⟩, ⟨trivial, ⟨⟨trivial, trivial⟩, ⟨trivial, ⟨⟨trivial, trivial⟩, ⟨trivial, ⟨⟨trivial, trivial⟩, ⟨trivial, ⟨⟨trivial, trivial⟩, ⟨trivial, ⟨⟨trivial, trivial⟩, ⟨trivial, ⟨⟨trivial, trivial⟩, trivial⟩⟩⟩⟩⟩⟩⟩⟩⟩⟩⟩⟩⟩⟩⟩⟩⟩⟩⟩⟩⟩⟩⟩⟩⟩⟩⟩, ⟨trivial, trivial⟩⟩⟩
theorem runs25 (N : Nat) (x : S25.ta.den) : run C25 S25 (L25 N) Go.Proofs.Tryd.f25 x = F25 N x.1 := by kernel_rfl

/-! ### 12: incognito/incognitoref09.Find -/
def L12 (_ : Nat) : Loops (((List Int) × Int × Bool × Bool × Unit) × Unit) := fun _ _ _ => none
def F12q (q : Int → Int → List UInt8 → Bool) (p0 : Int) (p1 : Int) : Option (((List Int) × Int × Bool × Bool × Unit) × Unit) :=
  bif decide (((ByteArray.size (Go.Inc.modelName p0)) + (ByteArray.size (strL [32]))) ≤ 140737488355328) then
    bif decide (((ByteArray.size ((Go.Inc.modelName p0) ++ (strL [32]))) + (ByteArray.size (Go.Inc.opName p1))) ≤ 140737488355328) then
      bif q p0 p1 [114, 101, 103, 32, 119, 114, 105, 116, 101] then
        bif q p0 p1 [114, 101, 103, 32, 119, 114, 105, 116, 101] then
          some ((((2 : Int) :: ([] : List Int)), ((-(1 : Int)), (false, (true, ())))), ())
        else
          bif q p0 p1 [114, 101, 103, 32, 114, 101, 97, 100] then
            bif q p0 p1 [114, 101, 103, 32, 114, 101, 97, 100] then
              some ((([] : List Int), ((2 : Int), (true, (true, ())))), ())
            else
              bif q p0 p1 [99, 97, 115, 32, 115, 119, 97, 112] then
              some ((((2 : Int) :: ((2 : Int) :: ([] : List Int))), ((6 : Int), (false, (true, ())))), ())
            else
              bif q p0 p1 [115, 101, 116, 32, 104, 97, 115] then
              some ((((2 : Int) :: ([] : List Int)), ((6 : Int), (false, (true, ())))), ())
            else
              bif q p0 p1 [109, 97, 112, 32, 112, 117, 116] then
              some ((((3 : Int) :: ((2 : Int) :: ([] : List Int))), ((-(1 : Int)), (false, (true, ())))), ())
            else
              bif q p0 p1 [109, 97, 112, 32, 103, 101, 116] then
              some ((((3 : Int) :: ([] : List Int)), ((2 : Int), (true, (true, ())))), ())
            else
              bif q p0 p1 [109, 97, 112, 32, 100, 101, 108] then
              some ((((3 : Int) :: ([] : List Int)), ((-(1 : Int)), (false, (true, ())))), ())
            else
              bif q p0 p1 [108, 111, 99, 107, 32, 116, 97, 107, 101] then
              bif q p0 p1 [108, 111, 99, 107, 32, 116, 97, 107, 101] then
              some ((([] : List Int), ((6 : Int), (false, (true, ())))), ())
            else
              bif q p0 p1 [99, 111, 117, 110, 116, 32, 97, 100, 100] then
              some ((((5 : Int) :: ([] : List Int)), ((-(1 : Int)), (false, (true, ())))), ())
            else
              bif q p0 p1 [99, 111, 117, 110, 116, 32, 114, 101, 97, 100] then
              some ((([] : List Int), ((5 : Int), (false, (true, ())))), ())
            else
              bif q p0 p1 [109, 97, 120, 32, 119, 114, 105, 116, 101] then
              bif q p0 p1 [109, 97, 120, 32, 119, 114, 105, 116, 101] then
              some ((((4 : Int) :: ([] : List Int)), ((-(1 : Int)), (false, (true, ())))), ())
            else
              bif q p0 p1 [109, 97, 120, 32, 114, 101, 97, 100] then
              some ((([] : List Int), ((4 : Int), (true, (true, ())))), ())
            else
              bif q p0 p1 [111, 109, 97, 112, 32, 112, 117, 116] then
              some ((((4 : Int) :: ((2 : Int) :: ([] : List Int))), ((-(1 : Int)), (false, (true, ())))), ())
            else
              bif q p0 p1 [111, 109, 97, 112, 32, 115, 99, 97, 110] then
              some ((((4 : Int) :: ((4 : Int) :: ([] : List Int))), ((99 : Int), (false, (true, ())))), ())
            else
              some ((([] : List Int), ((0 : Int), (false, (false, ())))), ())
            else
              bif q p0 p1 [111, 109, 97, 112, 32, 100, 101, 108] then
              some ((((4 : Int) :: ([] : List Int)), ((-(1 : Int)), (false, (true, ())))), ())
            else
              bif q p0 p1 [109, 97, 120, 32, 114, 101, 97, 100] then
              some ((([] : List Int), ((4 : Int), (true, (true, ())))), ())
            else
              bif q p0 p1 [111, 109, 97, 112, 32, 112, 117, 116] then
              some ((((4 : Int) :: ((2 : Int) :: ([] : List Int))), ((-(1 : Int)), (false, (true, ())))), ())
            else
              bif q p0 p1 [111, 109, 97, 112, 32, 115, 99, 97, 110] then
              some ((((4 : Int) :: ((4 : Int) :: ([] : List Int))), ((99 : Int), (false, (true, ())))), ())
            else
              some ((([] : List Int), ((0 : Int), (false, (false, ())))), ())
            else
              bif q p0 p1 [108, 111, 99, 107, 32, 102, 114, 101, 101] then
              some ((([] : List Int), ((6 : Int), (false, (true, ())))), ())
            else
              bif q p0 p1 [99, 111, 117, 110, 116, 32, 97, 100, 100] then
              some ((((5 : Int) :: ([] : List Int)), ((-(1 : Int)), (false, (true, ())))), ())
            else
              bif q p0 p1 [99, 111, 117, 110, 116, 32, 114, 101, 97, 100] then
              some ((([] : List Int), ((5 : Int), (false, (true, ())))), ())
            else
              bif q p0 p1 [109, 97, 120, 32, 119, 114, 105, 116, 101] then
              bif q p0 p1 [109, 97, 120, 32, 119, 114, 105, 116, 101] then
              some ((((4 : Int) :: ([] : List Int)), ((-(1 : Int)), (false, (true, ())))), ())
            else
              bif q p0 p1 [109, 97, 120, 32, 114, 101, 97, 100] then
              some ((([] : List Int), ((4 : Int), (true, (true, ())))), ())
            else
              bif q p0 p1 [111, 109, 97, 112, 32, 112, 117, 116] then
              some ((((4 : Int) :: ((2 : Int) :: ([] : List Int))), ((-(1 : Int)), (false, (true, ())))), ())
            else
              bif q p0 p1 [111, 109, 97, 112, 32, 115, 99, 97, 110] then
              some ((((4 : Int) :: ((4 : Int) :: ([] : List Int))), ((99 : Int), (false, (true, ())))), ())
            else
              some ((([] : List Int), ((0 : Int), (false, (false, ())))), ())
            else
              bif q p0 p1 [111, 109, 97, 112, 32, 100, 101, 108] then
              some ((((4 : Int) :: ([] : List Int)), ((-(1 : Int)), (false, (true, ())))), ())
            else
              bif q p0 p1 [109, 97, 120, 32, 114, 101, 97, 100] then
              some ((([] : List Int), ((4 : Int), (true, (true, ())))), ())
            else
              bif q p0 p1 [111, 109, 97, 112, 32, 112, 117, 116] then
              some ((((4 : Int) :: ((2 : Int) :: ([] : List Int))), ((-(1 : Int)), (false, (true, ())))), ())
            else
              bif q p0 p1 [111, 109, 97, 112, 32, 115, 99, 97, 110] then
              some ((((4 : Int) :: ((4 : Int) :: ([] : List Int))), ((99 : Int), (false, (true, ())))), ())
            else
              some ((([] : List Int), ((0 : Int), (false, (false, ())))), ())
          else
            bif q p0 p1 [99, 97, 115, 32, 114, 101, 97, 100] then
              bif q p0 p1 [99, 97, 115, 32, 114, 101, 97, 100] then
              some ((([] : List Int), ((2 : Int), (true, (true, ())))), ())
            else
              bif q p0 p1 [99, 97, 115, 32, 115, 119, 97, 112] then
              some ((((2 : Int) :: ((2 : Int) :: ([] : List Int))), ((6 : Int), (false, (true, ())))), ())
            else
              bif q p0 p1 [115, 101, 116, 32, 104, 97, 115] then
              some ((((2 : Int) :: ([] : List Int)), ((6 : Int), (false, (true, ())))), ())
            else
              bif q p0 p1 [109, 97, 112, 32, 112, 117, 116] then
              some ((((3 : Int) :: ((2 : Int) :: ([] : List Int))), ((-(1 : Int)), (false, (true, ())))), ())
            else
              bif q p0 p1 [109, 97, 112, 32, 103, 101, 116] then
              some ((((3 : Int) :: ([] : List Int)), ((2 : Int), (true, (true, ())))), ())
            else
              bif q p0 p1 [109, 97, 112, 32, 100, 101, 108] then
              some ((((3 : Int) :: ([] : List Int)), ((-(1 : Int)), (false, (true, ())))), ())
            else
              bif q p0 p1 [108, 111, 99, 107, 32, 116, 97, 107, 101] then
              bif q p0 p1 [108, 111, 99, 107, 32, 116, 97, 107, 101] then
              some ((([] : List Int), ((6 : Int), (false, (true, ())))), ())
            else
              bif q p0 p1 [99, 111, 117, 110, 116, 32, 97, 100, 100] then
              some ((((5 : Int) :: ([] : List Int)), ((-(1 : Int)), (false, (true, ())))), ())
            else
              bif q p0 p1 [99, 111, 117, 110, 116, 32, 114, 101, 97, 100] then
              some ((([] : List Int), ((5 : Int), (false, (true, ())))), ())
            else
              bif q p0 p1 [109, 97, 120, 32, 119, 114, 105, 116, 101] then
              bif q p0 p1 [109, 97, 120, 32, 119, 114, 105, 116, 101] then
              some ((((4 : Int) :: ([] : List Int)), ((-(1 : Int)), (false, (true, ())))), ())
            else
              bif q p0 p1 [109, 97, 120, 32, 114, 101, 97, 100] then
              some ((([] : List Int), ((4 : Int), (true, (true, ())))), ())
            else
              bif q p0 p1 [111, 109, 97, 112, 32, 112, 117, 116] then
              some ((((4 : Int) :: ((2 : Int) :: ([] : List Int))), ((-(1 : Int)), (false, (true, ())))), ())
            else
              bif q p0 p1 [111, 109, 97, 112, 32, 115, 99, 97, 110] then
              some ((((4 : Int) :: ((4 : Int) :: ([] : List Int))), ((99 : Int), (false, (true, ())))), ())
            else
              some ((([] : List Int), ((0 : Int), (false, (false, ())))), ())
            else
              bif q p0 p1 [111, 109, 97, 112, 32, 100, 101, 108] then
              some ((((4 : Int) :: ([] : List Int)), ((-(1 : Int)), (false, (true, ())))), ())
            else
              bif q p0 p1 [109, 97, 120, 32, 114, 101, 97, 100] then
              some ((([] : List Int), ((4 : Int), (true, (true, ())))), ())
            else
              bif q p0 p1 [111, 109, 97, 112, 32, 112, 117, 116] then
              some ((((4 : Int) :: ((2 : Int) :: ([] : List Int))), ((-(1 : Int)), (false, (true, ())))), ())
            else
              bif q p0 p1 [111, 109, 97, 112, 32, 115, 99, 97, 110] then
              some ((((4 : Int) :: ((4 : Int) :: ([] : List Int))), ((99 : Int), (false, (true, ())))), ())
            else
              some ((([] : List Int), ((0 : Int), (false, (false, ())))), ())
            else
              bif q p0 p1 [108, 111, 99, 107, 32, 102, 114, 101, 101] then
              some ((([] : List Int), ((6 : Int), (false, (true, ())))), ())
            else
              bif q p0 p1 [99, 111, 117, 110, 116, 32, 97, 100, 100] then
              some ((((5 : Int) :: ([] : List Int)), ((-(1 : Int)), (false, (true, ())))), ())
            else
              bif q p0 p1 [99, 111, 117, 110, 116, 32, 114, 101, 97, 100] then
              some ((([] : List Int), ((5 : Int), (false, (true, ())))), ())
            else
              bif q p0 p1 [109, 97, 120, 32, 119, 114, 105, 116, 101] then
              bif q p0 p1 [109, 97, 120, 32, 119, 114, 105, 116, 101] then
              some ((((4 : Int) :: ([] : List Int)), ((-(1 : Int)), (false, (true, ())))), ())
            else
              bif q p0 p1 [109, 97, 120, 32, 114, 101, 97, 100] then
              some ((([] : List Int), ((4 : Int), (true, (true, ())))), ())
            else
              bif q p0 p1 [111, 109, 97, 112, 32, 112, 117, 116] then
              some ((((4 : Int) :: ((2 : Int) :: ([] : List Int))), ((-(1 : Int)), (false, (true, ())))), ())
            else
              bif q p0 p1 [111, 109, 97, 112, 32, 115, 99, 97, 110] then
              some ((((4 : Int) :: ((4 : Int) :: ([] : List Int))), ((99 : Int), (false, (true, ())))), ())
            else
              some ((([] : List Int), ((0 : Int), (false, (false, ())))), ())
            else
              bif q p0 p1 [111, 109, 97, 112, 32, 100, 101, 108] then
              some ((((4 : Int) :: ([] : List Int)), ((-(1 : Int)), (false, (true, ())))), ())
            else
              bif q p0 p1 [109, 97, 120, 32, 114, 101, 97, 100] then
              some ((([] : List Int), ((4 : Int), (true, (true, ())))), ())
            else
              bif q p0 p1 [111, 109, 97, 112, 32, 112, 117, 116] then
              some ((((4 : Int) :: ((2 : Int) :: ([] : List Int))), ((-(1 : Int)), (false, (true, ())))), ())
            else
              bif q p0 p1 [111, 109, 97, 112, 32, 115, 99, 97, 110] then
              some ((((4 : Int) :: ((4 : Int) :: ([] : List Int))), ((99 : Int), (false, (true, ())))), ())
            else
              some ((([] : List Int), ((0 : Int), (false, (false, ())))), ())
            else
              bif q p0 p1 [102, 105, 102, 111, 32, 112, 111, 112] then
              bif q p0 p1 [102, 105, 102, 111, 32, 112, 111, 112] then
              some ((([] : List Int), ((2 : Int), (true, (true, ())))), ())
            else
              bif q p0 p1 [99, 97, 115, 32, 115, 119, 97, 112] then
              some ((((2 : Int) :: ((2 : Int) :: ([] : List Int))), ((6 : Int), (false, (true, ())))), ())
            else
              bif q p0 p1 [115, 101, 116, 32, 104, 97, 115] then
              some ((((2 : Int) :: ([] : List Int)), ((6 : Int), (false, (true, ())))), ())
            else
              bif q p0 p1 [109, 97, 112, 32, 112, 117, 116] then
              some ((((3 : Int) :: ((2 : Int) :: ([] : List Int))), ((-(1 : Int)), (false, (true, ())))), ())
            else
              bif q p0 p1 [109, 97, 112, 32, 103, 101, 116] then
              some ((((3 : Int) :: ([] : List Int)), ((2 : Int), (true, (true, ())))), ())
            else
              bif q p0 p1 [109, 97, 112, 32, 100, 101, 108] then
              some ((((3 : Int) :: ([] : List Int)), ((-(1 : Int)), (false, (true, ())))), ())
            else
              bif q p0 p1 [108, 111, 99, 107, 32, 116, 97, 107, 101] then
              bif q p0 p1 [108, 111, 99, 107, 32, 116, 97, 107, 101] then
              some ((([] : List Int), ((6 : Int), (false, (true, ())))), ())
            else
              bif q p0 p1 [99, 111, 117, 110, 116, 32, 97, 100, 100] then
              some ((((5 : Int) :: ([] : List Int)), ((-(1 : Int)), (false, (true, ())))), ())
            else
              bif q p0 p1 [99, 111, 117, 110, 116, 32, 114, 101, 97, 100] then
              some ((([] : List Int), ((5 : Int), (false, (true, ())))), ())
            else
              bif q p0 p1 [109, 97, 120, 32, 119, 114, 105, 116, 101] then
              bif q p0 p1 [109, 97, 120, 32, 119, 114, 105, 116, 101] then
              some ((((4 : Int) :: ([] : List Int)), ((-(1 : Int)), (false, (true, ())))), ())
            else
              bif q p0 p1 [109, 97, 120, 32, 114, 101, 97, 100] then
              some ((([] : List Int), ((4 : Int), (true, (true, ())))), ())
            else
              bif q p0 p1 [111, 109, 97, 112, 32, 112, 117, 116] then
              some ((((4 : Int) :: ((2 : Int) :: ([] : List Int))), ((-(1 : Int)), (false, (true, ())))), ())
            else
              bif q p0 p1 [111, 109, 97, 112, 32, 115, 99, 97, 110] then
              some ((((4 : Int) :: ((4 : Int) :: ([] : List Int))), ((99 : Int), (false, (true, ())))), ())
            else
              some ((([] : List Int), ((0 : Int), (false, (false, ())))), ())
            else
              bif q p0 p1 [111, 109, 97, 112, 32, 100, 101, 108] then
              some ((((4 : Int) :: ([] : List Int)), ((-(1 : Int)), (false, (true, ())))), ())
            else
              bif q p0 p1 [109, 97, 120, 32, 114, 101, 97, 100] then
              some ((([] : List Int), ((4 : Int), (true, (true, ())))), ())
            else
              bif q p0 p1 [111, 109, 97, 112, 32, 112, 117, 116] then
              some ((((4 : Int) :: ((2 : Int) :: ([] : List Int))), ((-(1 : Int)), (false, (true, ())))), ())
            else
              bif q p0 p1 [111, 109, 97, 112, 32, 115, 99, 97, 110] then
              some ((((4 : Int) :: ((4 : Int) :: ([] : List Int))), ((99 : Int), (false, (true, ())))), ())
            else
              some ((([] : List Int), ((0 : Int), (false, (false, ())))), ())
            else
              bif q p0 p1 [108, 111, 99, 107, 32, 102, 114, 101, 101] then
              some ((([] : List Int), ((6 : Int), (false, (true, ())))), ())
            else
              bif q p0 p1 [99, 111, 117, 110, 116, 32, 97, 100, 100] then
              some ((((5 : Int) :: ([] : List Int)), ((-(1 : Int)), (false, (true, ())))), ())
            else
              bif q p0 p1 [99, 111, 117, 110, 116, 32, 114, 101, 97, 100] then
              some ((([] : List Int), ((5 : Int), (false, (true, ())))), ())
            else
              bif q p0 p1 [109, 97, 120, 32, 119, 114, 105, 116, 101] then
              bif q p0 p1 [109, 97, 120, 32, 119, 114, 105, 116, 101] then
              some ((((4 : Int) :: ([] : List Int)), ((-(1 : Int)), (false, (true, ())))), ())
            else
              bif q p0 p1 [109, 97, 120, 32, 114, 101, 97, 100] then
              some ((([] : List Int), ((4 : Int), (true, (true, ())))), ())
            else
              bif q p0 p1 [111, 109, 97, 112, 32, 112, 117, 116] then
              some ((((4 : Int) :: ((2 : Int) :: ([] : List Int))), ((-(1 : Int)), (false, (true, ())))), ())
            else
              bif q p0 p1 [111, 109, 97, 112, 32, 115, 99, 97, 110] then
              some ((((4 : Int) :: ((4 : Int) :: ([] : List Int))), ((99 : Int), (false, (true, ())))), ())
            else
              some ((([] : List Int), ((0 : Int), (false, (false, ())))), ())
            else
              bif q p0 p1 [111, 109, 97, 112, 32, 100, 101, 108] then
              some ((((4 : Int) :: ([] : List Int)), ((-(1 : Int)), (false, (true, ())))), ())
            else
              bif q p0 p1 [109, 97, 120, 32, 114, 101, 97, 100] then
              some ((([] : List Int), ((4 : Int), (true, (true, ())))), ())
            else
              bif q p0 p1 [111, 109, 97, 112, 32, 112, 117, 116] then
              some ((((4 : Int) :: ((2 : Int) :: ([] : List Int))), ((-(1 : Int)), (false, (true, ())))), ())
            else
              bif q p0 p1 [111, 109, 97, 112, 32, 115, 99, 97, 110] then
              some ((((4 : Int) :: ((4 : Int) :: ([] : List Int))), ((99 : Int), (false, (true, ())))), ())
            else
              some ((([] : List Int), ((0 : Int), (false, (false, ())))), ())
            else
              bif q p0 p1 [115, 116, 97, 99, 107, 32, 112, 111, 112] then
              some ((([] : List Int), ((2 : Int), (true, (true, ())))), ())
            else
              bif q p0 p1 [99, 97, 115, 32, 115, 119, 97, 112] then
              some ((((2 : Int) :: ((2 : Int) :: ([] : List Int))), ((6 : Int), (false, (true, ())))), ())
            else
              bif q p0 p1 [115, 101, 116, 32, 104, 97, 115] then
              some ((((2 : Int) :: ([] : List Int)), ((6 : Int), (false, (true, ())))), ())
            else
              bif q p0 p1 [109, 97, 112, 32, 112, 117, 116] then
              some ((((3 : Int) :: ((2 : Int) :: ([] : List Int))), ((-(1 : Int)), (false, (true, ())))), ())
            else
              bif q p0 p1 [109, 97, 112, 32, 103, 101, 116] then
              some ((((3 : Int) :: ([] : List Int)), ((2 : Int), (true, (true, ())))), ())
            else
              bif q p0 p1 [109, 97, 112, 32, 100, 101, 108] then
              some ((((3 : Int) :: ([] : List Int)), ((-(1 : Int)), (false, (true, ())))), ())
            else
              bif q p0 p1 [108, 111, 99, 107, 32, 116, 97, 107, 101] then
              bif q p0 p1 [108, 111, 99, 107, 32, 116, 97, 107, 101] then
              some ((([] : List Int), ((6 : Int), (false, (true, ())))), ())
            else
              bif q p0 p1 [99, 111, 117, 110, 116, 32, 97, 100, 100] then
              some ((((5 : Int) :: ([] : List Int)), ((-(1 : Int)), (false, (true, ())))), ())
            else
              bif q p0 p1 [99, 111, 117, 110, 116, 32, 114, 101, 97, 100] then
              some ((([] : List Int), ((5 : Int), (false, (true, ())))), ())
            else
              bif q p0 p1 [109, 97, 120, 32, 119, 114, 105, 116, 101] then
              bif q p0 p1 [109, 97, 120, 32, 119, 114, 105, 116, 101] then
              some ((((4 : Int) :: ([] : List Int)), ((-(1 : Int)), (false, (true, ())))), ())
            else
              bif q p0 p1 [109, 97, 120, 32, 114, 101, 97, 100] then
              some ((([] : List Int), ((4 : Int), (true, (true, ())))), ())
            else
              bif q p0 p1 [111, 109, 97, 112, 32, 112, 117, 116] then
              some ((((4 : Int) :: ((2 : Int) :: ([] : List Int))), ((-(1 : Int)), (false, (true, ())))), ())
            else
              bif q p0 p1 [111, 109, 97, 112, 32, 115, 99, 97, 110] then
              some ((((4 : Int) :: ((4 : Int) :: ([] : List Int))), ((99 : Int), (false, (true, ())))), ())
            else
              some ((([] : List Int), ((0 : Int), (false, (false, ())))), ())
            else
              bif q p0 p1 [111, 109, 97, 112, 32, 100, 101, 108] then
              some ((((4 : Int) :: ([] : List Int)), ((-(1 : Int)), (false, (true, ())))), ())
            else
              bif q p0 p1 [109, 97, 120, 32, 114, 101, 97, 100] then
              some ((([] : List Int), ((4 : Int), (true, (true, ())))), ())
            else
              bif q p0 p1 [111, 109, 97, 112, 32, 112, 117, 116] then
              some ((((4 : Int) :: ((2 : Int) :: ([] : List Int))), ((-(1 : Int)), (false, (true, ())))), ())
            else
              bif q p0 p1 [111, 109, 97, 112, 32, 115, 99, 97, 110] then
              some ((((4 : Int) :: ((4 : Int) :: ([] : List Int))), ((99 : Int), (false, (true, ())))), ())
            else
              some ((([] : List Int), ((0 : Int), (false, (false, ())))), ())
            else
              bif q p0 p1 [108, 111, 99, 107, 32, 102, 114, 101, 101] then
              some ((([] : List Int), ((6 : Int), (false, (true, ())))), ())
            else
              bif q p0 p1 [99, 111, 117, 110, 116, 32, 97, 100, 100] then
              some ((((5 : Int) :: ([] : List Int)), ((-(1 : Int)), (false, (true, ())))), ())
            else
              bif q p0 p1 [99, 111, 117, 110, 116, 32, 114, 101, 97, 100] then
              some ((([] : List Int), ((5 : Int), (false, (true, ())))), ())
            else
              bif q p0 p1 [109, 97, 120, 32, 119, 114, 105, 116, 101] then
              bif q p0 p1 [109, 97, 120, 32, 119, 114, 105, 116, 101] then
              some ((((4 : Int) :: ([] : List Int)), ((-(1 : Int)), (false, (true, ())))), ())
            else
              bif q p0 p1 [109, 97, 120, 32, 114, 101, 97, 100] then
              some ((([] : List Int), ((4 : Int), (true, (true, ())))), ())
            else
              bif q p0 p1 [111, 109, 97, 112, 32, 112, 117, 116] then
              some ((((4 : Int) :: ((2 : Int) :: ([] : List Int))), ((-(1 : Int)), (false, (true, ())))), ())
            else
              bif q p0 p1 [111, 109, 97, 112, 32, 115, 99, 97, 110] then
              some ((((4 : Int) :: ((4 : Int) :: ([] : List Int))), ((99 : Int), (false, (true, ())))), ())
            else
              some ((([] : List Int), ((0 : Int), (false, (false, ())))), ())
            else
              bif q p0 p1 [111, 109, 97, 112, 32, 100, 101, 108] then
              some ((((4 : Int) :: ([] : List Int)), ((-(1 : Int)), (false, (true, ())))), ())
            else
              bif q p0 p1 [109, 97, 120, 32, 114, 101, 97, 100] then
              some ((([] : List Int), ((4 : Int), (true, (true, ())))), ())
            else
              bif q p0 p1 [111, 109, 97, 112, 32, 112, 117, 116] then
              some ((((4 : Int) :: ((2 : Int) :: ([] : List Int))), ((-(1 : Int)), (false, (true, ())))), ())
            else
              bif q p0 p1 [111, 109, 97, 112, 32, 115, 99, 97, 110] then
              some ((((4 : Int) :: ((4 : Int) :: ([] : List Int))), ((99 : Int), (false, (true, ())))), ())
            else
              some ((([] : List Int), ((0 : Int), (false, (false, ())))), ())
      else
        bif q p0 p1 [99, 97, 115, 32, 119, 114, 105, 116, 101] then
          bif q p0 p1 [99, 97, 115, 32, 119, 114, 105, 116, 101] then
            some ((((2 : Int) :: ([] : List Int)), ((-(1 : Int)), (false, (true, ())))), ())
          else
            bif q p0 p1 [114, 101, 103, 32, 114, 101, 97, 100] then
              bif q p0 p1 [114, 101, 103, 32, 114, 101, 97, 100] then
              some ((([] : List Int), ((2 : Int), (true, (true, ())))), ())
            else
              bif q p0 p1 [99, 97, 115, 32, 115, 119, 97, 112] then
              some ((((2 : Int) :: ((2 : Int) :: ([] : List Int))), ((6 : Int), (false, (true, ())))), ())
            else
              bif q p0 p1 [115, 101, 116, 32, 104, 97, 115] then
              some ((((2 : Int) :: ([] : List Int)), ((6 : Int), (false, (true, ())))), ())
            else
              bif q p0 p1 [109, 97, 112, 32, 112, 117, 116] then
              some ((((3 : Int) :: ((2 : Int) :: ([] : List Int))), ((-(1 : Int)), (false, (true, ())))), ())
            else
              bif q p0 p1 [109, 97, 112, 32, 103, 101, 116] then
              some ((((3 : Int) :: ([] : List Int)), ((2 : Int), (true, (true, ())))), ())
            else
              bif q p0 p1 [109, 97, 112, 32, 100, 101, 108] then
              some ((((3 : Int) :: ([] : List Int)), ((-(1 : Int)), (false, (true, ())))), ())
            else
              bif q p0 p1 [108, 111, 99, 107, 32, 116, 97, 107, 101] then
              bif q p0 p1 [108, 111, 99, 107, 32, 116, 97, 107, 101] then
              some ((([] : List Int), ((6 : Int), (false, (true, ())))), ())
            else
              bif q p0 p1 [99, 111, 117, 110, 116, 32, 97, 100, 100] then
              some ((((5 : Int) :: ([] : List Int)), ((-(1 : Int)), (false, (true, ())))), ())
            else
              bif q p0 p1 [99, 111, 117, 110, 116, 32, 114, 101, 97, 100] then
              some ((([] : List Int), ((5 : Int), (false, (true, ())))), ())
            else
              bif q p0 p1 [109, 97, 120, 32, 119, 114, 105, 116, 101] then
              bif q p0 p1 [109, 97, 120, 32, 119, 114, 105, 116, 101] then
              some ((((4 : Int) :: ([] : List Int)), ((-(1 : Int)), (false, (true, ())))), ())
            else
              bif q p0 p1 [109, 97, 120, 32, 114, 101, 97, 100] then
              some ((([] : List Int), ((4 : Int), (true, (true, ())))), ())
            else
              bif q p0 p1 [111, 109, 97, 112, 32, 112, 117, 116] then
              some ((((4 : Int) :: ((2 : Int) :: ([] : List Int))), ((-(1 : Int)), (false, (true, ())))), ())
            else
              bif q p0 p1 [111, 109, 97, 112, 32, 115, 99, 97, 110] then
              some ((((4 : Int) :: ((4 : Int) :: ([] : List Int))), ((99 : Int), (false, (true, ())))), ())
            else
              some ((([] : List Int), ((0 : Int), (false, (false, ())))), ())
            else
              bif q p0 p1 [111, 109, 97, 112, 32, 100, 101, 108] then
              some ((((4 : Int) :: ([] : List Int)), ((-(1 : Int)), (false, (true, ())))), ())
            else
              bif q p0 p1 [109, 97, 120, 32, 114, 101, 97, 100] then
              some ((([] : List Int), ((4 : Int), (true, (true, ())))), ())
            else
              bif q p0 p1 [111, 109, 97, 112, 32, 112, 117, 116] then
              some ((((4 : Int) :: ((2 : Int) :: ([] : List Int))), ((-(1 : Int)), (false, (true, ())))), ())
            else
              bif q p0 p1 [111, 109, 97, 112, 32, 115, 99, 97, 110] then
              some ((((4 : Int) :: ((4 : Int) :: ([] : List Int))), ((99 : Int), (false, (true, ())))), ())
            else
              some ((([] : List Int), ((0 : Int), (false, (false, ())))), ())
            else
              bif q p0 p1 [108, 111, 99, 107, 32, 102, 114, 101, 101] then
              some ((([] : List Int), ((6 : Int), (false, (true, ())))), ())
            else
              bif q p0 p1 [99, 111, 117, 110, 116, 32, 97, 100, 100] then
              some ((((5 : Int) :: ([] : List Int)), ((-(1 : Int)), (false, (true, ())))), ())
            else
              bif q p0 p1 [99, 111, 117, 110, 116, 32, 114, 101, 97, 100] then
              some ((([] : List Int), ((5 : Int), (false, (true, ())))), ())
            else
              bif q p0 p1 [109, 97, 120, 32, 119, 114, 105, 116, 101] then
              bif q p0 p1 [109, 97, 120, 32, 119, 114, 105, 116, 101] then
              some ((((4 : Int) :: ([] : List Int)), ((-(1 : Int)), (false, (true, ())))), ())
            else
              bif q p0 p1 [109, 97, 120, 32, 114, 101, 97, 100] then
              some ((([] : List Int), ((4 : Int), (true, (true, ())))), ())
            else
              bif q p0 p1 [111, 109, 97, 112, 32, 112, 117, 116] then
              some ((((4 : Int) :: ((2 : Int) :: ([] : List Int))), ((-(1 : Int)), (false, (true, ())))), ())
            else
              bif q p0 p1 [111, 109, 97, 112, 32, 115, 99, 97, 110] then
              some ((((4 : Int) :: ((4 : Int) :: ([] : List Int))), ((99 : Int), (false, (true, ())))), ())
            else
              some ((([] : List Int), ((0 : Int), (false, (false, ())))), ())
            else
              bif q p0 p1 [111, 109, 97, 112, 32, 100, 101, 108] then
              some ((((4 : Int) :: ([] : List Int)), ((-(1 : Int)), (false, (true, ())))), ())
            else
              bif q p0 p1 [109, 97, 120, 32, 114, 101, 97, 100] then
              some ((([] : List Int), ((4 : Int), (true, (true, ())))), ())
            else
              bif q p0 p1 [111, 109, 97, 112, 32, 112, 117, 116] then
              some ((((4 : Int) :: ((2 : Int) :: ([] : List Int))), ((-(1 : Int)), (false, (true, ())))), ())
            else
              bif q p0 p1 [111, 109, 97, 112, 32, 115, 99, 97, 110] then
              some ((((4 : Int) :: ((4 : Int) :: ([] : List Int))), ((99 : Int), (false, (true, ())))), ())
            else
              some ((([] : List Int), ((0 : Int), (false, (false, ())))), ())
            else
              bif q p0 p1 [99, 97, 115, 32, 114, 101, 97, 100] then
              bif q p0 p1 [99, 97, 115, 32, 114, 101, 97, 100] then
              some ((([] : List Int), ((2 : Int), (true, (true, ())))), ())
            else
              bif q p0 p1 [99, 97, 115, 32, 115, 119, 97, 112] then
              some ((((2 : Int) :: ((2 : Int) :: ([] : List Int))), ((6 : Int), (false, (true, ())))), ())
            else
              bif q p0 p1 [115, 101, 116, 32, 104, 97, 115] then
              some ((((2 : Int) :: ([] : List Int)), ((6 : Int), (false, (true, ())))), ())
            else
              bif q p0 p1 [109, 97, 112, 32, 112, 117, 116] then
              some ((((3 : Int) :: ((2 : Int) :: ([] : List Int))), ((-(1 : Int)), (false, (true, ())))), ())
            else
              bif q p0 p1 [109, 97, 112, 32, 103, 101, 116] then
              some ((((3 : Int) :: ([] : List Int)), ((2 : Int), (true, (true, ())))), ())
            else
              bif q p0 p1 [109, 97, 112, 32, 100, 101, 108] then
              some ((((3 : Int) :: ([] : List Int)), ((-(1 : Int)), (false, (true, ())))), ())
            else
              bif q p0 p1 [108, 111, 99, 107, 32, 116, 97, 107, 101] then
              bif q p0 p1 [108, 111, 99, 107, 32, 116, 97, 107, 101] then
              some ((([] : List Int), ((6 : Int), (false, (true, ())))), ())
            else
              bif q p0 p1 [99, 111, 117, 110, 116, 32, 97, 100, 100] then
              some ((((5 : Int) :: ([] : List Int)), ((-(1 : Int)), (false, (true, ())))), ())
            else
              bif q p0 p1 [99, 111, 117, 110, 116, 32, 114, 101, 97, 100] then
              some ((([] : List Int), ((5 : Int), (false, (true, ())))), ())
            else
              bif q p0 p1 [109, 97, 120, 32, 119, 114, 105, 116, 101] then
              bif q p0 p1 [109, 97, 120, 32, 119, 114, 105, 116, 101] then
              some ((((4 : Int) :: ([] : List Int)), ((-(1 : Int)), (false, (true, ())))), ())
            else
              bif q p0 p1 [109, 97, 120, 32, 114, 101, 97, 100] then
              some ((([] : List Int), ((4 : Int), (true, (true, ())))), ())
            else
              bif q p0 p1 [111, 109, 97, 112, 32, 112, 117, 116] then
              some ((((4 : Int) :: ((2 : Int) :: ([] : List Int))), ((-(1 : Int)), (false, (true, ())))), ())
            else
              bif q p0 p1 [111, 109, 97, 112, 32, 115, 99, 97, 110] then
              some ((((4 : Int) :: ((4 : Int) :: ([] : List Int))), ((99 : Int), (false, (true, ())))), ())
            else
              some ((([] : List Int), ((0 : Int), (false, (false, ())))), ())
            else
              bif q p0 p1 [111, 109, 97, 112, 32, 100, 101, 108] then
              some ((((4 : Int) :: ([] : List Int)), ((-(1 : Int)), (false, (true, ())))), ())
            else
              bif q p0 p1 [109, 97, 120, 32, 114, 101, 97, 100] then
              some ((([] : List Int), ((4 : Int), (true, (true, ())))), ())
            else
              bif q p0 p1 [111, 109, 97, 112, 32, 112, 117, 116] then
              some ((((4 : Int) :: ((2 : Int) :: ([] : List Int))), ((-(1 : Int)), (false, (true, ())))), ())
            else
              bif q p0 p1 [111, 109, 97, 112, 32, 115, 99, 97, 110] then
              some ((((4 : Int) :: ((4 : Int) :: ([] : List Int))), ((99 : Int), (false, (true, ())))), ())
            else
              some ((([] : List Int), ((0 : Int), (false, (false, ())))), ())
            else
              bif q p0 p1 [108, 111, 99, 107, 32, 102, 114, 101, 101] then
              some ((([] : List Int), ((6 : Int), (false, (true, ())))), ())
            else
              bif q p0 p1 [99, 111, 117, 110, 116, 32, 97, 100, 100] then
              some ((((5 : Int) :: ([] : List Int)), ((-(1 : Int)), (false, (true, ())))), ())
            else
              bif q p0 p1 [99, 111, 117, 110, 116, 32, 114, 101, 97, 100] then
              some ((([] : List Int), ((5 : Int), (false, (true, ())))), ())
            else
              bif q p0 p1 [109, 97, 120, 32, 119, 114, 105, 116, 101] then
              bif q p0 p1 [109, 97, 120, 32, 119, 114, 105, 116, 101] then
              some ((((4 : Int) :: ([] : List Int)), ((-(1 : Int)), (false, (true, ())))), ())
            else
              bif q p0 p1 [109, 97, 120, 32, 114, 101, 97, 100] then
              some ((([] : List Int), ((4 : Int), (true, (true, ())))), ())
            else
              bif q p0 p1 [111, 109, 97, 112, 32, 112, 117, 116] then
              some ((((4 : Int) :: ((2 : Int) :: ([] : List Int))), ((-(1 : Int)), (false, (true, ())))), ())
            else
              bif q p0 p1 [111, 109, 97, 112, 32, 115, 99, 97, 110] then
              some ((((4 : Int) :: ((4 : Int) :: ([] : List Int))), ((99 : Int), (false, (true, ())))), ())
            else
              some ((([] : List Int), ((0 : Int), (false, (false, ())))), ())
            else
              bif q p0 p1 [111, 109, 97, 112, 32, 100, 101, 108] then
              some ((((4 : Int) :: ([] : List Int)), ((-(1 : Int)), (false, (true, ())))), ())
            else
              bif q p0 p1 [109, 97, 120, 32, 114, 101, 97, 100] then
              some ((([] : List Int), ((4 : Int), (true, (true, ())))), ())
            else
              bif q p0 p1 [111, 109, 97, 112, 32, 112, 117, 116] then
              some ((((4 : Int) :: ((2 : Int) :: ([] : List Int))), ((-(1 : Int)), (false, (true, ())))), ())
            else
              bif q p0 p1 [111, 109, 97, 112, 32, 115, 99, 97, 110] then
              some ((((4 : Int) :: ((4 : Int) :: ([] : List Int))), ((99 : Int), (false, (true, ())))), ())
            else
              some ((([] : List Int), ((0 : Int), (false, (false, ())))), ())
            else
              bif q p0 p1 [102, 105, 102, 111, 32, 112, 111, 112] then
              bif q p0 p1 [102, 105, 102, 111, 32, 112, 111, 112] then
              some ((([] : List Int), ((2 : Int), (true, (true, ())))), ())
            else
              bif q p0 p1 [99, 97, 115, 32, 115, 119, 97, 112] then
              some ((((2 : Int) :: ((2 : Int) :: ([] : List Int))), ((6 : Int), (false, (true, ())))), ())
            else
              bif q p0 p1 [115, 101, 116, 32, 104, 97, 115] then
              some ((((2 : Int) :: ([] : List Int)), ((6 : Int), (false, (true, ())))), ())
            else
              bif q p0 p1 [109, 97, 112, 32, 112, 117, 116] then
              some ((((3 : Int) :: ((2 : Int) :: ([] : List Int))), ((-(1 : Int)), (false, (true, ())))), ())
            else
              bif q p0 p1 [109, 97, 112, 32, 103, 101, 116] then
              some ((((3 : Int) :: ([] : List Int)), ((2 : Int), (true, (true, ())))), ())
            else
              bif q p0 p1 [109, 97, 112, 32, 100, 101, 108] then
              some ((((3 : Int) :: ([] : List Int)), ((-(1 : Int)), (false, (true, ())))), ())
            else
              bif q p0 p1 [108, 111, 99, 107, 32, 116, 97, 107, 101] then
              bif q p0 p1 [108, 111, 99, 107, 32, 116, 97, 107, 101] then
              some ((([] : List Int), ((6 : Int), (false, (true, ())))), ())
            else
              bif q p0 p1 [99, 111, 117, 110, 116, 32, 97, 100, 100] then
              some ((((5 : Int) :: ([] : List Int)), ((-(1 : Int)), (false, (true, ())))), ())
            else
              bif q p0 p1 [99, 111, 117, 110, 116, 32, 114, 101, 97, 100] then
              some ((([] : List Int), ((5 : Int), (false, (true, ())))), ())
            else
              bif q p0 p1 [109, 97, 120, 32, 119, 114, 105, 116, 101] then
              bif q p0 p1 [109, 97, 120, 32, 119, 114, 105, 116, 101] then
              some ((((4 : Int) :: ([] : List Int)), ((-(1 : Int)), (false, (true, ())))), ())
            else
              bif q p0 p1 [109, 97, 120, 32, 114, 101, 97, 100] then
              some ((([] : List Int), ((4 : Int), (true, (true, ())))), ())
            else
              bif q p0 p1 [111, 109, 97, 112, 32, 112, 117, 116] then
              some ((((4 : Int) :: ((2 : Int) :: ([] : List Int))), ((-(1 : Int)), (false, (true, ())))), ())
            else
              bif q p0 p1 [111, 109, 97, 112, 32, 115, 99, 97, 110] then
              some ((((4 : Int) :: ((4 : Int) :: ([] : List Int))), ((99 : Int), (false, (true, ())))), ())
            else
              some ((([] : List Int), ((0 : Int), (false, (false, ())))), ())
            else
              bif q p0 p1 [111, 109, 97, 112, 32, 100, 101, 108] then
              some ((((4 : Int) :: ([] : List Int)), ((-(1 : Int)), (false, (true, ())))), ())
            else
              bif q p0 p1 [109, 97, 120, 32, 114, 101, 97, 100] then
              some ((([] : List Int), ((4 : Int), (true, (true, ())))), ())
            else
              bif q p0 p1 [111, 109, 97, 112, 32, 112, 117, 116] then
              some ((((4 : Int) :: ((2 : Int) :: ([] : List Int))), ((-(1 : Int)), (false, (true, ())))), ())
            else
              bif q p0 p1 [111, 109, 97, 112, 32, 115, 99, 97, 110] then
              some ((((4 : Int) :: ((4 : Int) :: ([] : List Int))), ((99 : Int), (false, (true, ())))), ())
            else
              some ((([] : List Int), ((0 : Int), (false, (false, ())))), ())
            else
              bif q p0 p1 [108, 111, 99, 107, 32, 102, 114, 101, 101] then
              some ((([] : List Int), ((6 : Int), (false, (true, ())))), ())
            else
              bif q p0 p1 [99, 111, 117, 110, 116, 32, 97, 100, 100] then
              some ((((5 : Int) :: ([] : List Int)), ((-(1 : Int)), (false, (true, ())))), ())
            else
              bif q p0 p1 [99, 111, 117, 110, 116, 32, 114, 101, 97, 100] then
              some ((([] : List Int), ((5 : Int), (false, (true, ())))), ())
            else
              bif q p0 p1 [109, 97, 120, 32, 119, 114, 105, 116, 101] then
              bif q p0 p1 [109, 97, 120, 32, 119, 114, 105, 116, 101] then
              some ((((4 : Int) :: ([] : List Int)), ((-(1 : Int)), (false, (true, ())))), ())
            else
              bif q p0 p1 [109, 97, 120, 32, 114, 101, 97, 100] then
              some ((([] : List Int), ((4 : Int), (true, (true, ())))), ())
            else
              bif q p0 p1 [111, 109, 97, 112, 32, 112, 117, 116] then
              some ((((4 : Int) :: ((2 : Int) :: ([] : List Int))), ((-(1 : Int)), (false, (true, ())))), ())
            else
              bif q p0 p1 [111, 109, 97, 112, 32, 115, 99, 97, 110] then
              some ((((4 : Int) :: ((4 : Int) :: ([] : List Int))), ((99 : Int), (false, (true, ())))), ())
            else
              some ((([] : List Int), ((0 : Int), (false, (false, ())))), ())
            else
              bif q p0 p1 [111, 109, 97, 112, 32, 100, 101, 108] then
              some ((((4 : Int) :: ([] : List Int)), ((-(1 : Int)), (false, (true, ())))), ())
            else
              bif q p0 p1 [109, 97, 120, 32, 114, 101, 97, 100] then
              some ((([] : List Int), ((4 : Int), (true, (true, ())))), ())
            else
              bif q p0 p1 [111, 109, 97, 112, 32, 112, 117, 116] then
              some ((((4 : Int) :: ((2 : Int) :: ([] : List Int))), ((-(1 : Int)), (false, (true, ())))), ())
            else
              bif q p0 p1 [111, 109, 97, 112, 32, 115, 99, 97, 110] then
              some ((((4 : Int) :: ((4 : Int) :: ([] : List Int))), ((99 : Int), (false, (true, ())))), ())
            else
              some ((([] : List Int), ((0 : Int), (false, (false, ())))), ())
            else
              bif q p0 p1 [115, 116, 97, 99, 107, 32, 112, 111, 112] then
              some ((([] : List Int), ((2 : Int), (true, (true, ())))), ())
            else
              bif q p0 p1 [99, 97, 115, 32, 115, 119, 97, 112] then
              some ((((2 : Int) :: ((2 : Int) :: ([] : List Int))), ((6 : Int), (false, (true, ())))), ())
            else
              bif q p0 p1 [115, 101, 116, 32, 104, 97, 115] then
              some ((((2 : Int) :: ([] : List Int)), ((6 : Int), (false, (true, ())))), ())
            else
              bif q p0 p1 [109, 97, 112, 32, 112, 117, 116] then
              some ((((3 : Int) :: ((2 : Int) :: ([] : List Int))), ((-(1 : Int)), (false, (true, ())))), ())
            else
              bif q p0 p1 [109, 97, 112, 32, 103, 101, 116] then
              some ((((3 : Int) :: ([] : List Int)), ((2 : Int), (true, (true, ())))), ())
            else
              bif q p0 p1 [109, 97, 112, 32, 100, 101, 108] then
              some ((((3 : Int) :: ([] : List Int)), ((-(1 : Int)), (false, (true, ())))), ())
            else
              bif q p0 p1 [108, 111, 99, 107, 32, 116, 97, 107, 101] then
              bif q p0 p1 [108, 111, 99, 107, 32, 116, 97, 107, 101] then
              some ((([] : List Int), ((6 : Int), (false, (true, ())))), ())
            else
              bif q p0 p1 [99, 111, 117, 110, 116, 32, 97, 100, 100] then
              some ((((5 : Int) :: ([] : List Int)), ((-(1 : Int)), (false, (true, ())))), ())
            else
              bif q p0 p1 [99, 111, 117, 110, 116, 32, 114, 101, 97, 100] then
              some ((([] : List Int), ((5 : Int), (false, (true, ())))), ())
            else
              bif q p0 p1 [109, 97, 120, 32, 119, 114, 105, 116, 101] then
              bif q p0 p1 [109, 97, 120, 32, 119, 114, 105, 116, 101] then
              some ((((4 : Int) :: ([] : List Int)), ((-(1 : Int)), (false, (true, ())))), ())
            else
              bif q p0 p1 [109, 97, 120, 32, 114, 101, 97, 100] then
              some ((([] : List Int), ((4 : Int), (true, (true, ())))), ())
            else
              bif q p0 p1 [111, 109, 97, 112, 32, 112, 117, 116] then
              some ((((4 : Int) :: ((2 : Int) :: ([] : List Int))), ((-(1 : Int)), (false, (true, ())))), ())
            else
              bif q p0 p1 [111, 109, 97, 112, 32, 115, 99, 97, 110] then
              some ((((4 : Int) :: ((4 : Int) :: ([] : List Int))), ((99 : Int), (false, (true, ())))), ())
            else
              some ((([] : List Int), ((0 : Int), (false, (false, ())))), ())
            else
              bif q p0 p1 [111, 109, 97, 112, 32, 100, 101, 108] then
              some ((((4 : Int) :: ([] : List Int)), ((-(1 : Int)), (false, (true, ())))), ())
            else
              bif q p0 p1 [109, 97, 120, 32, 114, 101, 97, 100] then
              some ((([] : List Int), ((4 : Int), (true, (true, ())))), ())
            else
              bif q p0 p1 [111, 109, 97, 112, 32, 112, 117, 116] then
              some ((((4 : Int) :: ((2 : Int) :: ([] : List Int))), ((-(1 : Int)), (false, (true, ())))), ())
            else
              bif q p0 p1 [111, 109, 97, 112, 32, 115, 99, 97, 110] then
              some ((((4 : Int) :: ((4 : Int) :: ([] : List Int))), ((99 : Int), (false, (true, ())))), ())
            else
              some ((([] : List Int), ((0 : Int), (false, (false, ())))), ())
            else
              bif q p0 p1 [108, 111, 99, 107, 32, 102, 114, 101, 101] then
              some ((([] : List Int), ((6 : Int), (false, (true, ())))), ())
            else
              bif q p0 p1 [99, 111, 117, 110, 116, 32, 97, 100, 100] then
              some ((((5 : Int) :: ([] : List Int)), ((-(1 : Int)), (false, (true, ())))), ())
            else
              bif q p0 p1 [99, 111, 117, 110, 116, 32, 114, 101, 97, 100] then
              some ((([] : List Int), ((5 : Int), (false, (true, ())))), ())
            else
              bif q p0 p1 [109, 97, 120, 32, 119, 114, 105, 116, 101] then
              bif q p0 p1 [109, 97, 120, 32, 119, 114, 105, 116, 101] then
              some ((((4 : Int) :: ([] : List Int)), ((-(1 : Int)), (false, (true, ())))), ())
            else
              bif q p0 p1 [109, 97, 120, 32, 114, 101, 97, 100] then
              some ((([] : List Int), ((4 : Int), (true, (true, ())))), ())
            else
              bif q p0 p1 [111, 109, 97, 112, 32, 112, 117, 116] then
              some ((((4 : Int) :: ((2 : Int) :: ([] : List Int))), ((-(1 : Int)), (false, (true, ())))), ())
            else
              bif q p0 p1 [111, 109, 97, 112, 32, 115, 99, 97, 110] then
              some ((((4 : Int) :: ((4 : Int) :: ([] : List Int))), ((99 : Int), (false, (true, ())))), ())
            else
              some ((([] : List Int), ((0 : Int), (false, (false, ())))), ())
            else
              bif q p0 p1 [111, 109, 97, 112, 32, 100, 101, 108] then
              some ((((4 : Int) :: ([] : List Int)), ((-(1 : Int)), (false, (true, ())))), ())
            else
              bif q p0 p1 [109, 97, 120, 32, 114, 101, 97, 100] then
              some ((([] : List Int), ((4 : Int), (true, (true, ())))), ())
            else
              bif q p0 p1 [111, 109, 97, 112, 32, 112, 117, 116] then
              some ((((4 : Int) :: ((2 : Int) :: ([] : List Int))), ((-(1 : Int)), (false, (true, ())))), ())
            else
              bif q p0 p1 [111, 109, 97, 112, 32, 115, 99, 97, 110] then
              some ((((4 : Int) :: ((4 : Int) :: ([] : List Int))), ((99 : Int), (false, (true, ())))), ())
            else
              some ((([] : List Int), ((0 : Int), (false, (false, ())))), ())
        else
          bif q p0 p1 [115, 101, 116, 32, 97, 100, 100] then
            bif q p0 p1 [115, 101, 116, 32, 97, 100, 100] then
              some ((((2 : Int) :: ([] : List Int)), ((-(1 : Int)), (false, (true, ())))), ())
            else
              bif q p0 p1 [114, 101, 103, 32, 114, 101, 97, 100] then
              bif q p0 p1 [114, 101, 103, 32, 114, 101, 97, 100] then
              some ((([] : List Int), ((2 : Int), (true, (true, ())))), ())
            else
              bif q p0 p1 [99, 97, 115, 32, 115, 119, 97, 112] then
              some ((((2 : Int) :: ((2 : Int) :: ([] : List Int))), ((6 : Int), (false, (true, ())))), ())
            else
              bif q p0 p1 [115, 101, 116, 32, 104, 97, 115] then
              some ((((2 : Int) :: ([] : List Int)), ((6 : Int), (false, (true, ())))), ())
            else
              bif q p0 p1 [109, 97, 112, 32, 112, 117, 116] then
              some ((((3 : Int) :: ((2 : Int) :: ([] : List Int))), ((-(1 : Int)), (false, (true, ())))), ())
            else
              bif q p0 p1 [109, 97, 112, 32, 103, 101, 116] then
              some ((((3 : Int) :: ([] : List Int)), ((2 : Int), (true, (true, ())))), ())
            else
              bif q p0 p1 [109, 97, 112, 32, 100, 101, 108] then
              some ((((3 : Int) :: ([] : List Int)), ((-(1 : Int)), (false, (true, ())))), ())
            else
              bif q p0 p1 [108, 111, 99, 107, 32, 116, 97, 107, 101] then
              bif q p0 p1 [108, 111, 99, 107, 32, 116, 97, 107, 101] then
              some ((([] : List Int), ((6 : Int), (false, (true, ())))), ())
            else
              bif q p0 p1 [99, 111, 117, 110, 116, 32, 97, 100, 100] then
              some ((((5 : Int) :: ([] : List Int)), ((-(1 : Int)), (false, (true, ())))), ())
            else
              bif q p0 p1 [99, 111, 117, 110, 116, 32, 114, 101, 97, 100] then
              some ((([] : List Int), ((5 : Int), (false, (true, ())))), ())
            else
              bif q p0 p1 [109, 97, 120, 32, 119, 114, 105, 116, 101] then
              bif q p0 p1 [109, 97, 120, 32, 119, 114, 105, 116, 101] then
              some ((((4 : Int) :: ([] : List Int)), ((-(1 : Int)), (false, (true, ())))), ())
            else
              bif q p0 p1 [109, 97, 120, 32, 114, 101, 97, 100] then
              some ((([] : List Int), ((4 : Int), (true, (true, ())))), ())
            else
              bif q p0 p1 [111, 109, 97, 112, 32, 112, 117, 116] then
              some ((((4 : Int) :: ((2 : Int) :: ([] : List Int))), ((-(1 : Int)), (false, (true, ())))), ())
            else
              bif q p0 p1 [111, 109, 97, 112, 32, 115, 99, 97, 110] then
              some ((((4 : Int) :: ((4 : Int) :: ([] : List Int))), ((99 : Int), (false, (true, ())))), ())
            else
              some ((([] : List Int), ((0 : Int), (false, (false, ())))), ())
            else
              bif q p0 p1 [111, 109, 97, 112, 32, 100, 101, 108] then
              some ((((4 : Int) :: ([] : List Int)), ((-(1 : Int)), (false, (true, ())))), ())
            else
              bif q p0 p1 [109, 97, 120, 32, 114, 101, 97, 100] then
              some ((([] : List Int), ((4 : Int), (true, (true, ())))), ())
            else
              bif q p0 p1 [111, 109, 97, 112, 32, 112, 117, 116] then
              some ((((4 : Int) :: ((2 : Int) :: ([] : List Int))), ((-(1 : Int)), (false, (true, ())))), ())
            else
              bif q p0 p1 [111, 109, 97, 112, 32, 115, 99, 97, 110] then
              some ((((4 : Int) :: ((4 : Int) :: ([] : List Int))), ((99 : Int), (false, (true, ())))), ())
            else
              some ((([] : List Int), ((0 : Int), (false, (false, ())))), ())
            else
              bif q p0 p1 [108, 111, 99, 107, 32, 102, 114, 101, 101] then
              some ((([] : List Int), ((6 : Int), (false, (true, ())))), ())
            else
              bif q p0 p1 [99, 111, 117, 110, 116, 32, 97, 100, 100] then
              some ((((5 : Int) :: ([] : List Int)), ((-(1 : Int)), (false, (true, ())))), ())
            else
              bif q p0 p1 [99, 111, 117, 110, 116, 32, 114, 101, 97, 100] then
              some ((([] : List Int), ((5 : Int), (false, (true, ())))), ())
            else
              bif q p0 p1 [109, 97, 120, 32, 119, 114, 105, 116, 101] then
              bif q p0 p1 [109, 97, 120, 32, 119, 114, 105, 116, 101] then
              some ((((4 : Int) :: ([] : List Int)), ((-(1 : Int)), (false, (true, ())))), ())
            else
              bif q p0 p1 [109, 97, 120, 32, 114, 101, 97, 100] then
              some ((([] : List Int), ((4 : Int), (true, (true, ())))), ())
            else
              bif q p0 p1 [111, 109, 97, 112, 32, 112, 117, 116] then
              some ((((4 : Int) :: ((2 : Int) :: ([] : List Int))), ((-(1 : Int)), (false, (true, ())))), ())
            else
              bif q p0 p1 [111, 109, 97, 112, 32, 115, 99, 97, 110] then
              some ((((4 : Int) :: ((4 : Int) :: ([] : List Int))), ((99 : Int), (false, (true, ())))), ())
            else
              some ((([] : List Int), ((0 : Int), (false, (false, ())))), ())
            else
              bif q p0 p1 [111, 109, 97, 112, 32, 100, 101, 108] then
              some ((((4 : Int) :: ([] : List Int)), ((-(1 : Int)), (false, (true, ())))), ())
            else
              bif q p0 p1 [109, 97, 120, 32, 114, 101, 97, 100] then
              some ((([] : List Int), ((4 : Int), (true, (true, ())))), ())
            else
              bif q p0 p1 [111, 109, 97, 112, 32, 112, 117, 116] then
              some ((((4 : Int) :: ((2 : Int) :: ([] : List Int))), ((-(1 : Int)), (false, (true, ())))), ())
            else
              bif q p0 p1 [111, 109, 97, 112, 32, 115, 99, 97, 110] then
              some ((((4 : Int) :: ((4 : Int) :: ([] : List Int))), ((99 : Int), (false, (true, ())))), ())
            else
              some ((([] : List Int), ((0 : Int), (false, (false, ())))), ())
            else
              bif q p0 p1 [99, 97, 115, 32, 114, 101, 97, 100] then
              bif q p0 p1 [99, 97, 115, 32, 114, 101, 97, 100] then
              some ((([] : List Int), ((2 : Int), (true, (true, ())))), ())
            else
              bif q p0 p1 [99, 97, 115, 32, 115, 119, 97, 112] then
              some ((((2 : Int) :: ((2 : Int) :: ([] : List Int))), ((6 : Int), (false, (true, ())))), ())
            else
              bif q p0 p1 [115, 101, 116, 32, 104, 97, 115] then
              some ((((2 : Int) :: ([] : List Int)), ((6 : Int), (false, (true, ())))), ())
            else
              bif q p0 p1 [109, 97, 112, 32, 112, 117, 116] then
              some ((((3 : Int) :: ((2 : Int) :: ([] : List Int))), ((-(1 : Int)), (false, (true, ())))), ())
            else
              bif q p0 p1 [109, 97, 112, 32, 103, 101, 116] then
              some ((((3 : Int) :: ([] : List Int)), ((2 : Int), (true, (true, ())))), ())
            else
              bif q p0 p1 [109, 97, 112, 32, 100, 101, 108] then
              some ((((3 : Int) :: ([] : List Int)), ((-(1 : Int)), (false, (true, ())))), ())
            else
              bif q p0 p1 [108, 111, 99, 107, 32, 116, 97, 107, 101] then
              bif q p0 p1 [108, 111, 99, 107, 32, 116, 97, 107, 101] then
              some ((([] : List Int), ((6 : Int), (false, (true, ())))), ())
            else
              bif q p0 p1 [99, 111, 117, 110, 116, 32, 97, 100, 100] then
              some ((((5 : Int) :: ([] : List Int)), ((-(1 : Int)), (false, (true, ())))), ())
            else
              bif q p0 p1 [99, 111, 117, 110, 116, 32, 114, 101, 97, 100] then
              some ((([] : List Int), ((5 : Int), (false, (true, ())))), ())
            else
              bif q p0 p1 [109, 97, 120, 32, 119, 114, 105, 116, 101] then
              bif q p0 p1 [109, 97, 120, 32, 119, 114, 105, 116, 101] then
              some ((((4 : Int) :: ([] : List Int)), ((-(1 : Int)), (false, (true, ())))), ())
            else
              bif q p0 p1 [109, 97, 120, 32, 114, 101, 97, 100] then
              some ((([] : List Int), ((4 : Int), (true, (true, ())))), ())
            else
              bif q p0 p1 [111, 109, 97, 112, 32, 112, 117, 116] then
              some ((((4 : Int) :: ((2 : Int) :: ([] : List Int))), ((-(1 : Int)), (false, (true, ())))), ())
            else
              bif q p0 p1 [111, 109, 97, 112, 32, 115, 99, 97, 110] then
              some ((((4 : Int) :: ((4 : Int) :: ([] : List Int))), ((99 : Int), (false, (true, ())))), ())
            else
              some ((([] : List Int), ((0 : Int), (false, (false, ())))), ())
            else
              bif q p0 p1 [111, 109, 97, 112, 32, 100, 101, 108] then
              some ((((4 : Int) :: ([] : List Int)), ((-(1 : Int)), (false, (true, ())))), ())
            else
              bif q p0 p1 [109, 97, 120, 32, 114, 101, 97, 100] then
              some ((([] : List Int), ((4 : Int), (true, (true, ())))), ())
            else
              bif q p0 p1 [111, 109, 97, 112, 32, 112, 117, 116] then
              some ((((4 : Int) :: ((2 : Int) :: ([] : List Int))), ((-(1 : Int)), (false, (true, ())))), ())
            else
              bif q p0 p1 [111, 109, 97, 112, 32, 115, 99, 97, 110] then
              some ((((4 : Int) :: ((4 : Int) :: ([] : List Int))), ((99 : Int), (false, (true, ())))), ())
            else
              some ((([] : List Int), ((0 : Int), (false, (false, ())))), ())
            else
              bif q p0 p1 [108, 111, 99, 107, 32, 102, 114, 101, 101] then
              some ((([] : List Int), ((6 : Int), (false, (true, ())))), ())
            else
              bif q p0 p1 [99, 111, 117, 110, 116, 32, 97, 100, 100] then
              some ((((5 : Int) :: ([] : List Int)), ((-(1 : Int)), (false, (true, ())))), ())
            else
              bif q p0 p1 [99, 111, 117, 110, 116, 32, 114, 101, 97, 100] then
              some ((([] : List Int), ((5 : Int), (false, (true, ())))), ())
            else
              bif q p0 p1 [109, 97, 120, 32, 119, 114, 105, 116, 101] then
              bif q p0 p1 [109, 97, 120, 32, 119, 114, 105, 116, 101] then
              some ((((4 : Int) :: ([] : List Int)), ((-(1 : Int)), (false, (true, ())))), ())
            else
              bif q p0 p1 [109, 97, 120, 32, 114, 101, 97, 100] then
              some ((([] : List Int), ((4 : Int), (true, (true, ())))), ())
            else
              bif q p0 p1 [111, 109, 97, 112, 32, 112, 117, 116] then
              some ((((4 : Int) :: ((2 : Int) :: ([] : List Int))), ((-(1 : Int)), (false, (true, ())))), ())
            else
              bif q p0 p1 [111, 109, 97, 112, 32, 115, 99, 97, 110] then
              some ((((4 : Int) :: ((4 : Int) :: ([] : List Int))), ((99 : Int), (false, (true, ())))), ())
            else
              some ((([] : List Int), ((0 : Int), (false, (false, ())))), ())
            else
              bif q p0 p1 [111, 109, 97, 112, 32, 100, 101, 108] then
              some ((((4 : Int) :: ([] : List Int)), ((-(1 : Int)), (false, (true, ())))), ())
            else
              bif q p0 p1 [109, 97, 120, 32, 114, 101, 97, 100] then
              some ((([] : List Int), ((4 : Int), (true, (true, ())))), ())
            else
              bif q p0 p1 [111, 109, 97, 112, 32, 112, 117, 116] then
              some ((((4 : Int) :: ((2 : Int) :: ([] : List Int))), ((-(1 : Int)), (false, (true, ())))), ())
            else
              bif q p0 p1 [111, 109, 97, 112, 32, 115, 99, 97, 110] then
              some ((((4 : Int) :: ((4 : Int) :: ([] : List Int))), ((99 : Int), (false, (true, ())))), ())
            else
              some ((([] : List Int), ((0 : Int), (false, (false, ())))), ())
            else
              bif q p0 p1 [102, 105, 102, 111, 32, 112, 111, 112] then
              bif q p0 p1 [102, 105, 102, 111, 32, 112, 111, 112] then
              some ((([] : List Int), ((2 : Int), (true, (true, ())))), ())
            else
              bif q p0 p1 [99, 97, 115, 32, 115, 119, 97, 112] then
              some ((((2 : Int) :: ((2 : Int) :: ([] : List Int))), ((6 : Int), (false, (true, ())))), ())
            else
              bif q p0 p1 [115, 101, 116, 32, 104, 97, 115] then
              some ((((2 : Int) :: ([] : List Int)), ((6 : Int), (false, (true, ())))), ())
            else
              bif q p0 p1 [109, 97, 112, 32, 112, 117, 116] then
              some ((((3 : Int) :: ((2 : Int) :: ([] : List Int))), ((-(1 : Int)), (false, (true, ())))), ())
            else
              bif q p0 p1 [109, 97, 112, 32, 103, 101, 116] then
              some ((((3 : Int) :: ([] : List Int)), ((2 : Int), (true, (true, ())))), ())
            else
              bif q p0 p1 [109, 97, 112, 32, 100, 101, 108] then
              some ((((3 : Int) :: ([] : List Int)), ((-(1 : Int)), (false, (true, ())))), ())
            else
              bif q p0 p1 [108, 111, 99, 107, 32, 116, 97, 107, 101] then
              bif q p0 p1 [108, 111, 99, 107, 32, 116, 97, 107, 101] then
              some ((([] : List Int), ((6 : Int), (false, (true, ())))), ())
            else
              bif q p0 p1 [99, 111, 117, 110, 116, 32, 97, 100, 100] then
              some ((((5 : Int) :: ([] : List Int)), ((-(1 : Int)), (false, (true, ())))), ())
            else
              bif q p0 p1 [99, 111, 117, 110, 116, 32, 114, 101, 97, 100] then
              some ((([] : List Int), ((5 : Int), (false, (true, ())))), ())
            else
              bif q p0 p1 [109, 97, 120, 32, 119, 114, 105, 116, 101] then
              bif q p0 p1 [109, 97, 120, 32, 119, 114, 105, 116, 101] then
              some ((((4 : Int) :: ([] : List Int)), ((-(1 : Int)), (false, (true, ())))), ())
            else
              bif q p0 p1 [109, 97, 120, 32, 114, 101, 97, 100] then
              some ((([] : List Int), ((4 : Int), (true, (true, ())))), ())
            else
              bif q p0 p1 [111, 109, 97, 112, 32, 112, 117, 116] then
              some ((((4 : Int) :: ((2 : Int) :: ([] : List Int))), ((-(1 : Int)), (false, (true, ())))), ())
            else
              bif q p0 p1 [111, 109, 97, 112, 32, 115, 99, 97, 110] then
              some ((((4 : Int) :: ((4 : Int) :: ([] : List Int))), ((99 : Int), (false, (true, ())))), ())
            else
              some ((([] : List Int), ((0 : Int), (false, (false, ())))), ())
            else
              bif q p0 p1 [111, 109, 97, 112, 32, 100, 101, 108] then
              some ((((4 : Int) :: ([] : List Int)), ((-(1 : Int)), (false, (true, ())))), ())
            else
              bif q p0 p1 [109, 97, 120, 32, 114, 101, 97, 100] then
              some ((([] : List Int), ((4 : Int), (true, (true, ())))), ())
            else
              bif q p0 p1 [111, 109, 97, 112, 32, 112, 117, 116] then
              some ((((4 : Int) :: ((2 : Int) :: ([] : List Int))), ((-(1 : Int)), (false, (true, ())))), ())
            else
              bif q p0 p1 [111, 109, 97, 112, 32, 115, 99, 97, 110] then
              some ((((4 : Int) :: ((4 : Int) :: ([] : List Int))), ((99 : Int), (false, (true, ())))), ())
            else
              some ((([] : List Int), ((0 : Int), (false, (false, ())))), ())
            else
              bif q p0 p1 [108, 111, 99, 107, 32, 102, 114, 101, 101] then
              some ((([] : List Int), ((6 : Int), (false, (true, ())))), ())
            else
              bif q p0 p1 [99, 111, 117, 110, 116, 32, 97, 100, 100] then
              some ((((5 : Int) :: ([] : List Int)), ((-(1 : Int)), (false, (true, ())))), ())
            else
              bif q p0 p1 [99, 111, 117, 110, 116, 32, 114, 101, 97, 100] then
              some ((([] : List Int), ((5 : Int), (false, (true, ())))), ())
            else
              bif q p0 p1 [109, 97, 120, 32, 119, 114, 105, 116, 101] then
              bif q p0 p1 [109, 97, 120, 32, 119, 114, 105, 116, 101] then
              some ((((4 : Int) :: ([] : List Int)), ((-(1 : Int)), (false, (true, ())))), ())
            else
              bif q p0 p1 [109, 97, 120, 32, 114, 101, 97, 100] then
              some ((([] : List Int), ((4 : Int), (true, (true, ())))), ())
            else
              bif q p0 p1 [111, 109, 97, 112, 32, 112, 117, 116] then
              some ((((4 : Int) :: ((2 : Int) :: ([] : List Int))), ((-(1 : Int)), (false, (true, ())))), ())
            else
              bif q p0 p1 [111, 109, 97, 112, 32, 115, 99, 97, 110] then
              some ((((4 : Int) :: ((4 : Int) :: ([] : List Int))), ((99 : Int), (false, (true, ())))), ())
            else
              some ((([] : List Int), ((0 : Int), (false, (false, ())))), ())
            else
              bif q p0 p1 [111, 109, 97, 112, 32, 100, 101, 108] then
              some ((((4 : Int) :: ([] : List Int)), ((-(1 : Int)), (false, (true, ())))), ())
            else
              bif q p0 p1 [109, 97, 120, 32, 114, 101, 97, 100] then
              some ((([] : List Int), ((4 : Int), (true, (true, ())))), ())
            else
              bif q p0 p1 [111, 109, 97, 112, 32, 112, 117, 116] then
              some ((((4 : Int) :: ((2 : Int) :: ([] : List Int))), ((-(1 : Int)), (false, (true, ())))), ())
            else
              bif q p0 p1 [111, 109, 97, 112, 32, 115, 99, 97, 110] then
              some ((((4 : Int) :: ((4 : Int) :: ([] : List Int))), ((99 : Int), (false, (true, ())))), ())
            else
              some ((([] : List Int), ((0 : Int), (false, (false, ())))), ())
            else
              bif q p0 p1 [115, 116, 97, 99, 107, 32, 112, 111, 112] then
              some ((([] : List Int), ((2 : Int), (true, (true, ())))), ())
            else
              bif q p0 p1 [99, 97, 115, 32, 115, 119, 97, 112] then
              some ((((2 : Int) :: ((2 : Int) :: ([] : List Int))), ((6 : Int), (false, (true, ())))), ())
            else
              bif q p0 p1 [115, 101, 116, 32, 104, 97, 115] then
              some ((((2 : Int) :: ([] : List Int)), ((6 : Int), (false, (true, ())))), ())
            else
              bif q p0 p1 [109, 97, 112, 32, 112, 117, 116] then
              some ((((3 : Int) :: ((2 : Int) :: ([] : List Int))), ((-(1 : Int)), (false, (true, ())))), ())
            else
              bif q p0 p1 [109, 97, 112, 32, 103, 101, 116] then
              some ((((3 : Int) :: ([] : List Int)), ((2 : Int), (true, (true, ())))), ())
            else
              bif q p0 p1 [109, 97, 112, 32, 100, 101, 108] then
              some ((((3 : Int) :: ([] : List Int)), ((-(1 : Int)), (false, (true, ())))), ())
            else
              bif q p0 p1 [108, 111, 99, 107, 32, 116, 97, 107, 101] then
              bif q p0 p1 [108, 111, 99, 107, 32, 116, 97, 107, 101] then
              some ((([] : List Int), ((6 : Int), (false, (true, ())))), ())
            else
              bif q p0 p1 [99, 111, 117, 110, 116, 32, 97, 100, 100] then
              some ((((5 : Int) :: ([] : List Int)), ((-(1 : Int)), (false, (true, ())))), ())
            else
              bif q p0 p1 [99, 111, 117, 110, 116, 32, 114, 101, 97, 100] then
              some ((([] : List Int), ((5 : Int), (false, (true, ())))), ())
            else
              bif q p0 p1 [109, 97, 120, 32, 119, 114, 105, 116, 101] then
              bif q p0 p1 [109, 97, 120, 32, 119, 114, 105, 116, 101] then
              some ((((4 : Int) :: ([] : List Int)), ((-(1 : Int)), (false, (true, ())))), ())
            else
              bif q p0 p1 [109, 97, 120, 32, 114, 101, 97, 100] then
              some ((([] : List Int), ((4 : Int), (true, (true, ())))), ())
            else
              bif q p0 p1 [111, 109, 97, 112, 32, 112, 117, 116] then
              some ((((4 : Int) :: ((2 : Int) :: ([] : List Int))), ((-(1 : Int)), (false, (true, ())))), ())
            else
              bif q p0 p1 [111, 109, 97, 112, 32, 115, 99, 97, 110] then
              some ((((4 : Int) :: ((4 : Int) :: ([] : List Int))), ((99 : Int), (false, (true, ())))), ())
            else
              some ((([] : List Int), ((0 : Int), (false, (false, ())))), ())
            else
              bif q p0 p1 [111, 109, 97, 112, 32, 100, 101, 108] then
              some ((((4 : Int) :: ([] : List Int)), ((-(1 : Int)), (false, (true, ())))), ())
            else
              bif q p0 p1 [109, 97, 120, 32, 114, 101, 97, 100] then
              some ((([] : List Int), ((4 : Int), (true, (true, ())))), ())
            else
              bif q p0 p1 [111, 109, 97, 112, 32, 112, 117, 116] then
              some ((((4 : Int) :: ((2 : Int) :: ([] : List Int))), ((-(1 : Int)), (false, (true, ())))), ())
            else
              bif q p0 p1 [111, 109, 97, 112, 32, 115, 99, 97, 110] then
              some ((((4 : Int) :: ((4 : Int) :: ([] : List Int))), ((99 : Int), (false, (true, ())))), ())
            else
              some ((([] : List Int), ((0 : Int), (false, (false, ())))), ())
            else
              bif q p0 p1 [108, 111, 99, 107, 32, 102, 114, 101, 101] then
              some ((([] : List Int), ((6 : Int), (false, (true, ())))), ())
            else
              bif q p0 p1 [99, 111, 117, 110, 116, 32, 97, 100, 100] then
              some ((((5 : Int) :: ([] : List Int)), ((-(1 : Int)), (false, (true, ())))), ())
            else
              bif q p0 p1 [99, 111, 117, 110, 116, 32, 114, 101, 97, 100] then
              some ((([] : List Int), ((5 : Int), (false, (true, ())))), ())
            else
              bif q p0 p1 [109, 97, 120, 32, 119, 114, 105, 116, 101] then
              bif q p0 p1 [109, 97, 120, 32, 119, 114, 105, 116, 101] then
              some ((((4 : Int) :: ([] : List Int)), ((-(1 : Int)), (false, (true, ())))), ())
            else
              bif q p0 p1 [109, 97, 120, 32, 114, 101, 97, 100] then
              some ((([] : List Int), ((4 : Int), (true, (true, ())))), ())
            else
              bif q p0 p1 [111, 109, 97, 112, 32, 112, 117, 116] then
              some ((((4 : Int) :: ((2 : Int) :: ([] : List Int))), ((-(1 : Int)), (false, (true, ())))), ())
            else
              bif q p0 p1 [111, 109, 97, 112, 32, 115, 99, 97, 110] then
              some ((((4 : Int) :: ((4 : Int) :: ([] : List Int))), ((99 : Int), (false, (true, ())))), ())
            else
              some ((([] : List Int), ((0 : Int), (false, (false, ())))), ())
            else
              bif q p0 p1 [111, 109, 97, 112, 32, 100, 101, 108] then
              some ((((4 : Int) :: ([] : List Int)), ((-(1 : Int)), (false, (true, ())))), ())
            else
              bif q p0 p1 [109, 97, 120, 32, 114, 101, 97, 100] then
              some ((([] : List Int), ((4 : Int), (true, (true, ())))), ())
            else
              bif q p0 p1 [111, 109, 97, 112, 32, 112, 117, 116] then
              some ((((4 : Int) :: ((2 : Int) :: ([] : List Int))), ((-(1 : Int)), (false, (true, ())))), ())
            else
              bif q p0 p1 [111, 109, 97, 112, 32, 115, 99, 97, 110] then
              some ((((4 : Int) :: ((4 : Int) :: ([] : List Int))), ((99 : Int), (false, (true, ())))), ())
            else
              some ((([] : List Int), ((0 : Int), (false, (false, ())))), ())
          else
            bif q p0 p1 [115, 101, 116, 32, 100, 101, 108] then
              bif q p0 p1 [115, 101, 116, 32, 100, 101, 108] then
              some ((((2 : Int) :: ([] : List Int)), ((-(1 : Int)), (false, (true, ())))), ())
            else
              bif q p0 p1 [114, 101, 103, 32, 114, 101, 97, 100] then
              bif q p0 p1 [114, 101, 103, 32, 114, 101, 97, 100] then
              some ((([] : List Int), ((2 : Int), (true, (true, ())))), ())
            else
              bif q p0 p1 [99, 97, 115, 32, 115, 119, 97, 112] then
              some ((((2 : Int) :: ((2 : Int) :: ([] : List Int))), ((6 : Int), (false, (true, ())))), ())
            else
              bif q p0 p1 [115, 101, 116, 32, 104, 97, 115] then
              some ((((2 : Int) :: ([] : List Int)), ((6 : Int), (false, (true, ())))), ())
            else
              bif q p0 p1 [109, 97, 112, 32, 112, 117, 116] then
              some ((((3 : Int) :: ((2 : Int) :: ([] : List Int))), ((-(1 : Int)), (false, (true, ())))), ())
            else
              bif q p0 p1 [109, 97, 112, 32, 103, 101, 116] then
              some ((((3 : Int) :: ([] : List Int)), ((2 : Int), (true, (true, ())))), ())
            else
              bif q p0 p1 [109, 97, 112, 32, 100, 101, 108] then
              some ((((3 : Int) :: ([] : List Int)), ((-(1 : Int)), (false, (true, ())))), ())
            else
              bif q p0 p1 [108, 111, 99, 107, 32, 116, 97, 107, 101] then
              bif q p0 p1 [108, 111, 99, 107, 32, 116, 97, 107, 101] then
              some ((([] : List Int), ((6 : Int), (false, (true, ())))), ())
            else
              bif q p0 p1 [99, 111, 117, 110, 116, 32, 97, 100, 100] then
              some ((((5 : Int) :: ([] : List Int)), ((-(1 : Int)), (false, (true, ())))), ())
            else
              bif q p0 p1 [99, 111, 117, 110, 116, 32, 114, 101, 97, 100] then
              some ((([] : List Int), ((5 : Int), (false, (true, ())))), ())
            else
              bif q p0 p1 [109, 97, 120, 32, 119, 114, 105, 116, 101] then
              bif q p0 p1 [109, 97, 120, 32, 119, 114, 105, 116, 101] then
              some ((((4 : Int) :: ([] : List Int)), ((-(1 : Int)), (false, (true, ())))), ())
            else
              bif q p0 p1 [109, 97, 120, 32, 114, 101, 97, 100] then
              some ((([] : List Int), ((4 : Int), (true, (true, ())))), ())
            else
              bif q p0 p1 [111, 109, 97, 112, 32, 112, 117, 116] then
              some ((((4 : Int) :: ((2 : Int) :: ([] : List Int))), ((-(1 : Int)), (false, (true, ())))), ())
            else
              bif q p0 p1 [111, 109, 97, 112, 32, 115, 99, 97, 110] then
              some ((((4 : Int) :: ((4 : Int) :: ([] : List Int))), ((99 : Int), (false, (true, ())))), ())
            else
              some ((([] : List Int), ((0 : Int), (false, (false, ())))), ())
            else
              bif q p0 p1 [111, 109, 97, 112, 32, 100, 101, 108] then
              some ((((4 : Int) :: ([] : List Int)), ((-(1 : Int)), (false, (true, ())))), ())
            else
              bif q p0 p1 [109, 97, 120, 32, 114, 101, 97, 100] then
              some ((([] : List Int), ((4 : Int), (true, (true, ())))), ())
            else
              bif q p0 p1 [111, 109, 97, 112, 32, 112, 117, 116] then
              some ((((4 : Int) :: ((2 : Int) :: ([] : List Int))), ((-(1 : Int)), (false, (true, ())))), ())
            else
              bif q p0 p1 [111, 109, 97, 112, 32, 115, 99, 97, 110] then
              some ((((4 : Int) :: ((4 : Int) :: ([] : List Int))), ((99 : Int), (false, (true, ())))), ())
            else
              some ((([] : List Int), ((0 : Int), (false, (false, ())))), ())
            else
              bif q p0 p1 [108, 111, 99, 107, 32, 102, 114, 101, 101] then
              some ((([] : List Int), ((6 : Int), (false, (true, ())))), ())
            else
              bif q p0 p1 [99, 111, 117, 110, 116, 32, 97, 100, 100] then
              some ((((5 : Int) :: ([] : List Int)), ((-(1 : Int)), (false, (true, ())))), ())
            else
              bif q p0 p1 [99, 111, 117, 110, 116, 32, 114, 101, 97, 100] then
              some ((([] : List Int), ((5 : Int), (false, (true, ())))), ())
            else
              bif q p0 p1 [109, 97, 120, 32, 119, 114, 105, 116, 101] then
              bif q p0 p1 [109, 97, 120, 32, 119, 114, 105, 116, 101] then
              some ((((4 : Int) :: ([] : List Int)), ((-(1 : Int)), (false, (true, ())))), ())
            else
              bif q p0 p1 [109, 97, 120, 32, 114, 101, 97, 100] then
              some ((([] : List Int), ((4 : Int), (true, (true, ())))), ())
            else
              bif q p0 p1 [111, 109, 97, 112, 32, 112, 117, 116] then
              some ((((4 : Int) :: ((2 : Int) :: ([] : List Int))), ((-(1 : Int)), (false, (true, ())))), ())
            else
              bif q p0 p1 [111, 109, 97, 112, 32, 115, 99, 97, 110] then
              some ((((4 : Int) :: ((4 : Int) :: ([] : List Int))), ((99 : Int), (false, (true, ())))), ())
            else
              some ((([] : List Int), ((0 : Int), (false, (false, ())))), ())
            else
              bif q p0 p1 [111, 109, 97, 112, 32, 100, 101, 108] then
              some ((((4 : Int) :: ([] : List Int)), ((-(1 : Int)), (false, (true, ())))), ())
            else
              bif q p0 p1 [109, 97, 120, 32, 114, 101, 97, 100] then
              some ((([] : List Int), ((4 : Int), (true, (true, ())))), ())
            else
              bif q p0 p1 [111, 109, 97, 112, 32, 112, 117, 116] then
              some ((((4 : Int) :: ((2 : Int) :: ([] : List Int))), ((-(1 : Int)), (false, (true, ())))), ())
            else
              bif q p0 p1 [111, 109, 97, 112, 32, 115, 99, 97, 110] then
              some ((((4 : Int) :: ((4 : Int) :: ([] : List Int))), ((99 : Int), (false, (true, ())))), ())
            else
              some ((([] : List Int), ((0 : Int), (false, (false, ())))), ())
            else
              bif q p0 p1 [99, 97, 115, 32, 114, 101, 97, 100] then
              bif q p0 p1 [99, 97, 115, 32, 114, 101, 97, 100] then
              some ((([] : List Int), ((2 : Int), (true, (true, ())))), ())
            else
              bif q p0 p1 [99, 97, 115, 32, 115, 119, 97, 112] then
              some ((((2 : Int) :: ((2 : Int) :: ([] : List Int))), ((6 : Int), (false, (true, ())))), ())
            else
              bif q p0 p1 [115, 101, 116, 32, 104, 97, 115] then
              some ((((2 : Int) :: ([] : List Int)), ((6 : Int), (false, (true, ())))), ())
            else
              bif q p0 p1 [109, 97, 112, 32, 112, 117, 116] then
              some ((((3 : Int) :: ((2 : Int) :: ([] : List Int))), ((-(1 : Int)), (false, (true, ())))), ())
            else
              bif q p0 p1 [109, 97, 112, 32, 103, 101, 116] then
              some ((((3 : Int) :: ([] : List Int)), ((2 : Int), (true, (true, ())))), ())
            else
              bif q p0 p1 [109, 97, 112, 32, 100, 101, 108] then
              some ((((3 : Int) :: ([] : List Int)), ((-(1 : Int)), (false, (true, ())))), ())
            else
              bif q p0 p1 [108, 111, 99, 107, 32, 116, 97, 107, 101] then
              bif q p0 p1 [108, 111, 99, 107, 32, 116, 97, 107, 101] then
              some ((([] : List Int), ((6 : Int), (false, (true, ())))), ())
            else
              bif q p0 p1 [99, 111, 117, 110, 116, 32, 97, 100, 100] then
              some ((((5 : Int) :: ([] : List Int)), ((-(1 : Int)), (false, (true, ())))), ())
            else
              bif q p0 p1 [99, 111, 117, 110, 116, 32, 114, 101, 97, 100] then
              some ((([] : List Int), ((5 : Int), (false, (true, ())))), ())
            else
              bif q p0 p1 [109, 97, 120, 32, 119, 114, 105, 116, 101] then
              bif q p0 p1 [109, 97, 120, 32, 119, 114, 105, 116, 101] then
              some ((((4 : Int) :: ([] : List Int)), ((-(1 : Int)), (false, (true, ())))), ())
            else
              bif q p0 p1 [109, 97, 120, 32, 114, 101, 97, 100] then
              some ((([] : List Int), ((4 : Int), (true, (true, ())))), ())
            else
              bif q p0 p1 [111, 109, 97, 112, 32, 112, 117, 116] then
              some ((((4 : Int) :: ((2 : Int) :: ([] : List Int))), ((-(1 : Int)), (false, (true, ())))), ())
            else
              bif q p0 p1 [111, 109, 97, 112, 32, 115, 99, 97, 110] then
              some ((((4 : Int) :: ((4 : Int) :: ([] : List Int))), ((99 : Int), (false, (true, ())))), ())
            else
              some ((([] : List Int), ((0 : Int), (false, (false, ())))), ())
            else
              bif q p0 p1 [111, 109, 97, 112, 32, 100, 101, 108] then
              some ((((4 : Int) :: ([] : List Int)), ((-(1 : Int)), (false, (true, ())))), ())
            else
              bif q p0 p1 [109, 97, 120, 32, 114, 101, 97, 100] then
              some ((([] : List Int), ((4 : Int), (true, (true, ())))), ())
            else
              bif q p0 p1 [111, 109, 97, 112, 32, 112, 117, 116] then
              some ((((4 : Int) :: ((2 : Int) :: ([] : List Int))), ((-(1 : Int)), (false, (true, ())))), ())
            else
              bif q p0 p1 [111, 109, 97, 112, 32, 115, 99, 97, 110] then
              some ((((4 : Int) :: ((4 : Int) :: ([] : List Int))), ((99 : Int), (false, (true, ())))), ())
            else
              some ((([] : List Int), ((0 : Int), (false, (false, ())))), ())
            else
              bif q p0 p1 [108, 111, 99, 107, 32, 102, 114, 101, 101] then
              some ((([] : List Int), ((6 : Int), (false, (true, ())))), ())
            else
              bif q p0 p1 [99, 111, 117, 110, 116, 32, 97, 100, 100] then
              some ((((5 : Int) :: ([] : List Int)), ((-(1 : Int)), (false, (true, ())))), ())
            else
              bif q p0 p1 [99, 111, 117, 110, 116, 32, 114, 101, 97, 100] then
              some ((([] : List Int), ((5 : Int), (false, (true, ())))), ())
            else
              bif q p0 p1 [109, 97, 120, 32, 119, 114, 105, 116, 101] then
              bif q p0 p1 [109, 97, 120, 32, 119, 114, 105, 116, 101] then
              some ((((4 : Int) :: ([] : List Int)), ((-(1 : Int)), (false, (true, ())))), ())
            else
              bif q p0 p1 [109, 97, 120, 32, 114, 101, 97, 100] then
              some ((([] : List Int), ((4 : Int), (true, (true, ())))), ())
            else
              bif q p0 p1 [111, 109, 97, 112, 32, 112, 117, 116] then
              some ((((4 : Int) :: ((2 : Int) :: ([] : List Int))), ((-(1 : Int)), (false, (true, ())))), ())
            else
              bif q p0 p1 [111, 109, 97, 112, 32, 115, 99, 97, 110] then
              some ((((4 : Int) :: ((4 : Int) :: ([] : List Int))), ((99 : Int), (false, (true, ())))), ())
            else
              some ((([] : List Int), ((0 : Int), (false, (false, ())))), ())
            else
              bif q p0 p1 [111, 109, 97, 112, 32, 100, 101, 108] then
              some ((((4 : Int) :: ([] : List Int)), ((-(1 : Int)), (false, (true, ())))), ())
            else
              bif q p0 p1 [109, 97, 120, 32, 114, 101, 97, 100] then
              some ((([] : List Int), ((4 : Int), (true, (true, ())))), ())
            else
              bif q p0 p1 [111, 109, 97, 112, 32, 112, 117, 116] then
              some ((((4 : Int) :: ((2 : Int) :: ([] : List Int))), ((-(1 : Int)), (false, (true, ())))), ())
            else
              bif q p0 p1 [111, 109, 97, 112, 32, 115, 99, 97, 110] then
              some ((((4 : Int) :: ((4 : Int) :: ([] : List Int))), ((99 : Int), (false, (true, ())))), ())
            else
              some ((([] : List Int), ((0 : Int), (false, (false, ())))), ())
            else
              bif q p0 p1 [102, 105, 102, 111, 32, 112, 111, 112] then
              bif q p0 p1 [102, 105, 102, 111, 32, 112, 111, 112] then
              some ((([] : List Int), ((2 : Int), (true, (true, ())))), ())
            else
              bif q p0 p1 [99, 97, 115, 32, 115, 119, 97, 112] then
              some ((((2 : Int) :: ((2 : Int) :: ([] : List Int))), ((6 : Int), (false, (true, ())))), ())
            else
              bif q p0 p1 [115, 101, 116, 32, 104, 97, 115] then
              some ((((2 : Int) :: ([] : List Int)), ((6 : Int), (false, (true, ())))), ())
            else
              bif q p0 p1 [109, 97, 112, 32, 112, 117, 116] then
              some ((((3 : Int) :: ((2 : Int) :: ([] : List Int))), ((-(1 : Int)), (false, (true, ())))), ())
            else
              bif q p0 p1 [109, 97, 112, 32, 103, 101, 116] then
              some ((((3 : Int) :: ([] : List Int)), ((2 : Int), (true, (true, ())))), ())
            else
              bif q p0 p1 [109, 97, 112, 32, 100, 101, 108] then
              some ((((3 : Int) :: ([] : List Int)), ((-(1 : Int)), (false, (true, ())))), ())
            else
              bif q p0 p1 [108, 111, 99, 107, 32, 116, 97, 107, 101] then
              bif q p0 p1 [108, 111, 99, 107, 32, 116, 97, 107, 101] then
              some ((([] : List Int), ((6 : Int), (false, (true, ())))), ())
            else
              bif q p0 p1 [99, 111, 117, 110, 116, 32, 97, 100, 100] then
              some ((((5 : Int) :: ([] : List Int)), ((-(1 : Int)), (false, (true, ())))), ())
            else
              bif q p0 p1 [99, 111, 117, 110, 116, 32, 114, 101, 97, 100] then
              some ((([] : List Int), ((5 : Int), (false, (true, ())))), ())
            else
              bif q p0 p1 [109, 97, 120, 32, 119, 114, 105, 116, 101] then
              bif q p0 p1 [109, 97, 120, 32, 119, 114, 105, 116, 101] then
              some ((((4 : Int) :: ([] : List Int)), ((-(1 : Int)), (false, (true, ())))), ())
            else
              bif q p0 p1 [109, 97, 120, 32, 114, 101, 97, 100] then
              some ((([] : List Int), ((4 : Int), (true, (true, ())))), ())
            else
              bif q p0 p1 [111, 109, 97, 112, 32, 112, 117, 116] then
              some ((((4 : Int) :: ((2 : Int) :: ([] : List Int))), ((-(1 : Int)), (false, (true, ())))), ())
            else
              bif q p0 p1 [111, 109, 97, 112, 32, 115, 99, 97, 110] then
              some ((((4 : Int) :: ((4 : Int) :: ([] : List Int))), ((99 : Int), (false, (true, ())))), ())
            else
              some ((([] : List Int), ((0 : Int), (false, (false, ())))), ())
            else
              bif q p0 p1 [111, 109, 97, 112, 32, 100, 101, 108] then
              some ((((4 : Int) :: ([] : List Int)), ((-(1 : Int)), (false, (true, ())))), ())
            else
              bif q p0 p1 [109, 97, 120, 32, 114, 101, 97, 100] then
              some ((([] : List Int), ((4 : Int), (true, (true, ())))), ())
            else
              bif q p0 p1 [111, 109, 97, 112, 32, 112, 117, 116] then
              some ((((4 : Int) :: ((2 : Int) :: ([] : List Int))), ((-(1 : Int)), (false, (true, ())))), ())
            else
              bif q p0 p1 [111, 109, 97, 112, 32, 115, 99, 97, 110] then
              some ((((4 : Int) :: ((4 : Int) :: ([] : List Int))), ((99 : Int), (false, (true, ())))), ())
            else
              some ((([] : List Int), ((0 : Int), (false, (false, ())))), ())
            else
              bif q p0 p1 [108, 111, 99, 107, 32, 102, 114, 101, 101] then
              some ((([] : List Int), ((6 : Int), (false, (true, ())))), ())
            else
              bif q p0 p1 [99, 111, 117, 110, 116, 32, 97, 100, 100] then
              some ((((5 : Int) :: ([] : List Int)), ((-(1 : Int)), (false, (true, ())))), ())
            else
              bif q p0 p1 [99, 111, 117, 110, 116, 32, 114, 101, 97, 100] then
              some ((([] : List Int), ((5 : Int), (false, (true, ())))), ())
            else
              bif q p0 p1 [109, 97, 120, 32, 119, 114, 105, 116, 101] then
              bif q p0 p1 [109, 97, 120, 32, 119, 114, 105, 116, 101] then
              some ((((4 : Int) :: ([] : List Int)), ((-(1 : Int)), (false, (true, ())))), ())
            else
              bif q p0 p1 [109, 97, 120, 32, 114, 101, 97, 100] then
              some ((([] : List Int), ((4 : Int), (true, (true, ())))), ())
            else
              bif q p0 p1 [111, 109, 97, 112, 32, 112, 117, 116] then
              some ((((4 : Int) :: ((2 : Int) :: ([] : List Int))), ((-(1 : Int)), (false, (true, ())))), ())
            else
              bif q p0 p1 [111, 109, 97, 112, 32, 115, 99, 97, 110] then
              some ((((4 : Int) :: ((4 : Int) :: ([] : List Int))), ((99 : Int), (false, (true, ())))), ())
            else
              some ((([] : List Int), ((0 : Int), (false, (false, ())))), ())
            else
              bif q p0 p1 [111, 109, 97, 112, 32, 100, 101, 108] then
              some ((((4 : Int) :: ([] : List Int)), ((-(1 : Int)), (false, (true, ())))), ())
            else
              bif q p0 p1 [109, 97, 120, 32, 114, 101, 97, 100] then
              some ((([] : List Int), ((4 : Int), (true, (true, ())))), ())
            else
              bif q p0 p1 [111, 109, 97, 112, 32, 112, 117, 116] then
              some ((((4 : Int) :: ((2 : Int) :: ([] : List Int))), ((-(1 : Int)), (false, (true, ())))), ())
            else
              bif q p0 p1 [111, 109, 97, 112, 32, 115, 99, 97, 110] then
              some ((((4 : Int) :: ((4 : Int) :: ([] : List Int))), ((99 : Int), (false, (true, ())))), ())
            else
              some ((([] : List Int), ((0 : Int), (false, (false, ())))), ())
            else
              bif q p0 p1 [115, 116, 97, 99, 107, 32, 112, 111, 112] then
              some ((([] : List Int), ((2 : Int), (true, (true, ())))), ())
            else
              bif q p0 p1 [99, 97, 115, 32, 115, 119, 97, 112] then
              some ((((2 : Int) :: ((2 : Int) :: ([] : List Int))), ((6 : Int), (false, (true, ())))), ())
            else
              bif q p0 p1 [115, 101, 116, 32, 104, 97, 115] then
              some ((((2 : Int) :: ([] : List Int)), ((6 : Int), (false, (true, ())))), ())
            else
              bif q p0 p1 [109, 97, 112, 32, 112, 117, 116] then
              some ((((3 : Int) :: ((2 : Int) :: ([] : List Int))), ((-(1 : Int)), (false, (true, ())))), ())
            else
              bif q p0 p1 [109, 97, 112, 32, 103, 101, 116] then
              some ((((3 : Int) :: ([] : List Int)), ((2 : Int), (true, (true, ())))), ())
            else
              bif q p0 p1 [109, 97, 112, 32, 100, 101, 108] then
              some ((((3 : Int) :: ([] : List Int)), ((-(1 : Int)), (false, (true, ())))), ())
            else
              bif q p0 p1 [108, 111, 99, 107, 32, 116, 97, 107, 101] then
              bif q p0 p1 [108, 111, 99, 107, 32, 116, 97, 107, 101] then
              some ((([] : List Int), ((6 : Int), (false, (true, ())))), ())
            else
              bif q p0 p1 [99, 111, 117, 110, 116, 32, 97, 100, 100] then
              some ((((5 : Int) :: ([] : List Int)), ((-(1 : Int)), (false, (true, ())))), ())
            else
              bif q p0 p1 [99, 111, 117, 110, 116, 32, 114, 101, 97, 100] then
              some ((([] : List Int), ((5 : Int), (false, (true, ())))), ())
            else
              bif q p0 p1 [109, 97, 120, 32, 119, 114, 105, 116, 101] then
              bif q p0 p1 [109, 97, 120, 32, 119, 114, 105, 116, 101] then
              some ((((4 : Int) :: ([] : List Int)), ((-(1 : Int)), (false, (true, ())))), ())
            else
              bif q p0 p1 [109, 97, 120, 32, 114, 101, 97, 100] then
              some ((([] : List Int), ((4 : Int), (true, (true, ())))), ())
            else
              bif q p0 p1 [111, 109, 97, 112, 32, 112, 117, 116] then
              some ((((4 : Int) :: ((2 : Int) :: ([] : List Int))), ((-(1 : Int)), (false, (true, ())))), ())
            else
              bif q p0 p1 [111, 109, 97, 112, 32, 115, 99, 97, 110] then
              some ((((4 : Int) :: ((4 : Int) :: ([] : List Int))), ((99 : Int), (false, (true, ())))), ())
            else
              some ((([] : List Int), ((0 : Int), (false, (false, ())))), ())
            else
              bif q p0 p1 [111, 109, 97, 112, 32, 100, 101, 108] then
              some ((((4 : Int) :: ([] : List Int)), ((-(1 : Int)), (false, (true, ())))), ())
            else
              bif q p0 p1 [109, 97, 120, 32, 114, 101, 97, 100] then
              some ((([] : List Int), ((4 : Int), (true, (true, ())))), ())
            else
              bif q p0 p1 [111, 109, 97, 112, 32, 112, 117, 116] then
              some ((((4 : Int) :: ((2 : Int) :: ([] : List Int))), ((-(1 : Int)), (false, (true, ())))), ())
            else
              bif q p0 p1 [111, 109, 97, 112, 32, 115, 99, 97, 110] then
              some ((((4 : Int) :: ((4 : Int) :: ([] : List Int))), ((99 : Int), (false, (true, ())))), ())
            else
              some ((([] : List Int), ((0 : Int), (false, (false, ())))), ())
            else
              bif q p0 p1 [108, 111, 99, 107, 32, 102, 114, 101, 101] then
              some ((([] : List Int), ((6 : Int), (false, (true, ())))), ())
            else
              bif q p0 p1 [99, 111, 117, 110, 116, 32, 97, 100, 100] then
              some ((((5 : Int) :: ([] : List Int)), ((-(1 : Int)), (false, (true, ())))), ())
            else
              bif q p0 p1 [99, 111, 117, 110, 116, 32, 114, 101, 97, 100] then
              some ((([] : List Int), ((5 : Int), (false, (true, ())))), ())
            else
              bif q p0 p1 [109, 97, 120, 32, 119, 114, 105, 116, 101] then
              bif q p0 p1 [109, 97, 120, 32, 119, 114, 105, 116, 101] then
              some ((((4 : Int) :: ([] : List Int)), ((-(1 : Int)), (false, (true, ())))), ())
            else
              bif q p0 p1 [109, 97, 120, 32, 114, 101, 97, 100] then
              some ((([] : List Int), ((4 : Int), (true, (true, ())))), ())
            else
              bif q p0 p1 [111, 109, 97, 112, 32, 112, 117, 116] then
              some ((((4 : Int) :: ((2 : Int) :: ([] : List Int))), ((-(1 : Int)), (false, (true, ())))), ())
            else
              bif q p0 p1 [111, 109, 97, 112, 32, 115, 99, 97, 110] then
              some ((((4 : Int) :: ((4 : Int) :: ([] : List Int))), ((99 : Int), (false, (true, ())))), ())
            else
              some ((([] : List Int), ((0 : Int), (false, (false, ())))), ())
            else
              bif q p0 p1 [111, 109, 97, 112, 32, 100, 101, 108] then
              some ((((4 : Int) :: ([] : List Int)), ((-(1 : Int)), (false, (true, ())))), ())
            else
              bif q p0 p1 [109, 97, 120, 32, 114, 101, 97, 100] then
              some ((([] : List Int), ((4 : Int), (true, (true, ())))), ())
            else
              bif q p0 p1 [111, 109, 97, 112, 32, 112, 117, 116] then
              some ((((4 : Int) :: ((2 : Int) :: ([] : List Int))), ((-(1 : Int)), (false, (true, ())))), ())
            else
              bif q p0 p1 [111, 109, 97, 112, 32, 115, 99, 97, 110] then
              some ((((4 : Int) :: ((4 : Int) :: ([] : List Int))), ((99 : Int), (false, (true, ())))), ())
            else
              some ((([] : List Int), ((0 : Int), (false, (false, ())))), ())
            else
              bif q p0 p1 [102, 105, 102, 111, 32, 112, 117, 115, 104] then
              bif q p0 p1 [102, 105, 102, 111, 32, 112, 117, 115, 104] then
              some ((((2 : Int) :: ([] : List Int)), ((-(1 : Int)), (false, (true, ())))), ())
            else
              bif q p0 p1 [114, 101, 103, 32, 114, 101, 97, 100] then
              bif q p0 p1 [114, 101, 103, 32, 114, 101, 97, 100] then
              some ((([] : List Int), ((2 : Int), (true, (true, ())))), ())
            else
              bif q p0 p1 [99, 97, 115, 32, 115, 119, 97, 112] then
              some ((((2 : Int) :: ((2 : Int) :: ([] : List Int))), ((6 : Int), (false, (true, ())))), ())
            else
              bif q p0 p1 [115, 101, 116, 32, 104, 97, 115] then
              some ((((2 : Int) :: ([] : List Int)), ((6 : Int), (false, (true, ())))), ())
            else
              bif q p0 p1 [109, 97, 112, 32, 112, 117, 116] then
              some ((((3 : Int) :: ((2 : Int) :: ([] : List Int))), ((-(1 : Int)), (false, (true, ())))), ())
            else
              bif q p0 p1 [109, 97, 112, 32, 103, 101, 116] then
              some ((((3 : Int) :: ([] : List Int)), ((2 : Int), (true, (true, ())))), ())
            else
              bif q p0 p1 [109, 97, 112, 32, 100, 101, 108] then
              some ((((3 : Int) :: ([] : List Int)), ((-(1 : Int)), (false, (true, ())))), ())
            else
              bif q p0 p1 [108, 111, 99, 107, 32, 116, 97, 107, 101] then
              bif q p0 p1 [108, 111, 99, 107, 32, 116, 97, 107, 101] then
              some ((([] : List Int), ((6 : Int), (false, (true, ())))), ())
            else
              bif q p0 p1 [99, 111, 117, 110, 116, 32, 97, 100, 100] then
              some ((((5 : Int) :: ([] : List Int)), ((-(1 : Int)), (false, (true, ())))), ())
            else
              bif q p0 p1 [99, 111, 117, 110, 116, 32, 114, 101, 97, 100] then
              some ((([] : List Int), ((5 : Int), (false, (true, ())))), ())
            else
              bif q p0 p1 [109, 97, 120, 32, 119, 114, 105, 116, 101] then
              bif q p0 p1 [109, 97, 120, 32, 119, 114, 105, 116, 101] then
              some ((((4 : Int) :: ([] : List Int)), ((-(1 : Int)), (false, (true, ())))), ())
            else
              bif q p0 p1 [109, 97, 120, 32, 114, 101, 97, 100] then
              some ((([] : List Int), ((4 : Int), (true, (true, ())))), ())
            else
              bif q p0 p1 [111, 109, 97, 112, 32, 112, 117, 116] then
              some ((((4 : Int) :: ((2 : Int) :: ([] : List Int))), ((-(1 : Int)), (false, (true, ())))), ())
            else
              bif q p0 p1 [111, 109, 97, 112, 32, 115, 99, 97, 110] then
              some ((((4 : Int) :: ((4 : Int) :: ([] : List Int))), ((99 : Int), (false, (true, ())))), ())
            else
              some ((([] : List Int), ((0 : Int), (false, (false, ())))), ())
            else
              bif q p0 p1 [111, 109, 97, 112, 32, 100, 101, 108] then
              some ((((4 : Int) :: ([] : List Int)), ((-(1 : Int)), (false, (true, ())))), ())
            else
              bif q p0 p1 [109, 97, 120, 32, 114, 101, 97, 100] then
              some ((([] : List Int), ((4 : Int), (true, (true, ())))), ())
            else
              bif q p0 p1 [111, 109, 97, 112, 32, 112, 117, 116] then
              some ((((4 : Int) :: ((2 : Int) :: ([] : List Int))), ((-(1 : Int)), (false, (true, ())))), ())
            else
              bif q p0 p1 [111, 109, 97, 112, 32, 115, 99, 97, 110] then
              some ((((4 : Int) :: ((4 : Int) :: ([] : List Int))), ((99 : Int), (false, (true, ())))), ())
            else
              some ((([] : List Int), ((0 : Int), (false, (false, ())))), ())
            else
              bif q p0 p1 [108, 111, 99, 107, 32, 102, 114, 101, 101] then
              some ((([] : List Int), ((6 : Int), (false, (true, ())))), ())
            else
              bif q p0 p1 [99, 111, 117, 110, 116, 32, 97, 100, 100] then
              some ((((5 : Int) :: ([] : List Int)), ((-(1 : Int)), (false, (true, ())))), ())
            else
              bif q p0 p1 [99, 111, 117, 110, 116, 32, 114, 101, 97, 100] then
              some ((([] : List Int), ((5 : Int), (false, (true, ())))), ())
            else
              bif q p0 p1 [109, 97, 120, 32, 119, 114, 105, 116, 101] then
              bif q p0 p1 [109, 97, 120, 32, 119, 114, 105, 116, 101] then
              some ((((4 : Int) :: ([] : List Int)), ((-(1 : Int)), (false, (true, ())))), ())
            else
              bif q p0 p1 [109, 97, 120, 32, 114, 101, 97, 100] then
              some ((([] : List Int), ((4 : Int), (true, (true, ())))), ())
            else
              bif q p0 p1 [111, 109, 97, 112, 32, 112, 117, 116] then
              some ((((4 : Int) :: ((2 : Int) :: ([] : List Int))), ((-(1 : Int)), (false, (true, ())))), ())
            else
              bif q p0 p1 [111, 109, 97, 112, 32, 115, 99, 97, 110] then
              some ((((4 : Int) :: ((4 : Int) :: ([] : List Int))), ((99 : Int), (false, (true, ())))), ())
            else
              some ((([] : List Int), ((0 : Int), (false, (false, ())))), ())
            else
              bif q p0 p1 [111, 109, 97, 112, 32, 100, 101, 108] then
              some ((((4 : Int) :: ([] : List Int)), ((-(1 : Int)), (false, (true, ())))), ())
            else
              bif q p0 p1 [109, 97, 120, 32, 114, 101, 97, 100] then
              some ((([] : List Int), ((4 : Int), (true, (true, ())))), ())
            else
              bif q p0 p1 [111, 109, 97, 112, 32, 112, 117, 116] then
              some ((((4 : Int) :: ((2 : Int) :: ([] : List Int))), ((-(1 : Int)), (false, (true, ())))), ())
            else
              bif q p0 p1 [111, 109, 97, 112, 32, 115, 99, 97, 110] then
              some ((((4 : Int) :: ((4 : Int) :: ([] : List Int))), ((99 : Int), (false, (true, ())))), ())
            else
              some ((([] : List Int), ((0 : Int), (false, (false, ())))), ())
            else
              bif q p0 p1 [99, 97, 115, 32, 114, 101, 97, 100] then
              bif q p0 p1 [99, 97, 115, 32, 114, 101, 97, 100] then
              some ((([] : List Int), ((2 : Int), (true, (true, ())))), ())
            else
              bif q p0 p1 [99, 97, 115, 32, 115, 119, 97, 112] then
              some ((((2 : Int) :: ((2 : Int) :: ([] : List Int))), ((6 : Int), (false, (true, ())))), ())
            else
              bif q p0 p1 [115, 101, 116, 32, 104, 97, 115] then
              some ((((2 : Int) :: ([] : List Int)), ((6 : Int), (false, (true, ())))), ())
            else
              bif q p0 p1 [109, 97, 112, 32, 112, 117, 116] then
              some ((((3 : Int) :: ((2 : Int) :: ([] : List Int))), ((-(1 : Int)), (false, (true, ())))), ())
            else
              bif q p0 p1 [109, 97, 112, 32, 103, 101, 116] then
              some ((((3 : Int) :: ([] : List Int)), ((2 : Int), (true, (true, ())))), ())
            else
              bif q p0 p1 [109, 97, 112, 32, 100, 101, 108] then
              some ((((3 : Int) :: ([] : List Int)), ((-(1 : Int)), (false, (true, ())))), ())
            else
              bif q p0 p1 [108, 111, 99, 107, 32, 116, 97, 107, 101] then
              bif q p0 p1 [108, 111, 99, 107, 32, 116, 97, 107, 101] then
              some ((([] : List Int), ((6 : Int), (false, (true, ())))), ())
            else
              bif q p0 p1 [99, 111, 117, 110, 116, 32, 97, 100, 100] then
              some ((((5 : Int) :: ([] : List Int)), ((-(1 : Int)), (false, (true, ())))), ())
            else
              bif q p0 p1 [99, 111, 117, 110, 116, 32, 114, 101, 97, 100] then
              some ((([] : List Int), ((5 : Int), (false, (true, ())))), ())
            else
              bif q p0 p1 [109, 97, 120, 32, 119, 114, 105, 116, 101] then
              bif q p0 p1 [109, 97, 120, 32, 119, 114, 105, 116, 101] then
              some ((((4 : Int) :: ([] : List Int)), ((-(1 : Int)), (false, (true, ())))), ())
            else
              bif q p0 p1 [109, 97, 120, 32, 114, 101, 97, 100] then
              some ((([] : List Int), ((4 : Int), (true, (true, ())))), ())
            else
              bif q p0 p1 [111, 109, 97, 112, 32, 112, 117, 116] then
              some ((((4 : Int) :: ((2 : Int) :: ([] : List Int))), ((-(1 : Int)), (false, (true, ())))), ())
            else
              bif q p0 p1 [111, 109, 97, 112, 32, 115, 99, 97, 110] then
              some ((((4 : Int) :: ((4 : Int) :: ([] : List Int))), ((99 : Int), (false, (true, ())))), ())
            else
              some ((([] : List Int), ((0 : Int), (false, (false, ())))), ())
            else
              bif q p0 p1 [111, 109, 97, 112, 32, 100, 101, 108] then
              some ((((4 : Int) :: ([] : List Int)), ((-(1 : Int)), (false, (true, ())))), ())
            else
              bif q p0 p1 [109, 97, 120, 32, 114, 101, 97, 100] then
              some ((([] : List Int), ((4 : Int), (true, (true, ())))), ())
            else
              bif q p0 p1 [111, 109, 97, 112, 32, 112, 117, 116] then
              some ((((4 : Int) :: ((2 : Int) :: ([] : List Int))), ((-(1 : Int)), (false, (true, ())))), ())
            else
              bif q p0 p1 [111, 109, 97, 112, 32, 115, 99, 97, 110] then
              some ((((4 : Int) :: ((4 : Int) :: ([] : List Int))), ((99 : Int), (false, (true, ())))), ())
            else
              some ((([] : List Int), ((0 : Int), (false, (false, ())))), ())
            else
              bif q p0 p1 [108, 111, 99, 107, 32, 102, 114, 101, 101] then
              some ((([] : List Int), ((6 : Int), (false, (true, ())))), ())
            else
              bif q p0 p1 [99, 111, 117, 110, 116, 32, 97, 100, 100] then
              some ((((5 : Int) :: ([] : List Int)), ((-(1 : Int)), (false, (true, ())))), ())
            else
              bif q p0 p1 [99, 111, 117, 110, 116, 32, 114, 101, 97, 100] then
              some ((([] : List Int), ((5 : Int), (false, (true, ())))), ())
            else
              bif q p0 p1 [109, 97, 120, 32, 119, 114, 105, 116, 101] then
              bif q p0 p1 [109, 97, 120, 32, 119, 114, 105, 116, 101] then
              some ((((4 : Int) :: ([] : List Int)), ((-(1 : Int)), (false, (true, ())))), ())
            else
              bif q p0 p1 [109, 97, 120, 32, 114, 101, 97, 100] then
              some ((([] : List Int), ((4 : Int), (true, (true, ())))), ())
            else
              bif q p0 p1 [111, 109, 97, 112, 32, 112, 117, 116] then
              some ((((4 : Int) :: ((2 : Int) :: ([] : List Int))), ((-(1 : Int)), (false, (true, ())))), ())
            else
              bif q p0 p1 [111, 109, 97, 112, 32, 115, 99, 97, 110] then
              some ((((4 : Int) :: ((4 : Int) :: ([] : List Int))), ((99 : Int), (false, (true, ())))), ())
            else
              some ((([] : List Int), ((0 : Int), (false, (false, ())))), ())
            else
              bif q p0 p1 [111, 109, 97, 112, 32, 100, 101, 108] then
              some ((((4 : Int) :: ([] : List Int)), ((-(1 : Int)), (false, (true, ())))), ())
            else
              bif q p0 p1 [109, 97, 120, 32, 114, 101, 97, 100] then
              some ((([] : List Int), ((4 : Int), (true, (true, ())))), ())
            else
              bif q p0 p1 [111, 109, 97, 112, 32, 112, 117, 116] then
              some ((((4 : Int) :: ((2 : Int) :: ([] : List Int))), ((-(1 : Int)), (false, (true, ())))), ())
            else
              bif q p0 p1 [111, 109, 97, 112, 32, 115, 99, 97, 110] then
              some ((((4 : Int) :: ((4 : Int) :: ([] : List Int))), ((99 : Int), (false, (true, ())))), ())
            else
              some ((([] : List Int), ((0 : Int), (false, (false, ())))), ())
            else
              bif q p0 p1 [102, 105, 102, 111, 32, 112, 111, 112] then
              bif q p0 p1 [102, 105, 102, 111, 32, 112, 111, 112] then
              some ((([] : List Int), ((2 : Int), (true, (true, ())))), ())
            else
              bif q p0 p1 [99, 97, 115, 32, 115, 119, 97, 112] then
              some ((((2 : Int) :: ((2 : Int) :: ([] : List Int))), ((6 : Int), (false, (true, ())))), ())
            else
              bif q p0 p1 [115, 101, 116, 32, 104, 97, 115] then
              some ((((2 : Int) :: ([] : List Int)), ((6 : Int), (false, (true, ())))), ())
            else
              bif q p0 p1 [109, 97, 112, 32, 112, 117, 116] then
              some ((((3 : Int) :: ((2 : Int) :: ([] : List Int))), ((-(1 : Int)), (false, (true, ())))), ())
            else
              bif q p0 p1 [109, 97, 112, 32, 103, 101, 116] then
              some ((((3 : Int) :: ([] : List Int)), ((2 : Int), (true, (true, ())))), ())
            else
              bif q p0 p1 [109, 97, 112, 32, 100, 101, 108] then
              some ((((3 : Int) :: ([] : List Int)), ((-(1 : Int)), (false, (true, ())))), ())
            else
              bif q p0 p1 [108, 111, 99, 107, 32, 116, 97, 107, 101] then
              bif q p0 p1 [108, 111, 99, 107, 32, 116, 97, 107, 101] then
              some ((([] : List Int), ((6 : Int), (false, (true, ())))), ())
            else
              bif q p0 p1 [99, 111, 117, 110, 116, 32, 97, 100, 100] then
              some ((((5 : Int) :: ([] : List Int)), ((-(1 : Int)), (false, (true, ())))), ())
            else
              bif q p0 p1 [99, 111, 117, 110, 116, 32, 114, 101, 97, 100] then
              some ((([] : List Int), ((5 : Int), (false, (true, ())))), ())
            else
              bif q p0 p1 [109, 97, 120, 32, 119, 114, 105, 116, 101] then
              bif q p0 p1 [109, 97, 120, 32, 119, 114, 105, 116, 101] then
              some ((((4 : Int) :: ([] : List Int)), ((-(1 : Int)), (false, (true, ())))), ())
            else
              bif q p0 p1 [109, 97, 120, 32, 114, 101, 97, 100] then
              some ((([] : List Int), ((4 : Int), (true, (true, ())))), ())
            else
              bif q p0 p1 [111, 109, 97, 112, 32, 112, 117, 116] then
              some ((((4 : Int) :: ((2 : Int) :: ([] : List Int))), ((-(1 : Int)), (false, (true, ())))), ())
            else
              bif q p0 p1 [111, 109, 97, 112, 32, 115, 99, 97, 110] then
              some ((((4 : Int) :: ((4 : Int) :: ([] : List Int))), ((99 : Int), (false, (true, ())))), ())
            else
              some ((([] : List Int), ((0 : Int), (false, (false, ())))), ())
            else
              bif q p0 p1 [111, 109, 97, 112, 32, 100, 101, 108] then
              some ((((4 : Int) :: ([] : List Int)), ((-(1 : Int)), (false, (true, ())))), ())
            else
              bif q p0 p1 [109, 97, 120, 32, 114, 101, 97, 100] then
              some ((([] : List Int), ((4 : Int), (true, (true, ())))), ())
            else
              bif q p0 p1 [111, 109, 97, 112, 32, 112, 117, 116] then
              some ((((4 : Int) :: ((2 : Int) :: ([] : List Int))), ((-(1 : Int)), (false, (true, ())))), ())
            else
              bif q p0 p1 [111, 109, 97, 112, 32, 115, 99, 97, 110] then
              some ((((4 : Int) :: ((4 : Int) :: ([] : List Int))), ((99 : Int), (false, (true, ())))), ())
            else
              some ((([] : List Int), ((0 : Int), (false, (false, ())))), ())
            else
              bif q p0 p1 [108, 111, 99, 107, 32, 102, 114, 101, 101] then
              some ((([] : List Int), ((6 : Int), (false, (true, ())))), ())
            else
              bif q p0 p1 [99, 111, 117, 110, 116, 32, 97, 100, 100] then
              some ((((5 : Int) :: ([] : List Int)), ((-(1 : Int)), (false, (true, ())))), ())
            else
              bif q p0 p1 [99, 111, 117, 110, 116, 32, 114, 101, 97, 100] then
              some ((([] : List Int), ((5 : Int), (false, (true, ())))), ())
            else
              bif q p0 p1 [109, 97, 120, 32, 119, 114, 105, 116, 101] then
              bif q p0 p1 [109, 97, 120, 32, 119, 114, 105, 116, 101] then
              some ((((4 : Int) :: ([] : List Int)), ((-(1 : Int)), (false, (true, ())))), ())
            else
              bif q p0 p1 [109, 97, 120, 32, 114, 101, 97, 100] then
              some ((([] : List Int), ((4 : Int), (true, (true, ())))), ())
            else
              bif q p0 p1 [111, 109, 97, 112, 32, 112, 117, 116] then
              some ((((4 : Int) :: ((2 : Int) :: ([] : List Int))), ((-(1 : Int)), (false, (true, ())))), ())
            else
              bif q p0 p1 [111, 109, 97, 112, 32, 115, 99, 97, 110] then
              some ((((4 : Int) :: ((4 : Int) :: ([] : List Int))), ((99 : Int), (false, (true, ())))), ())
            else
              some ((([] : List Int), ((0 : Int), (false, (false, ())))), ())
            else
              bif q p0 p1 [111, 109, 97, 112, 32, 100, 101, 108] then
              some ((((4 : Int) :: ([] : List Int)), ((-(1 : Int)), (false, (true, ())))), ())
            else
              bif q p0 p1 [109, 97, 120, 32, 114, 101, 97, 100] then
              some ((([] : List Int), ((4 : Int), (true, (true, ())))), ())
            else
              bif q p0 p1 [111, 109, 97, 112, 32, 112, 117, 116] then
              some ((((4 : Int) :: ((2 : Int) :: ([] : List Int))), ((-(1 : Int)), (false, (true, ())))), ())
            else
              bif q p0 p1 [111, 109, 97, 112, 32, 115, 99, 97, 110] then
              some ((((4 : Int) :: ((4 : Int) :: ([] : List Int))), ((99 : Int), (false, (true, ())))), ())
            else
              some ((([] : List Int), ((0 : Int), (false, (false, ())))), ())
            else
              bif q p0 p1 [115, 116, 97, 99, 107, 32, 112, 111, 112] then
              some ((([] : List Int), ((2 : Int), (true, (true, ())))), ())
            else
              bif q p0 p1 [99, 97, 115, 32, 115, 119, 97, 112] then
              some ((((2 : Int) :: ((2 : Int) :: ([] : List Int))), ((6 : Int), (false, (true, ())))), ())
            else
              bif q p0 p1 [115, 101, 116, 32, 104, 97, 115] then
              some ((((2 : Int) :: ([] : List Int)), ((6 : Int), (false, (true, ())))), ())
            else
              bif q p0 p1 [109, 97, 112, 32, 112, 117, 116] then
              some ((((3 : Int) :: ((2 : Int) :: ([] : List Int))), ((-(1 : Int)), (false, (true, ())))), ())
            else
              bif q p0 p1 [109, 97, 112, 32, 103, 101, 116] then
              some ((((3 : Int) :: ([] : List Int)), ((2 : Int), (true, (true, ())))), ())
            else
              bif q p0 p1 [109, 97, 112, 32, 100, 101, 108] then
              some ((((3 : Int) :: ([] : List Int)), ((-(1 : Int)), (false, (true, ())))), ())
            else
              bif q p0 p1 [108, 111, 99, 107, 32, 116, 97, 107, 101] then
              bif q p0 p1 [108, 111, 99, 107, 32, 116, 97, 107, 101] then
              some ((([] : List Int), ((6 : Int), (false, (true, ())))), ())
            else
              bif q p0 p1 [99, 111, 117, 110, 116, 32, 97, 100, 100] then
              some ((((5 : Int) :: ([] : List Int)), ((-(1 : Int)), (false, (true, ())))), ())
            else
              bif q p0 p1 [99, 111, 117, 110, 116, 32, 114, 101, 97, 100] then
              some ((([] : List Int), ((5 : Int), (false, (true, ())))), ())
            else
              bif q p0 p1 [109, 97, 120, 32, 119, 114, 105, 116, 101] then
              bif q p0 p1 [109, 97, 120, 32, 119, 114, 105, 116, 101] then
              some ((((4 : Int) :: ([] : List Int)), ((-(1 : Int)), (false, (true, ())))), ())
            else
              bif q p0 p1 [109, 97, 120, 32, 114, 101, 97, 100] then
              some ((([] : List Int), ((4 : Int), (true, (true, ())))), ())
            else
              bif q p0 p1 [111, 109, 97, 112, 32, 112, 117, 116] then
              some ((((4 : Int) :: ((2 : Int) :: ([] : List Int))), ((-(1 : Int)), (false, (true, ())))), ())
            else
              bif q p0 p1 [111, 109, 97, 112, 32, 115, 99, 97, 110] then
              some ((((4 : Int) :: ((4 : Int) :: ([] : List Int))), ((99 : Int), (false, (true, ())))), ())
            else
              some ((([] : List Int), ((0 : Int), (false, (false, ())))), ())
            else
              bif q p0 p1 [111, 109, 97, 112, 32, 100, 101, 108] then
              some ((((4 : Int) :: ([] : List Int)), ((-(1 : Int)), (false, (true, ())))), ())
            else
              bif q p0 p1 [109, 97, 120, 32, 114, 101, 97, 100] then
              some ((([] : List Int), ((4 : Int), (true, (true, ())))), ())
            else
              bif q p0 p1 [111, 109, 97, 112, 32, 112, 117, 116] then
              some ((((4 : Int) :: ((2 : Int) :: ([] : List Int))), ((-(1 : Int)), (false, (true, ())))), ())
            else
              bif q p0 p1 [111, 109, 97, 112, 32, 115, 99, 97, 110] then
              some ((((4 : Int) :: ((4 : Int) :: ([] : List Int))), ((99 : Int), (false, (true, ())))), ())
            else
              some ((([] : List Int), ((0 : Int), (false, (false, ())))), ())
            else
              bif q p0 p1 [108, 111, 99, 107, 32, 102, 114, 101, 101] then
              some ((([] : List Int), ((6 : Int), (false, (true, ())))), ())
            else
              bif q p0 p1 [99, 111, 117, 110, 116, 32, 97, 100, 100] then
              some ((((5 : Int) :: ([] : List Int)), ((-(1 : Int)), (false, (true, ())))), ())
            else
              bif q p0 p1 [99, 111, 117, 110, 116, 32, 114, 101, 97, 100] then
              some ((([] : List Int), ((5 : Int), (false, (true, ())))), ())
            else
              bif q p0 p1 [109, 97, 120, 32, 119, 114, 105, 116, 101] then
              bif q p0 p1 [109, 97, 120, 32, 119, 114, 105, 116, 101] then
              some ((((4 : Int) :: ([] : List Int)), ((-(1 : Int)), (false, (true, ())))), ())
            else
              bif q p0 p1 [109, 97, 120, 32, 114, 101, 97, 100] then
              some ((([] : List Int), ((4 : Int), (true, (true, ())))), ())
            else
              bif q p0 p1 [111, 109, 97, 112, 32, 112, 117, 116] then
              some ((((4 : Int) :: ((2 : Int) :: ([] : List Int))), ((-(1 : Int)), (false, (true, ())))), ())
            else
              bif q p0 p1 [111, 109, 97, 112, 32, 115, 99, 97, 110] then
              some ((((4 : Int) :: ((4 : Int) :: ([] : List Int))), ((99 : Int), (false, (true, ())))), ())
            else
              some ((([] : List Int), ((0 : Int), (false, (false, ())))), ())
            else
              bif q p0 p1 [111, 109, 97, 112, 32, 100, 101, 108] then
              some ((((4 : Int) :: ([] : List Int)), ((-(1 : Int)), (false, (true, ())))), ())
            else
              bif q p0 p1 [109, 97, 120, 32, 114, 101, 97, 100] then
              some ((([] : List Int), ((4 : Int), (true, (true, ())))), ())
            else
              bif q p0 p1 [111, 109, 97, 112, 32, 112, 117, 116] then
              some ((((4 : Int) :: ((2 : Int) :: ([] : List Int))), ((-(1 : Int)), (false, (true, ())))), ())
            else
              bif q p0 p1 [111, 109, 97, 112, 32, 115, 99, 97, 110] then
              some ((((4 : Int) :: ((4 : Int) :: ([] : List Int))), ((99 : Int), (false, (true, ())))), ())
            else
              some ((([] : List Int), ((0 : Int), (false, (false, ())))), ())
            else
              bif q p0 p1 [115, 116, 97, 99, 107, 32, 112, 117, 115, 104] then
              some ((((2 : Int) :: ([] : List Int)), ((-(1 : Int)), (false, (true, ())))), ())
            else
              bif q p0 p1 [114, 101, 103, 32, 114, 101, 97, 100] then
              bif q p0 p1 [114, 101, 103, 32, 114, 101, 97, 100] then
              some ((([] : List Int), ((2 : Int), (true, (true, ())))), ())
            else
              bif q p0 p1 [99, 97, 115, 32, 115, 119, 97, 112] then
              some ((((2 : Int) :: ((2 : Int) :: ([] : List Int))), ((6 : Int), (false, (true, ())))), ())
            else
              bif q p0 p1 [115, 101, 116, 32, 104, 97, 115] then
              some ((((2 : Int) :: ([] : List Int)), ((6 : Int), (false, (true, ())))), ())
            else
              bif q p0 p1 [109, 97, 112, 32, 112, 117, 116] then
              some ((((3 : Int) :: ((2 : Int) :: ([] : List Int))), ((-(1 : Int)), (false, (true, ())))), ())
            else
              bif q p0 p1 [109, 97, 112, 32, 103, 101, 116] then
              some ((((3 : Int) :: ([] : List Int)), ((2 : Int), (true, (true, ())))), ())
            else
              bif q p0 p1 [109, 97, 112, 32, 100, 101, 108] then
              some ((((3 : Int) :: ([] : List Int)), ((-(1 : Int)), (false, (true, ())))), ())
            else
              bif q p0 p1 [108, 111, 99, 107, 32, 116, 97, 107, 101] then
              bif q p0 p1 [108, 111, 99, 107, 32, 116, 97, 107, 101] then
              some ((([] : List Int), ((6 : Int), (false, (true, ())))), ())
            else
              bif q p0 p1 [99, 111, 117, 110, 116, 32, 97, 100, 100] then
              some ((((5 : Int) :: ([] : List Int)), ((-(1 : Int)), (false, (true, ())))), ())
            else
              bif q p0 p1 [99, 111, 117, 110, 116, 32, 114, 101, 97, 100] then
              some ((([] : List Int), ((5 : Int), (false, (true, ())))), ())
            else
              bif q p0 p1 [109, 97, 120, 32, 119, 114, 105, 116, 101] then
              bif q p0 p1 [109, 97, 120, 32, 119, 114, 105, 116, 101] then
              some ((((4 : Int) :: ([] : List Int)), ((-(1 : Int)), (false, (true, ())))), ())
            else
              bif q p0 p1 [109, 97, 120, 32, 114, 101, 97, 100] then
              some ((([] : List Int), ((4 : Int), (true, (true, ())))), ())
            else
              bif q p0 p1 [111, 109, 97, 112, 32, 112, 117, 116] then
              some ((((4 : Int) :: ((2 : Int) :: ([] : List Int))), ((-(1 : Int)), (false, (true, ())))), ())
            else
              bif q p0 p1 [111, 109, 97, 112, 32, 115, 99, 97, 110] then
              some ((((4 : Int) :: ((4 : Int) :: ([] : List Int))), ((99 : Int), (false, (true, ())))), ())
            else
              some ((([] : List Int), ((0 : Int), (false, (false, ())))), ())
            else
              bif q p0 p1 [111, 109, 97, 112, 32, 100, 101, 108] then
              some ((((4 : Int) :: ([] : List Int)), ((-(1 : Int)), (false, (true, ())))), ())
            else
              bif q p0 p1 [109, 97, 120, 32, 114, 101, 97, 100] then
              some ((([] : List Int), ((4 : Int), (true, (true, ())))), ())
            else
              bif q p0 p1 [111, 109, 97, 112, 32, 112, 117, 116] then
              some ((((4 : Int) :: ((2 : Int) :: ([] : List Int))), ((-(1 : Int)), (false, (true, ())))), ())
            else
              bif q p0 p1 [111, 109, 97, 112, 32, 115, 99, 97, 110] then
              some ((((4 : Int) :: ((4 : Int) :: ([] : List Int))), ((99 : Int), (false, (true, ())))), ())
            else
              some ((([] : List Int), ((0 : Int), (false, (false, ())))), ())
            else
              bif q p0 p1 [108, 111, 99, 107, 32, 102, 114, 101, 101] then
              some ((([] : List Int), ((6 : Int), (false, (true, ())))), ())
            else
              bif q p0 p1 [99, 111, 117, 110, 116, 32, 97, 100, 100] then
              some ((((5 : Int) :: ([] : List Int)), ((-(1 : Int)), (false, (true, ())))), ())
            else
              bif q p0 p1 [99, 111, 117, 110, 116, 32, 114, 101, 97, 100] then
              some ((([] : List Int), ((5 : Int), (false, (true, ())))), ())
            else
              bif q p0 p1 [109, 97, 120, 32, 119, 114, 105, 116, 101] then
              bif q p0 p1 [109, 97, 120, 32, 119, 114, 105, 116, 101] then
              some ((((4 : Int) :: ([] : List Int)), ((-(1 : Int)), (false, (true, ())))), ())
            else
              bif q p0 p1 [109, 97, 120, 32, 114, 101, 97, 100] then
              some ((([] : List Int), ((4 : Int), (true, (true, ())))), ())
            else
              bif q p0 p1 [111, 109, 97, 112, 32, 112, 117, 116] then
              some ((((4 : Int) :: ((2 : Int) :: ([] : List Int))), ((-(1 : Int)), (false, (true, ())))), ())
            else
              bif q p0 p1 [111, 109, 97, 112, 32, 115, 99, 97, 110] then
              some ((((4 : Int) :: ((4 : Int) :: ([] : List Int))), ((99 : Int), (false, (true, ())))), ())
            else
              some ((([] : List Int), ((0 : Int), (false, (false, ())))), ())
            else
              bif q p0 p1 [111, 109, 97, 112, 32, 100, 101, 108] then
              some ((((4 : Int) :: ([] : List Int)), ((-(1 : Int)), (false, (true, ())))), ())
            else
              bif q p0 p1 [109, 97, 120, 32, 114, 101, 97, 100] then
              some ((([] : List Int), ((4 : Int), (true, (true, ())))), ())
            else
              bif q p0 p1 [111, 109, 97, 112, 32, 112, 117, 116] then
              some ((((4 : Int) :: ((2 : Int) :: ([] : List Int))), ((-(1 : Int)), (false, (true, ())))), ())
            else
              bif q p0 p1 [111, 109, 97, 112, 32, 115, 99, 97, 110] then
              some ((((4 : Int) :: ((4 : Int) :: ([] : List Int))), ((99 : Int), (false, (true, ())))), ())
            else
              some ((([] : List Int), ((0 : Int), (false, (false, ())))), ())
            else
              bif q p0 p1 [99, 97, 115, 32, 114, 101, 97, 100] then
              bif q p0 p1 [99, 97, 115, 32, 114, 101, 97, 100] then
              some ((([] : List Int), ((2 : Int), (true, (true, ())))), ())
            else
              bif q p0 p1 [99, 97, 115, 32, 115, 119, 97, 112] then
              some ((((2 : Int) :: ((2 : Int) :: ([] : List Int))), ((6 : Int), (false, (true, ())))), ())
            else
              bif q p0 p1 [115, 101, 116, 32, 104, 97, 115] then
              some ((((2 : Int) :: ([] : List Int)), ((6 : Int), (false, (true, ())))), ())
            else
              bif q p0 p1 [109, 97, 112, 32, 112, 117, 116] then
              some ((((3 : Int) :: ((2 : Int) :: ([] : List Int))), ((-(1 : Int)), (false, (true, ())))), ())
            else
              bif q p0 p1 [109, 97, 112, 32, 103, 101, 116] then
              some ((((3 : Int) :: ([] : List Int)), ((2 : Int), (true, (true, ())))), ())
            else
              bif q p0 p1 [109, 97, 112, 32, 100, 101, 108] then
              some ((((3 : Int) :: ([] : List Int)), ((-(1 : Int)), (false, (true, ())))), ())
            else
              bif q p0 p1 [108, 111, 99, 107, 32, 116, 97, 107, 101] then
              bif q p0 p1 [108, 111, 99, 107, 32, 116, 97, 107, 101] then
              some ((([] : List Int), ((6 : Int), (false, (true, ())))), ())
            else
              bif q p0 p1 [99, 111, 117, 110, 116, 32, 97, 100, 100] then
              some ((((5 : Int) :: ([] : List Int)), ((-(1 : Int)), (false, (true, ())))), ())
            else
              bif q p0 p1 [99, 111, 117, 110, 116, 32, 114, 101, 97, 100] then
              some ((([] : List Int), ((5 : Int), (false, (true, ())))), ())
            else
              bif q p0 p1 [109, 97, 120, 32, 119, 114, 105, 116, 101] then
              bif q p0 p1 [109, 97, 120, 32, 119, 114, 105, 116, 101] then
              some ((((4 : Int) :: ([] : List Int)), ((-(1 : Int)), (false, (true, ())))), ())
            else
              bif q p0 p1 [109, 97, 120, 32, 114, 101, 97, 100] then
              some ((([] : List Int), ((4 : Int), (true, (true, ())))), ())
            else
              bif q p0 p1 [111, 109, 97, 112, 32, 112, 117, 116] then
              some ((((4 : Int) :: ((2 : Int) :: ([] : List Int))), ((-(1 : Int)), (false, (true, ())))), ())
            else
              bif q p0 p1 [111, 109, 97, 112, 32, 115, 99, 97, 110] then
              some ((((4 : Int) :: ((4 : Int) :: ([] : List Int))), ((99 : Int), (false, (true, ())))), ())
            else
              some ((([] : List Int), ((0 : Int), (false, (false, ())))), ())
            else
              bif q p0 p1 [111, 109, 97, 112, 32, 100, 101, 108] then
              some ((((4 : Int) :: ([] : List Int)), ((-(1 : Int)), (false, (true, ())))), ())
            else
              bif q p0 p1 [109, 97, 120, 32, 114, 101, 97, 100] then
              some ((([] : List Int), ((4 : Int), (true, (true, ())))), ())
            else
              bif q p0 p1 [111, 109, 97, 112, 32, 112, 117, 116] then
              some ((((4 : Int) :: ((2 : Int) :: ([] : List Int))), ((-(1 : Int)), (false, (true, ())))), ())
            else
              bif q p0 p1 [111, 109, 97, 112, 32, 115, 99, 97, 110] then
              some ((((4 : Int) :: ((4 : Int) :: ([] : List Int))), ((99 : Int), (false, (true, ())))), ())
            else
              some ((([] : List Int), ((0 : Int), (false, (false, ())))), ())
            else
              bif q p0 p1 [108, 111, 99, 107, 32, 102, 114, 101, 101] then
              some ((([] : List Int), ((6 : Int), (false, (true, ())))), ())
            else
              bif q p0 p1 [99, 111, 117, 110, 116, 32, 97, 100, 100] then
              some ((((5 : Int) :: ([] : List Int)), ((-(1 : Int)), (false, (true, ())))), ())
            else
              bif q p0 p1 [99, 111, 117, 110, 116, 32, 114, 101, 97, 100] then
              some ((([] : List Int), ((5 : Int), (false, (true, ())))), ())
            else
              bif q p0 p1 [109, 97, 120, 32, 119, 114, 105, 116, 101] then
              bif q p0 p1 [109, 97, 120, 32, 119, 114, 105, 116, 101] then
              some ((((4 : Int) :: ([] : List Int)), ((-(1 : Int)), (false, (true, ())))), ())
            else
              bif q p0 p1 [109, 97, 120, 32, 114, 101, 97, 100] then
              some ((([] : List Int), ((4 : Int), (true, (true, ())))), ())
            else
              bif q p0 p1 [111, 109, 97, 112, 32, 112, 117, 116] then
              some ((((4 : Int) :: ((2 : Int) :: ([] : List Int))), ((-(1 : Int)), (false, (true, ())))), ())
            else
              bif q p0 p1 [111, 109, 97, 112, 32, 115, 99, 97, 110] then
              some ((((4 : Int) :: ((4 : Int) :: ([] : List Int))), ((99 : Int), (false, (true, ())))), ())
            else
              some ((([] : List Int), ((0 : Int), (false, (false, ())))), ())
            else
              bif q p0 p1 [111, 109, 97, 112, 32, 100, 101, 108] then
              some ((((4 : Int) :: ([] : List Int)), ((-(1 : Int)), (false, (true, ())))), ())
            else
              bif q p0 p1 [109, 97, 120, 32, 114, 101, 97, 100] then
              some ((([] : List Int), ((4 : Int), (true, (true, ())))), ())
            else
              bif q p0 p1 [111, 109, 97, 112, 32, 112, 117, 116] then
              some ((((4 : Int) :: ((2 : Int) :: ([] : List Int))), ((-(1 : Int)), (false, (true, ())))), ())
            else
              bif q p0 p1 [111, 109, 97, 112, 32, 115, 99, 97, 110] then
              some ((((4 : Int) :: ((4 : Int) :: ([] : List Int))), ((99 : Int), (false, (true, ())))), ())
            else
              some ((([] : List Int), ((0 : Int), (false, (false, ())))), ())
            else
              bif q p0 p1 [102, 105, 102, 111, 32, 112, 111, 112] then
              bif q p0 p1 [102, 105, 102, 111, 32, 112, 111, 112] then
              some ((([] : List Int), ((2 : Int), (true, (true, ())))), ())
            else
              bif q p0 p1 [99, 97, 115, 32, 115, 119, 97, 112] then
              some ((((2 : Int) :: ((2 : Int) :: ([] : List Int))), ((6 : Int), (false, (true, ())))), ())
            else
              bif q p0 p1 [115, 101, 116, 32, 104, 97, 115] then
              some ((((2 : Int) :: ([] : List Int)), ((6 : Int), (false, (true, ())))), ())
            else
              bif q p0 p1 [109, 97, 112, 32, 112, 117, 116] then
              some ((((3 : Int) :: ((2 : Int) :: ([] : List Int))), ((-(1 : Int)), (false, (true, ())))), ())
            else
              bif q p0 p1 [109, 97, 112, 32, 103, 101, 116] then
              some ((((3 : Int) :: ([] : List Int)), ((2 : Int), (true, (true, ())))), ())
            else
              bif q p0 p1 [109, 97, 112, 32, 100, 101, 108] then
              some ((((3 : Int) :: ([] : List Int)), ((-(1 : Int)), (false, (true, ())))), ())
            else
              bif q p0 p1 [108, 111, 99, 107, 32, 116, 97, 107, 101] then
              bif q p0 p1 [108, 111, 99, 107, 32, 116, 97, 107, 101] then
              some ((([] : List Int), ((6 : Int), (false, (true, ())))), ())
            else
              bif q p0 p1 [99, 111, 117, 110, 116, 32, 97, 100, 100] then
              some ((((5 : Int) :: ([] : List Int)), ((-(1 : Int)), (false, (true, ())))), ())
            else
              bif q p0 p1 [99, 111, 117, 110, 116, 32, 114, 101, 97, 100] then
              some ((([] : List Int), ((5 : Int), (false, (true, ())))), ())
            else
              bif q p0 p1 [109, 97, 120, 32, 119, 114, 105, 116, 101] then
              bif q p0 p1 [109, 97, 120, 32, 119, 114, 105, 116, 101] then
              some ((((4 : Int) :: ([] : List Int)), ((-(1 : Int)), (false, (true, ())))), ())
            else
              bif q p0 p1 [109, 97, 120, 32, 114, 101, 97, 100] then
              some ((([] : List Int), ((4 : Int), (true, (true, ())))), ())
            else
              bif q p0 p1 [111, 109, 97, 112, 32, 112, 117, 116] then
              some ((((4 : Int) :: ((2 : Int) :: ([] : List Int))), ((-(1 : Int)), (false, (true, ())))), ())
            else
              bif q p0 p1 [111, 109, 97, 112, 32, 115, 99, 97, 110] then
              some ((((4 : Int) :: ((4 : Int) :: ([] : List Int))), ((99 : Int), (false, (true, ())))), ())
            else
              some ((([] : List Int), ((0 : Int), (false, (false, ())))), ())
            else
              bif q p0 p1 [111, 109, 97, 112, 32, 100, 101, 108] then
              some ((((4 : Int) :: ([] : List Int)), ((-(1 : Int)), (false, (true, ())))), ())
            else
              bif q p0 p1 [109, 97, 120, 32, 114, 101, 97, 100] then
              some ((([] : List Int), ((4 : Int), (true, (true, ())))), ())
            else
              bif q p0 p1 [111, 109, 97, 112, 32, 112, 117, 116] then
              some ((((4 : Int) :: ((2 : Int) :: ([] : List Int))), ((-(1 : Int)), (false, (true, ())))), ())
            else
              bif q p0 p1 [111, 109, 97, 112, 32, 115, 99, 97, 110] then
              some ((((4 : Int) :: ((4 : Int) :: ([] : List Int))), ((99 : Int), (false, (true, ())))), ())
            else
              some ((([] : List Int), ((0 : Int), (false, (false, ())))), ())
            else
              bif q p0 p1 [108, 111, 99, 107, 32, 102, 114, 101, 101] then
              some ((([] : List Int), ((6 : Int), (false, (true, ())))), ())
            else
              bif q p0 p1 [99, 111, 117, 110, 116, 32, 97, 100, 100] then
              some ((((5 : Int) :: ([] : List Int)), ((-(1 : Int)), (false, (true, ())))), ())
            else
              bif q p0 p1 [99, 111, 117, 110, 116, 32, 114, 101, 97, 100] then
              some ((([] : List Int), ((5 : Int), (false, (true, ())))), ())
            else
              bif q p0 p1 [109, 97, 120, 32, 119, 114, 105, 116, 101] then
              bif q p0 p1 [109, 97, 120, 32, 119, 114, 105, 116, 101] then
              some ((((4 : Int) :: ([] : List Int)), ((-(1 : Int)), (false, (true, ())))), ())
            else
              bif q p0 p1 [109, 97, 120, 32, 114, 101, 97, 100] then
              some ((([] : List Int), ((4 : Int), (true, (true, ())))), ())
            else
              bif q p0 p1 [111, 109, 97, 112, 32, 112, 117, 116] then
              some ((((4 : Int) :: ((2 : Int) :: ([] : List Int))), ((-(1 : Int)), (false, (true, ())))), ())
            else
              bif q p0 p1 [111, 109, 97, 112, 32, 115, 99, 97, 110] then
              some ((((4 : Int) :: ((4 : Int) :: ([] : List Int))), ((99 : Int), (false, (true, ())))), ())
            else
              some ((([] : List Int), ((0 : Int), (false, (false, ())))), ())
            else
              bif q p0 p1 [111, 109, 97, 112, 32, 100, 101, 108] then
              some ((((4 : Int) :: ([] : List Int)), ((-(1 : Int)), (false, (true, ())))), ())
            else
              bif q p0 p1 [109, 97, 120, 32, 114, 101, 97, 100] then
              some ((([] : List Int), ((4 : Int), (true, (true, ())))), ())
            else
              bif q p0 p1 [111, 109, 97, 112, 32, 112, 117, 116] then
              some ((((4 : Int) :: ((2 : Int) :: ([] : List Int))), ((-(1 : Int)), (false, (true, ())))), ())
            else
              bif q p0 p1 [111, 109, 97, 112, 32, 115, 99, 97, 110] then
              some ((((4 : Int) :: ((4 : Int) :: ([] : List Int))), ((99 : Int), (false, (true, ())))), ())
            else
              some ((([] : List Int), ((0 : Int), (false, (false, ())))), ())
            else
              bif q p0 p1 [115, 116, 97, 99, 107, 32, 112, 111, 112] then
              some ((([] : List Int), ((2 : Int), (true, (true, ())))), ())
            else
              bif q p0 p1 [99, 97, 115, 32, 115, 119, 97, 112] then
              some ((((2 : Int) :: ((2 : Int) :: ([] : List Int))), ((6 : Int), (false, (true, ())))), ())
            else
              bif q p0 p1 [115, 101, 116, 32, 104, 97, 115] then
              some ((((2 : Int) :: ([] : List Int)), ((6 : Int), (false, (true, ())))), ())
            else
              bif q p0 p1 [109, 97, 112, 32, 112, 117, 116] then
              some ((((3 : Int) :: ((2 : Int) :: ([] : List Int))), ((-(1 : Int)), (false, (true, ())))), ())
            else
              bif q p0 p1 [109, 97, 112, 32, 103, 101, 116] then
              some ((((3 : Int) :: ([] : List Int)), ((2 : Int), (true, (true, ())))), ())
            else
              bif q p0 p1 [109, 97, 112, 32, 100, 101, 108] then
              some ((((3 : Int) :: ([] : List Int)), ((-(1 : Int)), (false, (true, ())))), ())
            else
              bif q p0 p1 [108, 111, 99, 107, 32, 116, 97, 107, 101] then
              bif q p0 p1 [108, 111, 99, 107, 32, 116, 97, 107, 101] then
              some ((([] : List Int), ((6 : Int), (false, (true, ())))), ())
            else
              bif q p0 p1 [99, 111, 117, 110, 116, 32, 97, 100, 100] then
              some ((((5 : Int) :: ([] : List Int)), ((-(1 : Int)), (false, (true, ())))), ())
            else
              bif q p0 p1 [99, 111, 117, 110, 116, 32, 114, 101, 97, 100] then
              some ((([] : List Int), ((5 : Int), (false, (true, ())))), ())
            else
              bif q p0 p1 [109, 97, 120, 32, 119, 114, 105, 116, 101] then
              bif q p0 p1 [109, 97, 120, 32, 119, 114, 105, 116, 101] then
              some ((((4 : Int) :: ([] : List Int)), ((-(1 : Int)), (false, (true, ())))), ())
            else
              bif q p0 p1 [109, 97, 120, 32, 114, 101, 97, 100] then
              some ((([] : List Int), ((4 : Int), (true, (true, ())))), ())
            else
              bif q p0 p1 [111, 109, 97, 112, 32, 112, 117, 116] then
              some ((((4 : Int) :: ((2 : Int) :: ([] : List Int))), ((-(1 : Int)), (false, (true, ())))), ())
            else
              bif q p0 p1 [111, 109, 97, 112, 32, 115, 99, 97, 110] then
              some ((((4 : Int) :: ((4 : Int) :: ([] : List Int))), ((99 : Int), (false, (true, ())))), ())
            else
              some ((([] : List Int), ((0 : Int), (false, (false, ())))), ())
            else
              bif q p0 p1 [111, 109, 97, 112, 32, 100, 101, 108] then
              some ((((4 : Int) :: ([] : List Int)), ((-(1 : Int)), (false, (true, ())))), ())
            else
              bif q p0 p1 [109, 97, 120, 32, 114, 101, 97, 100] then
              some ((([] : List Int), ((4 : Int), (true, (true, ())))), ())
            else
              bif q p0 p1 [111, 109, 97, 112, 32, 112, 117, 116] then
              some ((((4 : Int) :: ((2 : Int) :: ([] : List Int))), ((-(1 : Int)), (false, (true, ())))), ())
            else
              bif q p0 p1 [111, 109, 97, 112, 32, 115, 99, 97, 110] then
              some ((((4 : Int) :: ((4 : Int) :: ([] : List Int))), ((99 : Int), (false, (true, ())))), ())
            else
              some ((([] : List Int), ((0 : Int), (false, (false, ())))), ())
            else
              bif q p0 p1 [108, 111, 99, 107, 32, 102, 114, 101, 101] then
              some ((([] : List Int), ((6 : Int), (false, (true, ())))), ())
            else
              bif q p0 p1 [99, 111, 117, 110, 116, 32, 97, 100, 100] then
              some ((((5 : Int) :: ([] : List Int)), ((-(1 : Int)), (false, (true, ())))), ())
            else
              bif q p0 p1 [99, 111, 117, 110, 116, 32, 114, 101, 97, 100] then
              some ((([] : List Int), ((5 : Int), (false, (true, ())))), ())
            else
              bif q p0 p1 [109, 97, 120, 32, 119, 114, 105, 116, 101] then
              bif q p0 p1 [109, 97, 120, 32, 119, 114, 105, 116, 101] then
              some ((((4 : Int) :: ([] : List Int)), ((-(1 : Int)), (false, (true, ())))), ())
            else
              bif q p0 p1 [109, 97, 120, 32, 114, 101, 97, 100] then
              some ((([] : List Int), ((4 : Int), (true, (true, ())))), ())
            else
              bif q p0 p1 [111, 109, 97, 112, 32, 112, 117, 116] then
              some ((((4 : Int) :: ((2 : Int) :: ([] : List Int))), ((-(1 : Int)), (false, (true, ())))), ())
            else
              bif q p0 p1 [111, 109, 97, 112, 32, 115, 99, 97, 110] then
              some ((((4 : Int) :: ((4 : Int) :: ([] : List Int))), ((99 : Int), (false, (true, ())))), ())
            else
              some ((([] : List Int), ((0 : Int), (false, (false, ())))), ())
            else
              bif q p0 p1 [111, 109, 97, 112, 32, 100, 101, 108] then
              some ((((4 : Int) :: ([] : List Int)), ((-(1 : Int)), (false, (true, ())))), ())
            else
              bif q p0 p1 [109, 97, 120, 32, 114, 101, 97, 100] then
              some ((([] : List Int), ((4 : Int), (true, (true, ())))), ())
            else
              bif q p0 p1 [111, 109, 97, 112, 32, 112, 117, 116] then
              some ((((4 : Int) :: ((2 : Int) :: ([] : List Int))), ((-(1 : Int)), (false, (true, ())))), ())
            else
              bif q p0 p1 [111, 109, 97, 112, 32, 115, 99, 97, 110] then
              some ((((4 : Int) :: ((4 : Int) :: ([] : List Int))), ((99 : Int), (false, (true, ())))), ())
            else
              some ((([] : List Int), ((0 : Int), (false, (false, ())))), ())
    else
      none
  else
    none
def F12 (N : Nat) (p0 : Int) (p1 : Int) : Option (((List Int) × Int × Bool × Bool × Unit) × Unit) := F12q q12 p0 p1
theorem loops12 (N : Nat) : loopsOk C12 (L12 N) Go.Proofs.Tryd.f12 := ⟨trivial, ⟨⟨trivial, ⟨⟨trivial, ⟨trivial, ⟨trivial, ⟨trivial, ⟨trivial, ⟨trivial, ⟨trivial, ⟨trivial, ⟨trivial, ⟨trivial, trivial⟩⟩⟩⟩⟩⟩⟩⟩⟩⟩, ⟨⟨trivial, trivial⟩, ⟨⟨trivial, ⟨trivial, ⟨trivial, ⟨trivial, ⟨trivial, ⟨trivial, trivial⟩⟩⟩⟩⟩⟩, ⟨⟨trivial, trivial⟩, ⟨trivial, ⟨⟨trivial, trivial⟩, ⟨trivial, ⟨⟨trivial, trivial⟩, ⟨trivial, ⟨⟨trivial, trivial⟩, ⟨trivial, ⟨⟨trivial, trivial⟩, ⟨trivial, ⟨⟨trivial, trivial⟩, ⟨⟨trivial, ⟨trivial, trivial⟩⟩, ⟨⟨trivial, trivial⟩, ⟨trivial, ⟨⟨trivial, trivial⟩, ⟨trivial, ⟨⟨trivial, trivial⟩, ⟨⟨trivial, ⟨trivial, trivial⟩⟩, ⟨⟨trivial, trivial⟩, ⟨trivial, ⟨⟨trivial, trivial⟩, ⟨trivial, ⟨⟨trivial, trivial⟩, ⟨trivial, ⟨⟨trivial, trivial⟩, trivial⟩⟩⟩⟩⟩⟩⟩⟩⟩⟩⟩⟩⟩⟩⟩⟩⟩⟩⟩⟩⟩⟩⟩⟩⟩⟩⟩⟩⟩, ⟨trivial, trivial⟩⟩⟩
theorem runs12 (N : Nat) (x : S12.ta.den) : run C12 S12 (L12 N) Go.Proofs.Tryd.f12 x = F12 N x.1 x.2.1 := by kernel_rfl

/-! ### 13: incognito/incognitoref09.Same -/
def W13_4 {β : Type} (N : Nat) (x0 : Bool → Option β) (x1 : Unit → Option β) : Nat → (List Int) → (List Int) → Int → Option β
  | 0, _, _, _ => none
  | n + 1, t0, t1, t5 =>
  bif decide (t5 < (((List.length t0) : Nat) : Int)) then
    bif ((decide ((0 : Int) ≤ t5)) && (decide (t5 < (((List.length t0) : Nat) : Int)))) then
      bif ((decide ((0 : Int) ≤ t5)) && (decide (t5 < (((List.length t1) : Nat) : Int)))) then
        bif ((List.getD t0 (Int.toNat t5) (0 : Int)) != (List.getD t1 (Int.toNat t5) (0 : Int))) then
          x0 false
        else
          W13_4 N x0 x1 n t0 t1 (Go.IntKind.wrap .i64 (t5 + (1 : Int)))
      else
        none
    else
      none
  else
    x1 ()
def L13 (N : Nat) : Loops (Bool × Unit) := fun k ρ K => match Nat.beq k 4 with
  | true => (match adH ρ H13_4.hd with
    | some v => W13_4 N (fun t4 => K .ret (encH [(8, .bo)] (t4, ()))) (fun _ => K (.exit 0) (encH [] ())) N v.1 v.2.1 v.2.2.1
    | none => none)
  | false => none
def F13 (N : Nat) (p0 : List Int) (p1 : List Int) : Option (Bool × Unit) :=
  bif ((((List.length p0) : Nat) : Int) != (((List.length p1) : Nat) : Int)) then
    some (false, ())
  else
    W13_4 N
      (fun t4 =>
        some (t4, ()))
      (fun (_ : Unit) =>
        some (true, ()))
      N p0 p1 (0 : Int)
theorem loops13 (N : Nat) : loopsOk C13 (L13 N) Go.Proofs.Tryd.f13 := ⟨trivial, ⟨⟨trivial, ⟨⟨trivial, trivial⟩, trivial⟩⟩, ⟨⟨trivial, ⟨loopOk_of H13_4 N (fun K n v => W13_4 N (fun t4 => K .ret (encH [(8, .bo)] (t4, ()))) (fun _ => K (.exit 0) (encH [] ())) n v.1 v.2.1 v.2.2.1) (by kernel_rfl) (fun K v => by kernel_rfl) (fun K v => by kernel_rfl) (fun K n v => by kernel_rfl), ⟨⟨trivial, ⟨trivial, trivial⟩⟩, ⟨⟨trivial, ⟨⟨trivial, trivial⟩, trivial⟩⟩, trivial⟩⟩⟩⟩, ⟨trivial, trivial⟩⟩⟩⟩
theorem runs13 (N : Nat) (x : S13.ta.den) : run C13 S13 (L13 N) Go.Proofs.Tryd.f13 x = F13 N x.1 x.2.1 := by kernel_rfl

/-! ### 36: incognito/sign.find$1 -/
def L36 (_ : Nat) : Loops (HS.den X36.hout) := fun _ _ _ => none
def F36 (N : Nat) (t0a : Int) (t0ba : Int) (t0bba : ByteArray) (t0bbba : Int) (t0bbbba : Bool) (b1000a : Int) (b1001a : Int) : Option (HS.den X36.hout) :=
  bif (t0a == b1000a) then
    some ((t0ba == b1001a), ((b1000a, ()), ((b1001a, ()), ())))
  else
    some (false, ((b1000a, ()), ((b1001a, ()), ())))
theorem loops36 (N : Nat) : loopsOk C36 (L36 N) Go.Proofs.Tryd.f36 := ⟨trivial, ⟨trivial, trivial⟩⟩
theorem runs36 (N : Nat) (x : HS.den X36.hin) : runX C36 X36 (L36 N) Go.Proofs.Tryd.f36 x = F36 N x.1.1 x.1.2.1 x.1.2.2.1 x.1.2.2.2.1 x.1.2.2.2.2.1 x.2.2.2.1.1 x.2.2.2.2.1.1 := by kernel_rfl

/-! ### 35: slices.IndexFunc[[]incognito/sign.row,incognito/sign.row] -/
def W35_2 {β : Type} (N : Nat) (x0 : Int → Int → Int → Option β) (x1 : Int → Int → Option β) : Nat → (List (Int × Int × ByteArray × Int × Bool × Unit)) → Int → Int → Int → Int → Option β
  | 0, _, _, _, _, _ => none
  | n + 1, t0, t7, t8, b1000a, b1001a =>
  bif decide (t8 < t7) then
    bif ((decide ((0 : Int) ≤ t8)) && (decide (t8 < (((List.length t0) : Nat) : Int)))) then
      bif (Go.Inc.hitA ((List.getD t0 (Int.toNat t8) ((0 : Int), ((0 : Int), (ByteArray.empty, ((0 : Int), (false, ())))))).1) (((List.getD t0 (Int.toNat t8) ((0 : Int), ((0 : Int), (ByteArray.empty, ((0 : Int), (false, ())))))).2).1) ((((List.getD t0 (Int.toNat t8) ((0 : Int), ((0 : Int), (ByteArray.empty, ((0 : Int), (false, ())))))).2).2).1) (((((List.getD t0 (Int.toNat t8) ((0 : Int), ((0 : Int), (ByteArray.empty, ((0 : Int), (false, ())))))).2).2).2).1) ((((((List.getD t0 (Int.toNat t8) ((0 : Int), ((0 : Int), (ByteArray.empty, ((0 : Int), (false, ())))))).2).2).2).2).1) b1000a b1001a) then
        x0 t8 b1000a b1001a
      else
        W35_2 N x0 x1 n t0 t7 (Go.IntKind.wrap .i64 (t8 + (1 : Int))) b1000a b1001a
    else
      none
  else
    x1 b1000a b1001a
def L35 (N : Nat) : Loops (HS.den X35.hout) := fun k ρ K => match Nat.beq k 2 with
  | true => (match adH ρ H35_2.hd with
    | some v => W35_2 N (fun t4 b1000a b1001a => K .ret (encH [(8, (.i .i64)), (2001, (.pr (.i .i64) .un)), (2003, (.pr (.i .i64) .un))] (t4, ((b1000a, ()), ((b1001a, ()), ()))))) (fun b1000a b1001a => K (.exit 0) (encH [(2001, (.pr (.i .i64) .un)), (2003, (.pr (.i .i64) .un))] ((b1000a, ()), ((b1001a, ()), ())))) N v.1 v.2.2.1 v.2.2.2.1 v.2.2.2.2.1.1 v.2.2.2.2.2.1.1
    | none => none)
  | false => none
def F35 (N : Nat) (t0 : List (Int × Int × ByteArray × Int × Bool × Unit)) (b1000a : Int) (b1001a : Int) : Option (HS.den X35.hout) :=
  W35_2 N
    (fun t4 b1000a b1001a =>
      some (t4, ((b1000a, ()), ((b1001a, ()), ()))))
    (fun b1000a b1001a =>
      some ((-(1 : Int)), ((b1000a, ()), ((b1001a, ()), ()))))
    N t0 (((List.length t0) : Nat) : Int) (0 : Int) b1000a b1001a
theorem loops35 (N : Nat) : loopsOk C35 (L35 N) Go.Proofs.Tryd.f35 := ⟨trivial, ⟨⟨trivial, ⟨loopOk_of H35_2 N (fun K n v => W35_2 N (fun t4 b1000a b1001a => K .ret (encH [(8, (.i .i64)), (2001, (.pr (.i .i64) .un)), (2003, (.pr (.i .i64) .un))] (t4, ((b1000a, ()), ((b1001a, ()), ()))))) (fun b1000a b1001a => K (.exit 0) (encH [(2001, (.pr (.i .i64) .un)), (2003, (.pr (.i .i64) .un))] ((b1000a, ()), ((b1001a, ()), ())))) n v.1 v.2.2.1 v.2.2.2.1 v.2.2.2.2.1.1 v.2.2.2.2.2.1.1) (by kernel_rfl) (fun K v => by kernel_rfl) (fun K v => by kernel_rfl) (fun K n v => by kernel_rfl), ⟨trivial, ⟨⟨trivial, trivial⟩, ⟨⟨trivial, ⟨trivial, ⟨⟨trivial, trivial⟩, trivial⟩⟩⟩, trivial⟩⟩⟩⟩⟩, ⟨trivial, trivial⟩⟩⟩
theorem runs35 (N : Nat) (x : HS.den X35.hin) : runX C35 X35 (L35 N) Go.Proofs.Tryd.f35 x = F35 N x.1 x.2.2.1.1 x.2.2.2.1.1 := by kernel_rfl

/-! ### 29: incognito/sign.find -/
def L29 (_ : Nat) : Loops ((Int × Int × ByteArray × Int × Bool × Unit) × Bool × Unit) := fun _ _ _ => none
def F29 (N : Nat) (p0 : Int) (p1 : Int) : Option ((Int × Int × ByteArray × Int × Bool × Unit) × Bool × Unit) :=
  bif decide ((Go.Inc.idxR (((1 : Int), ((1 : Int), ((strL [118]), ((-(1 : Int)), (false, ()))))) :: (((1 : Int), ((2 : Int), ((strL []), ((2 : Int), (true, ()))))) :: (((2 : Int), ((1 : Int), ((strL [118]), ((-(1 : Int)), (false, ()))))) :: (((2 : Int), ((2 : Int), ((strL []), ((2 : Int), (true, ()))))) :: (((2 : Int), ((3 : Int), ((strL [118, 118]), ((6 : Int), (false, ()))))) :: (((3 : Int), ((4 : Int), ((strL [118]), ((-(1 : Int)), (false, ()))))) :: (((3 : Int), ((5 : Int), ((strL [118]), ((-(1 : Int)), (false, ()))))) :: (((3 : Int), ((6 : Int), ((strL [118]), ((6 : Int), (false, ()))))) :: (((4 : Int), ((7 : Int), ((strL [102, 118]), ((-(1 : Int)), (false, ()))))) :: (((4 : Int), ((8 : Int), ((strL [102]), ((2 : Int), (true, ()))))) :: (((4 : Int), ((5 : Int), ((strL [102]), ((-(1 : Int)), (false, ()))))) :: (((5 : Int), ((9 : Int), ((strL [118]), ((-(1 : Int)), (false, ()))))) :: (((5 : Int), ((10 : Int), ((strL []), ((2 : Int), (true, ()))))) :: (((6 : Int), ((9 : Int), ((strL [118]), ((-(1 : Int)), (false, ()))))) :: (((6 : Int), ((10 : Int), ((strL []), ((2 : Int), (true, ()))))) :: (((7 : Int), ((11 : Int), ((strL []), ((6 : Int), (false, ()))))) :: (((7 : Int), ((12 : Int), ((strL []), ((6 : Int), (false, ()))))) :: (((8 : Int), ((4 : Int), ((strL [110]), ((-(1 : Int)), (false, ()))))) :: (((8 : Int), ((2 : Int), ((strL []), ((5 : Int), (false, ()))))) :: (((9 : Int), ((1 : Int), ((strL [111]), ((-(1 : Int)), (false, ()))))) :: (((9 : Int), ((2 : Int), ((strL []), ((4 : Int), (true, ()))))) :: (((10 : Int), ((7 : Int), ((strL [111, 118]), ((-(1 : Int)), (false, ()))))) :: (((10 : Int), ((5 : Int), ((strL [111]), ((-(1 : Int)), (false, ()))))) :: (((10 : Int), ((13 : Int), ((strL [111, 111]), ((99 : Int), (false, ()))))) :: ([] : List (Int × (Int × (ByteArray × (Int × (Bool × Unit)))))))))))))))))))))))))))))) p0 p1) < (0 : Int)) then
    some (((0 : Int), ((0 : Int), (ByteArray.empty, ((0 : Int), (false, ()))))), (false, ()))
  else
    bif ((decide ((0 : Int) ≤ (Go.Inc.idxR (((1 : Int), ((1 : Int), ((strL [118]), ((-(1 : Int)), (false, ()))))) :: (((1 : Int), ((2 : Int), ((strL []), ((2 : Int), (true, ()))))) :: (((2 : Int), ((1 : Int), ((strL [118]), ((-(1 : Int)), (false, ()))))) :: (((2 : Int), ((2 : Int), ((strL []), ((2 : Int), (true, ()))))) :: (((2 : Int), ((3 : Int), ((strL [118, 118]), ((6 : Int), (false, ()))))) :: (((3 : Int), ((4 : Int), ((strL [118]), ((-(1 : Int)), (false, ()))))) :: (((3 : Int), ((5 : Int), ((strL [118]), ((-(1 : Int)), (false, ()))))) :: (((3 : Int), ((6 : Int), ((strL [118]), ((6 : Int), (false, ()))))) :: (((4 : Int), ((7 : Int), ((strL [102, 118]), ((-(1 : Int)), (false, ()))))) :: (((4 : Int), ((8 : Int), ((strL [102]), ((2 : Int), (true, ()))))) :: (((4 : Int), ((5 : Int), ((strL [102]), ((-(1 : Int)), (false, ()))))) :: (((5 : Int), ((9 : Int), ((strL [118]), ((-(1 : Int)), (false, ()))))) :: (((5 : Int), ((10 : Int), ((strL []), ((2 : Int), (true, ()))))) :: (((6 : Int), ((9 : Int), ((strL [118]), ((-(1 : Int)), (false, ()))))) :: (((6 : Int), ((10 : Int), ((strL []), ((2 : Int), (true, ()))))) :: (((7 : Int), ((11 : Int), ((strL []), ((6 : Int), (false, ()))))) :: (((7 : Int), ((12 : Int), ((strL []), ((6 : Int), (false, ()))))) :: (((8 : Int), ((4 : Int), ((strL [110]), ((-(1 : Int)), (false, ()))))) :: (((8 : Int), ((2 : Int), ((strL []), ((5 : Int), (false, ()))))) :: (((9 : Int), ((1 : Int), ((strL [111]), ((-(1 : Int)), (false, ()))))) :: (((9 : Int), ((2 : Int), ((strL []), ((4 : Int), (true, ()))))) :: (((10 : Int), ((7 : Int), ((strL [111, 118]), ((-(1 : Int)), (false, ()))))) :: (((10 : Int), ((5 : Int), ((strL [111]), ((-(1 : Int)), (false, ()))))) :: (((10 : Int), ((13 : Int), ((strL [111, 111]), ((99 : Int), (false, ()))))) :: ([] : List (Int × (Int × (ByteArray × (Int × (Bool × Unit)))))))))))))))))))))))))))))) p0 p1))) && (decide ((Go.Inc.idxR (((1 : Int), ((1 : Int), ((strL [118]), ((-(1 : Int)), (false, ()))))) :: (((1 : Int), ((2 : Int), ((strL []), ((2 : Int), (true, ()))))) :: (((2 : Int), ((1 : Int), ((strL [118]), ((-(1 : Int)), (false, ()))))) :: (((2 : Int), ((2 : Int), ((strL []), ((2 : Int), (true, ()))))) :: (((2 : Int), ((3 : Int), ((strL [118, 118]), ((6 : Int), (false, ()))))) :: (((3 : Int), ((4 : Int), ((strL [118]), ((-(1 : Int)), (false, ()))))) :: (((3 : Int), ((5 : Int), ((strL [118]), ((-(1 : Int)), (false, ()))))) :: (((3 : Int), ((6 : Int), ((strL [118]), ((6 : Int), (false, ()))))) :: (((4 : Int), ((7 : Int), ((strL [102, 118]), ((-(1 : Int)), (false, ()))))) :: (((4 : Int), ((8 : Int), ((strL [102]), ((2 : Int), (true, ()))))) :: (((4 : Int), ((5 : Int), ((strL [102]), ((-(1 : Int)), (false, ()))))) :: (((5 : Int), ((9 : Int), ((strL [118]), ((-(1 : Int)), (false, ()))))) :: (((5 : Int), ((10 : Int), ((strL []), ((2 : Int), (true, ()))))) :: (((6 : Int), ((9 : Int), ((strL [118]), ((-(1 : Int)), (false, ()))))) :: (((6 : Int), ((10 : Int), ((strL []), ((2 : Int), (true, ()))))) :: (((7 : Int), ((11 : Int), ((strL []), ((6 : Int), (false, ()))))) :: (((7 : Int), ((12 : Int), ((strL []), ((6 : Int), (false, ()))))) :: (((8 : Int), ((4 : Int), ((strL [110]), ((-(1 : Int)), (false, ()))))) :: (((8 : Int), ((2 : Int), ((strL []), ((5 : Int), (false, ()))))) :: (((9 : Int), ((1 : Int), ((strL [111]), ((-(1 : Int)), (false, ()))))) :: (((9 : Int), ((2 : Int), ((strL []), ((4 : Int), (true, ()))))) :: (((10 : Int), ((7 : Int), ((strL [111, 118]), ((-(1 : Int)), (false, ()))))) :: (((10 : Int), ((5 : Int), ((strL [111]), ((-(1 : Int)), (false, ()))))) :: (((10 : Int), ((13 : Int), ((strL [111, 111]), ((99 : Int), (false, ()))))) :: ([] : List (Int × (Int × (ByteArray × (Int × (Bool × Unit)))))))))))))))))))))))))))))) p0 p1) < (((List.length (((1 : Int), ((1 : Int), ((strL [118]), ((-(1 : Int)), (false, ()))))) :: (((1 : Int), ((2 : Int), ((strL []), ((2 : Int), (true, ()))))) :: (((2 : Int), ((1 : Int), ((strL [118]), ((-(1 : Int)), (false, ()))))) :: (((2 : Int), ((2 : Int), ((strL []), ((2 : Int), (true, ()))))) :: (((2 : Int), ((3 : Int), ((strL [118, 118]), ((6 : Int), (false, ()))))) :: (((3 : Int), ((4 : Int), ((strL [118]), ((-(1 : Int)), (false, ()))))) :: (((3 : Int), ((5 : Int), ((strL [118]), ((-(1 : Int)), (false, ()))))) :: (((3 : Int), ((6 : Int), ((strL [118]), ((6 : Int), (false, ()))))) :: (((4 : Int), ((7 : Int), ((strL [102, 118]), ((-(1 : Int)), (false, ()))))) :: (((4 : Int), ((8 : Int), ((strL [102]), ((2 : Int), (true, ()))))) :: (((4 : Int), ((5 : Int), ((strL [102]), ((-(1 : Int)), (false, ()))))) :: (((5 : Int), ((9 : Int), ((strL [118]), ((-(1 : Int)), (false, ()))))) :: (((5 : Int), ((10 : Int), ((strL []), ((2 : Int), (true, ()))))) :: (((6 : Int), ((9 : Int), ((strL [118]), ((-(1 : Int)), (false, ()))))) :: (((6 : Int), ((10 : Int), ((strL []), ((2 : Int), (true, ()))))) :: (((7 : Int), ((11 : Int), ((strL []), ((6 : Int), (false, ()))))) :: (((7 : Int), ((12 : Int), ((strL []), ((6 : Int), (false, ()))))) :: (((8 : Int), ((4 : Int), ((strL [110]), ((-(1 : Int)), (false, ()))))) :: (((8 : Int), ((2 : Int), ((strL []), ((5 : Int), (false, ()))))) :: (((9 : Int), ((1 : Int), ((strL [111]), ((-(1 : Int)), (false, ()))))) :: (((9 : Int), ((2 : Int), ((strL []), ((4 : Int), (true, ()))))) :: (((10 : Int), ((7 : Int), ((strL [111, 118]), ((-(1 : Int)), (false, ()))))) :: (((10 : Int), ((5 : Int), ((strL [111]), ((-(1 : Int)), (false, ()))))) :: (((10 : Int), ((13 : Int), ((strL [111, 111]), ((99 : Int), (false, ()))))) :: ([] : List (Int × (Int × (ByteArray × (Int × (Bool × Unit))))))))))))))))))))))))))))))) : Nat) : Int)))) then
      some (((List.getD (((1 : Int), ((1 : Int), ((strL [118]), ((-(1 : Int)), (false, ()))))) :: (((1 : Int), ((2 : Int), ((strL []), ((2 : Int), (true, ()))))) :: (((2 : Int), ((1 : Int), ((strL [118]), ((-(1 : Int)), (false, ()))))) :: (((2 : Int), ((2 : Int), ((strL []), ((2 : Int), (true, ()))))) :: (((2 : Int), ((3 : Int), ((strL [118, 118]), ((6 : Int), (false, ()))))) :: (((3 : Int), ((4 : Int), ((strL [118]), ((-(1 : Int)), (false, ()))))) :: (((3 : Int), ((5 : Int), ((strL [118]), ((-(1 : Int)), (false, ()))))) :: (((3 : Int), ((6 : Int), ((strL [118]), ((6 : Int), (false, ()))))) :: (((4 : Int), ((7 : Int), ((strL [102, 118]), ((-(1 : Int)), (false, ()))))) :: (((4 : Int), ((8 : Int), ((strL [102]), ((2 : Int), (true, ()))))) :: (((4 : Int), ((5 : Int), ((strL [102]), ((-(1 : Int)), (false, ()))))) :: (((5 : Int), ((9 : Int), ((strL [118]), ((-(1 : Int)), (false, ()))))) :: (((5 : Int), ((10 : Int), ((strL []), ((2 : Int), (true, ()))))) :: (((6 : Int), ((9 : Int), ((strL [118]), ((-(1 : Int)), (false, ()))))) :: (((6 : Int), ((10 : Int), ((strL []), ((2 : Int), (true, ()))))) :: (((7 : Int), ((11 : Int), ((strL []), ((6 : Int), (false, ()))))) :: (((7 : Int), ((12 : Int), ((strL []), ((6 : Int), (false, ()))))) :: (((8 : Int), ((4 : Int), ((strL [110]), ((-(1 : Int)), (false, ()))))) :: (((8 : Int), ((2 : Int), ((strL []), ((5 : Int), (false, ()))))) :: (((9 : Int), ((1 : Int), ((strL [111]), ((-(1 : Int)), (false, ()))))) :: (((9 : Int), ((2 : Int), ((strL []), ((4 : Int), (true, ()))))) :: (((10 : Int), ((7 : Int), ((strL [111, 118]), ((-(1 : Int)), (false, ()))))) :: (((10 : Int), ((5 : Int), ((strL [111]), ((-(1 : Int)), (false, ()))))) :: (((10 : Int), ((13 : Int), ((strL [111, 111]), ((99 : Int), (false, ()))))) :: ([] : List (Int × (Int × (ByteArray × (Int × (Bool × Unit)))))))))))))))))))))))))))))) (Int.toNat (Go.Inc.idxR (((1 : Int), ((1 : Int), ((strL [118]), ((-(1 : Int)), (false, ()))))) :: (((1 : Int), ((2 : Int), ((strL []), ((2 : Int), (true, ()))))) :: (((2 : Int), ((1 : Int), ((strL [118]), ((-(1 : Int)), (false, ()))))) :: (((2 : Int), ((2 : Int), ((strL []), ((2 : Int), (true, ()))))) :: (((2 : Int), ((3 : Int), ((strL [118, 118]), ((6 : Int), (false, ()))))) :: (((3 : Int), ((4 : Int), ((strL [118]), ((-(1 : Int)), (false, ()))))) :: (((3 : Int), ((5 : Int), ((strL [118]), ((-(1 : Int)), (false, ()))))) :: (((3 : Int), ((6 : Int), ((strL [118]), ((6 : Int), (false, ()))))) :: (((4 : Int), ((7 : Int), ((strL [102, 118]), ((-(1 : Int)), (false, ()))))) :: (((4 : Int), ((8 : Int), ((strL [102]), ((2 : Int), (true, ()))))) :: (((4 : Int), ((5 : Int), ((strL [102]), ((-(1 : Int)), (false, ()))))) :: (((5 : Int), ((9 : Int), ((strL [118]), ((-(1 : Int)), (false, ()))))) :: (((5 : Int), ((10 : Int), ((strL []), ((2 : Int), (true, ()))))) :: (((6 : Int), ((9 : Int), ((strL [118]), ((-(1 : Int)), (false, ()))))) :: (((6 : Int), ((10 : Int), ((strL []), ((2 : Int), (true, ()))))) :: (((7 : Int), ((11 : Int), ((strL []), ((6 : Int), (false, ()))))) :: (((7 : Int), ((12 : Int), ((strL []), ((6 : Int), (false, ()))))) :: (((8 : Int), ((4 : Int), ((strL [110]), ((-(1 : Int)), (false, ()))))) :: (((8 : Int), ((2 : Int), ((strL []), ((5 : Int), (false, ()))))) :: (((9 : Int), ((1 : Int), ((strL [111]), ((-(1 : Int)), (false, ()))))) :: (((9 : Int), ((2 : Int), ((strL []), ((4 : Int), (true, ()))))) :: (((10 : Int), ((7 : Int), ((strL [111, 118]), ((-(1 : Int)), (false, ()))))) :: (((10 : Int), ((5 : Int), ((strL [111]), ((-(1 : Int)), (false, ()))))) :: (((10 : Int), ((13 : Int), ((strL [111, 111]), ((99 : Int), (false, ()))))) :: ([] : List (Int × (Int × (ByteArray × (Int × (Bool × Unit)))))))))))))))))))))))))))))) p0 p1)) ((0 : Int), ((0 : Int), (ByteArray.empty, ((0 : Int), (false, ())))))).1, (((List.getD (((1 : Int), ((1 : Int), ((strL [118]), ((-(1 : Int)), (false, ()))))) :: (((1 : Int), ((2 : Int), ((strL []), ((2 : Int), (true, ()))))) :: (((2 : Int), ((1 : Int), ((strL [118]), ((-(1 : Int)), (false, ()))))) :: (((2 : Int), ((2 : Int), ((strL []), ((2 : Int), (true, ()))))) :: (((2 : Int), ((3 : Int), ((strL [118, 118]), ((6 : Int), (false, ()))))) :: (((3 : Int), ((4 : Int), ((strL [118]), ((-(1 : Int)), (false, ()))))) :: (((3 : Int), ((5 : Int), ((strL [118]), ((-(1 : Int)), (false, ()))))) :: (((3 : Int), ((6 : Int), ((strL [118]), ((6 : Int), (false, ()))))) :: (((4 : Int), ((7 : Int), ((strL [102, 118]), ((-(1 : Int)), (false, ()))))) :: (((4 : Int), ((8 : Int), ((strL [102]), ((2 : Int), (true, ()))))) :: (((4 : Int), ((5 : Int), ((strL [102]), ((-(1 : Int)), (false, ()))))) :: (((5 : Int), ((9 : Int), ((strL [118]), ((-(1 : Int)), (false, ()))))) :: (((5 : Int), ((10 : Int), ((strL []), ((2 : Int), (true, ()))))) :: (((6 : Int), ((9 : Int), ((strL [118]), ((-(1 : Int)), (false, ()))))) :: (((6 : Int), ((10 : Int), ((strL []), ((2 : Int), (true, ()))))) :: (((7 : Int), ((11 : Int), ((strL []), ((6 : Int), (false, ()))))) :: (((7 : Int), ((12 : Int), ((strL []), ((6 : Int), (false, ()))))) :: (((8 : Int), ((4 : Int), ((strL [110]), ((-(1 : Int)), (false, ()))))) :: (((8 : Int), ((2 : Int), ((strL []), ((5 : Int), (false, ()))))) :: (((9 : Int), ((1 : Int), ((strL [111]), ((-(1 : Int)), (false, ()))))) :: (((9 : Int), ((2 : Int), ((strL []), ((4 : Int), (true, ()))))) :: (((10 : Int), ((7 : Int), ((strL [111, 118]), ((-(1 : Int)), (false, ()))))) :: (((10 : Int), ((5 : Int), ((strL [111]), ((-(1 : Int)), (false, ()))))) :: (((10 : Int), ((13 : Int), ((strL [111, 111]), ((99 : Int), (false, ()))))) :: ([] : List (Int × (Int × (ByteArray × (Int × (Bool × Unit)))))))))))))))))))))))))))))) (Int.toNat (Go.Inc.idxR (((1 : Int), ((1 : Int), ((strL [118]), ((-(1 : Int)), (false, ()))))) :: (((1 : Int), ((2 : Int), ((strL []), ((2 : Int), (true, ()))))) :: (((2 : Int), ((1 : Int), ((strL [118]), ((-(1 : Int)), (false, ()))))) :: (((2 : Int), ((2 : Int), ((strL []), ((2 : Int), (true, ()))))) :: (((2 : Int), ((3 : Int), ((strL [118, 118]), ((6 : Int), (false, ()))))) :: (((3 : Int), ((4 : Int), ((strL [118]), ((-(1 : Int)), (false, ()))))) :: (((3 : Int), ((5 : Int), ((strL [118]), ((-(1 : Int)), (false, ()))))) :: (((3 : Int), ((6 : Int), ((strL [118]), ((6 : Int), (false, ()))))) :: (((4 : Int), ((7 : Int), ((strL [102, 118]), ((-(1 : Int)), (false, ()))))) :: (((4 : Int), ((8 : Int), ((strL [102]), ((2 : Int), (true, ()))))) :: (((4 : Int), ((5 : Int), ((strL [102]), ((-(1 : Int)), (false, ()))))) :: (((5 : Int), ((9 : Int), ((strL [118]), ((-(1 : Int)), (false, ()))))) :: (((5 : Int), ((10 : Int), ((strL []), ((2 : Int), (true, ()))))) :: (((6 : Int), ((9 : Int), ((strL [118]), ((-(1 : Int)), (false, ()))))) :: (((6 : Int), ((10 : Int), ((strL []), ((2 : Int), (true, ()))))) :: (((7 : Int), ((11 : Int), ((strL []), ((6 : Int), (false, ()))))) :: (((7 : Int), ((12 : Int), ((strL []), ((6 : Int), (false, ()))))) :: (((8 : Int), ((4 : Int), ((strL [110]), ((-(1 : Int)), (false, ()))))) :: (((8 : Int), ((2 : Int), ((strL []), ((5 : Int), (false, ()))))) :: (((9 : Int), ((1 : Int), ((strL [111]), ((-(1 : Int)), (false, ()))))) :: (((9 : Int), ((2 : Int), ((strL []), ((4 : Int), (true, ()))))) :: (((10 : Int), ((7 : Int), ((strL [111, 118]), ((-(1 : Int)), (false, ()))))) :: (((10 : Int), ((5 : Int), ((strL [111]), ((-(1 : Int)), (false, ()))))) :: (((10 : Int), ((13 : Int), ((strL [111, 111]), ((99 : Int), (false, ()))))) :: ([] : List (Int × (Int × (ByteArray × (Int × (Bool × Unit)))))))))))))))))))))))))))))) p0 p1)) ((0 : Int), ((0 : Int), (ByteArray.empty, ((0 : Int), (false, ())))))).2).1, ((((List.getD (((1 : Int), ((1 : Int), ((strL [118]), ((-(1 : Int)), (false, ()))))) :: (((1 : Int), ((2 : Int), ((strL []), ((2 : Int), (true, ()))))) :: (((2 : Int), ((1 : Int), ((strL [118]), ((-(1 : Int)), (false, ()))))) :: (((2 : Int), ((2 : Int), ((strL []), ((2 : Int), (true, ()))))) :: (((2 : Int), ((3 : Int), ((strL [118, 118]), ((6 : Int), (false, ()))))) :: (((3 : Int), ((4 : Int), ((strL [118]), ((-(1 : Int)), (false, ()))))) :: (((3 : Int), ((5 : Int), ((strL [118]), ((-(1 : Int)), (false, ()))))) :: (((3 : Int), ((6 : Int), ((strL [118]), ((6 : Int), (false, ()))))) :: (((4 : Int), ((7 : Int), ((strL [102, 118]), ((-(1 : Int)), (false, ()))))) :: (((4 : Int), ((8 : Int), ((strL [102]), ((2 : Int), (true, ()))))) :: (((4 : Int), ((5 : Int), ((strL [102]), ((-(1 : Int)), (false, ()))))) :: (((5 : Int), ((9 : Int), ((strL [118]), ((-(1 : Int)), (false, ()))))) :: (((5 : Int), ((10 : Int), ((strL []), ((2 : Int), (true, ()))))) :: (((6 : Int), ((9 : Int), ((strL [118]), ((-(1 : Int)), (false, ()))))) :: (((6 : Int), ((10 : Int), ((strL []), ((2 : Int), (true, ()))))) :: (((7 : Int), ((11 : Int), ((strL []), ((6 : Int), (false, ()))))) :: (((7 : Int), ((12 : Int), ((strL []), ((6 : Int), (false, ()))))) :: (((8 : Int), ((4 : Int), ((strL [110]), ((-(1 : Int)), (false, ()))))) :: (((8 : Int), ((2 : Int), ((strL []), ((5 : Int), (false, ()))))) :: (((9 : Int), ((1 : Int), ((strL [111]), ((-(1 : Int)), (false, ()))))) :: (((9 : Int), ((2 : Int), ((strL []), ((4 : Int), (true, ()))))) :: (((10 : Int), ((7 : Int), ((strL [111, 118]), ((-(1 : Int)), (false, ()))))) :: (((10 : Int), ((5 : Int), ((strL [111]), ((-(1 : Int)), (false, ()))))) :: (((10 : Int), ((13 : Int), ((strL [111, 111]), ((99 : Int), (false, ()))))) :: ([] : List (Int × (Int × (ByteArray × (Int × (Bool × Unit)))))))))))))))))))))))))))))) (Int.toNat (Go.Inc.idxR (((1 : Int), ((1 : Int), ((strL [118]), ((-(1 : Int)), (false, ()))))) :: (((1 : Int), ((2 : Int), ((strL []), ((2 : Int), (true, ()))))) :: (((2 : Int), ((1 : Int), ((strL [118]), ((-(1 : Int)), (false, ()))))) :: (((2 : Int), ((2 : Int), ((strL []), ((2 : Int), (true, ()))))) :: (((2 : Int), ((3 : Int), ((strL [118, 118]), ((6 : Int), (false, ()))))) :: (((3 : Int), ((4 : Int), ((strL [118]), ((-(1 : Int)), (false, ()))))) :: (((3 : Int), ((5 : Int), ((strL [118]), ((-(1 : Int)), (false, ()))))) :: (((3 : Int), ((6 : Int), ((strL [118]), ((6 : Int), (false, ()))))) :: (((4 : Int), ((7 : Int), ((strL [102, 118]), ((-(1 : Int)), (false, ()))))) :: (((4 : Int), ((8 : Int), ((strL [102]), ((2 : Int), (true, ()))))) :: (((4 : Int), ((5 : Int), ((strL [102]), ((-(1 : Int)), (false, ()))))) :: (((5 : Int), ((9 : Int), ((strL [118]), ((-(1 : Int)), (false, ()))))) :: (((5 : Int), ((10 : Int), ((strL []), ((2 : Int), (true, ()))))) :: (((6 : Int), ((9 : Int), ((strL [118]), ((-(1 : Int)), (false, ()))))) :: (((6 : Int), ((10 : Int), ((strL []), ((2 : Int), (true, ()))))) :: (((7 : Int), ((11 : Int), ((strL []), ((6 : Int), (false, ()))))) :: (((7 : Int), ((12 : Int), ((strL []), ((6 : Int), (false, ()))))) :: (((8 : Int), ((4 : Int), ((strL [110]), ((-(1 : Int)), (false, ()))))) :: (((8 : Int), ((2 : Int), ((strL []), ((5 : Int), (false, ()))))) :: (((9 : Int), ((1 : Int), ((strL [111]), ((-(1 : Int)), (false, ()))))) :: (((9 : Int), ((2 : Int), ((strL []), ((4 : Int), (true, ()))))) :: (((10 : Int), ((7 : Int), ((strL [111, 118]), ((-(1 : Int)), (false, ()))))) :: (((10 : Int), ((5 : Int), ((strL [111]), ((-(1 : Int)), (false, ()))))) :: (((10 : Int), ((13 : Int), ((strL [111, 111]), ((99 : Int), (false, ()))))) :: ([] : List (Int × (Int × (ByteArray × (Int × (Bool × Unit)))))))))))))))))))))))))))))) p0 p1)) ((0 : Int), ((0 : Int), (ByteArray.empty, ((0 : Int), (false, ())))))).2).2).1, (((((List.getD (((1 : Int), ((1 : Int), ((strL [118]), ((-(1 : Int)), (false, ()))))) :: (((1 : Int), ((2 : Int), ((strL []), ((2 : Int), (true, ()))))) :: (((2 : Int), ((1 : Int), ((strL [118]), ((-(1 : Int)), (false, ()))))) :: (((2 : Int), ((2 : Int), ((strL []), ((2 : Int), (true, ()))))) :: (((2 : Int), ((3 : Int), ((strL [118, 118]), ((6 : Int), (false, ()))))) :: (((3 : Int), ((4 : Int), ((strL [118]), ((-(1 : Int)), (false, ()))))) :: (((3 : Int), ((5 : Int), ((strL [118]), ((-(1 : Int)), (false, ()))))) :: (((3 : Int), ((6 : Int), ((strL [118]), ((6 : Int), (false, ()))))) :: (((4 : Int), ((7 : Int), ((strL [102, 118]), ((-(1 : Int)), (false, ()))))) :: (((4 : Int), ((8 : Int), ((strL [102]), ((2 : Int), (true, ()))))) :: (((4 : Int), ((5 : Int), ((strL [102]), ((-(1 : Int)), (false, ()))))) :: (((5 : Int), ((9 : Int), ((strL [118]), ((-(1 : Int)), (false, ()))))) :: (((5 : Int), ((10 : Int), ((strL []), ((2 : Int), (true, ()))))) :: (((6 : Int), ((9 : Int), ((strL [118]), ((-(1 : Int)), (false, ()))))) :: (((6 : Int), ((10 : Int), ((strL []), ((2 : Int), (true, ()))))) :: (((7 : Int), ((11 : Int), ((strL []), ((6 : Int), (false, ()))))) :: (((7 : Int), ((12 : Int), ((strL []), ((6 : Int), (false, ()))))) :: (((8 : Int), ((4 : Int), ((strL [110]), ((-(1 : Int)), (false, ()))))) :: (((8 : Int), ((2 : Int), ((strL []), ((5 : Int), (false, ()))))) :: (((9 : Int), ((1 : Int), ((strL [111]), ((-(1 : Int)), (false, ()))))) :: (((9 : Int), ((2 : Int), ((strL []), ((4 : Int), (true, ()))))) :: (((10 : Int), ((7 : Int), ((strL [111, 118]), ((-(1 : Int)), (false, ()))))) :: (((10 : Int), ((5 : Int), ((strL [111]), ((-(1 : Int)), (false, ()))))) :: (((10 : Int), ((13 : Int), ((strL [111, 111]), ((99 : Int), (false, ()))))) :: ([] : List (Int × (Int × (ByteArray × (Int × (Bool × Unit)))))))))))))))))))))))))))))) (Int.toNat (Go.Inc.idxR (((1 : Int), ((1 : Int), ((strL [118]), ((-(1 : Int)), (false, ()))))) :: (((1 : Int), ((2 : Int), ((strL []), ((2 : Int), (true, ()))))) :: (((2 : Int), ((1 : Int), ((strL [118]), ((-(1 : Int)), (false, ()))))) :: (((2 : Int), ((2 : Int), ((strL []), ((2 : Int), (true, ()))))) :: (((2 : Int), ((3 : Int), ((strL [118, 118]), ((6 : Int), (false, ()))))) :: (((3 : Int), ((4 : Int), ((strL [118]), ((-(1 : Int)), (false, ()))))) :: (((3 : Int), ((5 : Int), ((strL [118]), ((-(1 : Int)), (false, ()))))) :: (((3 : Int), ((6 : Int), ((strL [118]), ((6 : Int), (false, ()))))) :: (((4 : Int), ((7 : Int), ((strL [102, 118]), ((-(1 : Int)), (false, ()))))) :: (((4 : Int), ((8 : Int), ((strL [102]), ((2 : Int), (true, ()))))) :: (((4 : Int), ((5 : Int), ((strL [102]), ((-(1 : Int)), (false, ()))))) :: (((5 : Int), ((9 : Int), ((strL [118]), ((-(1 : Int)), (false, ()))))) :: (((5 : Int), ((10 : Int), ((strL []), ((2 : Int), (true, ()))))) :: (((6 : Int), ((9 : Int), ((strL [118]), ((-(1 : Int)), (false, ()))))) :: (((6 : Int), ((10 : Int), ((strL []), ((2 : Int), (true, ()))))) :: (((7 : Int), ((11 : Int), ((strL []), ((6 : Int), (false, ()))))) :: (((7 : Int), ((12 : Int), ((strL []), ((6 : Int), (false, ()))))) :: (((8 : Int), ((4 : Int), ((strL [110]), ((-(1 : Int)), (false, ()))))) :: (((8 : Int), ((2 : Int), ((strL []), ((5 : Int), (false, ()))))) :: (((9 : Int), ((1 : Int), ((strL [111]), ((-(1 : Int)), (false, ()))))) :: (((9 : Int), ((2 : Int), ((strL []), ((4 : Int), (true, ()))))) :: (((10 : Int), ((7 : Int), ((strL [111, 118]), ((-(1 : Int)), (false, ()))))) :: (((10 : Int), ((5 : Int), ((strL [111]), ((-(1 : Int)), (false, ()))))) :: (((10 : Int), ((13 : Int), ((strL [111, 111]), ((99 : Int), (false, ()))))) :: ([] : List (Int × (Int × (ByteArray × (Int × (Bool × Unit)))))))))))))))))))))))))))))) p0 p1)) ((0 : Int), ((0 : Int), (ByteArray.empty, ((0 : Int), (false, ())))))).2).2).2).1, ((((((List.getD (((1 : Int), ((1 : Int), ((strL [118]), ((-(1 : Int)), (false, ()))))) :: (((1 : Int), ((2 : Int), ((strL []), ((2 : Int), (true, ()))))) :: (((2 : Int), ((1 : Int), ((strL [118]), ((-(1 : Int)), (false, ()))))) :: (((2 : Int), ((2 : Int), ((strL []), ((2 : Int), (true, ()))))) :: (((2 : Int), ((3 : Int), ((strL [118, 118]), ((6 : Int), (false, ()))))) :: (((3 : Int), ((4 : Int), ((strL [118]), ((-(1 : Int)), (false, ()))))) :: (((3 : Int), ((5 : Int), ((strL [118]), ((-(1 : Int)), (false, ()))))) :: (((3 : Int), ((6 : Int), ((strL [118]), ((6 : Int), (false, ()))))) :: (((4 : Int), ((7 : Int), ((strL [102, 118]), ((-(1 : Int)), (false, ()))))) :: (((4 : Int), ((8 : Int), ((strL [102]), ((2 : Int), (true, ()))))) :: (((4 : Int), ((5 : Int), ((strL [102]), ((-(1 : Int)), (false, ()))))) :: (((5 : Int), ((9 : Int), ((strL [118]), ((-(1 : Int)), (false, ()))))) :: (((5 : Int), ((10 : Int), ((strL []), ((2 : Int), (true, ()))))) :: (((6 : Int), ((9 : Int), ((strL [118]), ((-(1 : Int)), (false, ()))))) :: (((6 : Int), ((10 : Int), ((strL []), ((2 : Int), (true, ()))))) :: (((7 : Int), ((11 : Int), ((strL []), ((6 : Int), (false, ()))))) :: (((7 : Int), ((12 : Int), ((strL []), ((6 : Int), (false, ()))))) :: (((8 : Int), ((4 : Int), ((strL [110]), ((-(1 : Int)), (false, ()))))) :: (((8 : Int), ((2 : Int), ((strL []), ((5 : Int), (false, ()))))) :: (((9 : Int), ((1 : Int), ((strL [111]), ((-(1 : Int)), (false, ()))))) :: (((9 : Int), ((2 : Int), ((strL []), ((4 : Int), (true, ()))))) :: (((10 : Int), ((7 : Int), ((strL [111, 118]), ((-(1 : Int)), (false, ()))))) :: (((10 : Int), ((5 : Int), ((strL [111]), ((-(1 : Int)), (false, ()))))) :: (((10 : Int), ((13 : Int), ((strL [111, 111]), ((99 : Int), (false, ()))))) :: ([] : List (Int × (Int × (ByteArray × (Int × (Bool × Unit)))))))))))))))))))))))))))))) (Int.toNat (Go.Inc.idxR (((1 : Int), ((1 : Int), ((strL [118]), ((-(1 : Int)), (false, ()))))) :: (((1 : Int), ((2 : Int), ((strL []), ((2 : Int), (true, ()))))) :: (((2 : Int), ((1 : Int), ((strL [118]), ((-(1 : Int)), (false, ()))))) :: (((2 : Int), ((2 : Int), ((strL []), ((2 : Int), (true, ()))))) :: (((2 : Int), ((3 : Int), ((strL [118, 118]), ((6 : Int), (false, ()))))) :: (((3 : Int), ((4 : Int), ((strL [118]), ((-(1 : Int)), (false, ()))))) :: (((3 : Int), ((5 : Int), ((strL [118]), ((-(1 : Int)), (false, ()))))) :: (((3 : Int), ((6 : Int), ((strL [118]), ((6 : Int), (false, ()))))) :: (((4 : Int), ((7 : Int), ((strL [102, 118]), ((-(1 : Int)), (false, ()))))) :: (((4 : Int), ((8 : Int), ((strL [102]), ((2 : Int), (true, ()))))) :: (((4 : Int), ((5 : Int), ((strL [102]), ((-(1 : Int)), (false, ()))))) :: (((5 : Int), ((9 : Int), ((strL [118]), ((-(1 : Int)), (false, ()))))) :: (((5 : Int), ((10 : Int), ((strL []), ((2 : Int), (true, ()))))) :: (((6 : Int), ((9 : Int), ((strL [118]), ((-(1 : Int)), (false, ()))))) :: (((6 : Int), ((10 : Int), ((strL []), ((2 : Int), (true, ()))))) :: (((7 : Int), ((11 : Int), ((strL []), ((6 : Int), (false, ()))))) :: (((7 : Int), ((12 : Int), ((strL []), ((6 : Int), (false, ()))))) :: (((8 : Int), ((4 : Int), ((strL [110]), ((-(1 : Int)), (false, ()))))) :: (((8 : Int), ((2 : Int), ((strL []), ((5 : Int), (false, ()))))) :: (((9 : Int), ((1 : Int), ((strL [111]), ((-(1 : Int)), (false, ()))))) :: (((9 : Int), ((2 : Int), ((strL []), ((4 : Int), (true, ()))))) :: (((10 : Int), ((7 : Int), ((strL [111, 118]), ((-(1 : Int)), (false, ()))))) :: (((10 : Int), ((5 : Int), ((strL [111]), ((-(1 : Int)), (false, ()))))) :: (((10 : Int), ((13 : Int), ((strL [111, 111]), ((99 : Int), (false, ()))))) :: ([] : List (Int × (Int × (ByteArray × (Int × (Bool × Unit)))))))))))))))))))))))))))))) p0 p1)) ((0 : Int), ((0 : Int), (ByteArray.empty, ((0 : Int), (false, ())))))).2).2).2).2).1, ()))))), (true, ()))
    else
      none
theorem loops29 (N : Nat) : loopsOk C29 (L29 N) Go.Proofs.Tryd.f29 := ⟨trivial, ⟨trivial, ⟨trivial, ⟨⟨trivial, ⟨⟨trivial, trivial⟩, trivial⟩⟩, ⟨trivial, trivial⟩⟩⟩⟩⟩
theorem runs29 (N : Nat) (x : S29.ta.den) : run C29 S29 (L29 N) Go.Proofs.Tryd.f29 x = F29 N x.1 x.2.1 := by kernel_rfl

/-! ### 30: incognito/sign.domain -/
def L30 (_ : Nat) : Loops (Int × Unit) := fun _ _ _ => none
def F30 (N : Nat) (p0 : Int) : Option (Int × Unit) :=
  bif (p0 == (118 : Int)) then
    some ((2 : Int), ())
  else
    bif (p0 == (102 : Int)) then
      some ((3 : Int), ())
    else
      bif (p0 == (111 : Int)) then
        some ((4 : Int), ())
      else
        some ((5 : Int), ())
theorem loops30 (N : Nat) : loopsOk C30 (L30 N) Go.Proofs.Tryd.f30 := ⟨trivial, ⟨⟨trivial, ⟨trivial, ⟨⟨trivial, trivial⟩, ⟨trivial, ⟨⟨trivial, trivial⟩, ⟨trivial, ⟨⟨trivial, trivial⟩, trivial⟩⟩⟩⟩⟩⟩⟩, ⟨trivial, trivial⟩⟩⟩
theorem runs30 (N : Nat) (x : S30.ta.den) : run C30 S30 (L30 N) Go.Proofs.Tryd.f30 x = F30 N x.1 := by kernel_rfl

/-! ### 11: incognito/sign.Args -/
def W11_6 {β : Type} (N : Nat) (x1 : Int → Int → ByteArray → Int → Bool → (List Int) → Option β) : Nat → Int → Int → ByteArray → Int → Bool → (List Int) → Int → Int → Option β
  | 0, _, _, _, _, _, _, _, _ => none
  | n + 1, b6a, b6ba, b6bba, b6bbba, b6bbbba, t8, t20, t21 =>
  bif decide (t21 < t20) then
    bif ((decide ((0 : Int) ≤ t21)) && (decide (t21 < (((ByteArray.size b6bba) : Nat) : Int)))) then
      bif decide ((((List.length t8) + (List.length ((Go.Inc.domain (((UInt8.toNat (List.getD (Array.toList (ByteArray.data b6bba)) (Int.toNat t21) (0 : UInt8))) : Nat) : Int)) :: ([] : List Int)))) * 8) ≤ 140737488351232) then
        W11_6 N x1 n b6a b6ba b6bba b6bbba b6bbbba (t8 ++ ((Go.Inc.domain (((UInt8.toNat (List.getD (Array.toList (ByteArray.data b6bba)) (Int.toNat t21) (0 : UInt8))) : Nat) : Int)) :: ([] : List Int))) t20 (Go.IntKind.wrap .i64 (t21 + (1 : Int)))
      else
        none
    else
      none
  else
    x1 b6a b6ba b6bba b6bbba b6bbbba t8
def L11 (N : Nat) : Loops ((List Int) × Bool × Unit) := fun k ρ K => match Nat.beq k 6 with
  | true => (match adH ρ H11_6.hd with
    | some v => W11_6 N (fun b6a b6ba b6bba b6bbba b6bbbba t8 => K (.exit 0) (encH [(13, (.pr (.i .i64) (.pr (.i .i64) (.pr .st (.pr (.i .i64) (.pr .bo .un)))))), (16, (.sl (.int .i64) (.own 31)))] ((b6a, (b6ba, (b6bba, (b6bbba, (b6bbbba, ()))))), (t8, ())))) N v.2.1.1 v.2.1.2.1 v.2.1.2.2.1 v.2.1.2.2.2.1 v.2.1.2.2.2.2.1 v.2.2.1 v.2.2.2.1 v.2.2.2.2.1
    | none => none)
  | false => none
def F11 (N : Nat) (p0 : Int) (p1 : Int) : Option ((List Int) × Bool × Unit) :=
  bif (!(((Go.Inc.findGo p0 p1).2).1)) then
    some (([] : List Int), (false, ()))
  else
    W11_6 N
      (fun b6a b6ba b6bba b6bbba b6bbbba t8 =>
        some (t8, (true, ())))
      N (((Go.Inc.findGo p0 p1).1).1) ((((Go.Inc.findGo p0 p1).1).2).1) (((((Go.Inc.findGo p0 p1).1).2).2).1) ((((((Go.Inc.findGo p0 p1).1).2).2).2).1) (((((((Go.Inc.findGo p0 p1).1).2).2).2).2).1) ([] : List Int) (((ByteArray.size (((((Go.Inc.findGo p0 p1).1).2).2).1)) : Nat) : Int) (0 : Int)
theorem loops11 (N : Nat) : loopsOk C11 (L11 N) Go.Proofs.Tryd.f11 := ⟨trivial, ⟨trivial, ⟨⟨trivial, ⟨⟨trivial, trivial⟩, trivial⟩⟩, ⟨trivial, ⟨⟨trivial, ⟨loopOk_of H11_6 N (fun K n v => W11_6 N (fun b6a b6ba b6bba b6bbba b6bbbba t8 => K (.exit 0) (encH [(13, (.pr (.i .i64) (.pr (.i .i64) (.pr .st (.pr (.i .i64) (.pr .bo .un)))))), (16, (.sl (.int .i64) (.own 31)))] ((b6a, (b6ba, (b6bba, (b6bbba, (b6bbbba, ()))))), (t8, ())))) n v.2.1.1 v.2.1.2.1 v.2.1.2.2.1 v.2.1.2.2.2.1 v.2.1.2.2.2.2.1 v.2.2.1 v.2.2.2.1 v.2.2.2.2.1) (by kernel_rfl) (fun K v => by kernel_rfl) (fun K v => by kernel_rfl) (fun K n v => by kernel_rfl), ⟨trivial, ⟨⟨trivial, trivial⟩, ⟨⟨trivial, trivial⟩, trivial⟩⟩⟩⟩⟩, ⟨trivial, trivial⟩⟩⟩⟩⟩⟩
theorem runs11 (N : Nat) (x : S11.ta.den) : run C11 S11 (L11 N) Go.Proofs.Tryd.f11 x = F11 N x.1 x.2.1 := by kernel_rfl

/-! ### 31: incognito/sign.paired -/
def W31_5 {β : Type} (N : Nat) (x0 : (List Int) → Bool → Int → Int → ByteArray → Option β) (x1 : (List Int) → Option β) : Nat → (List Int) → (List (Int × Int × ByteArray × Unit)) → Int → Int → Option β
  | 0, _, _, _, _ => none
  | n + 1, t4, t12, t13, t14 =>
  bif decide (t14 < t13) then
    bif ((decide ((0 : Int) ≤ t14)) && (decide (t14 < (((List.length t12) : Nat) : Int)))) then
      bif ((Int.tmod t14 (2 : Int)) == (1 : Int)) then
        bif (Go.Inc.okT (2 : Int) ((List.getD t12 (Int.toNat t14) ((0 : Int), ((0 : Int), (ByteArray.empty, ())))).1, (((List.getD t12 (Int.toNat t14) ((0 : Int), ((0 : Int), (ByteArray.empty, ())))).2).1, ((((List.getD t12 (Int.toNat t14) ((0 : Int), ((0 : Int), (ByteArray.empty, ())))).2).2).1, ())))) then
          bif (!(Go.Inc.takes (2 : Int) ((List.getD t12 (Int.toNat t14) ((0 : Int), ((0 : Int), (ByteArray.empty, ())))).1, (((List.getD t12 (Int.toNat t14) ((0 : Int), ((0 : Int), (ByteArray.empty, ())))).2).1, ((((List.getD t12 (Int.toNat t14) ((0 : Int), ((0 : Int), (ByteArray.empty, ())))).2).2).1, ()))))) then
            x0 ([] : List Int) false ((List.getD t12 (Int.toNat t14) ((0 : Int), ((0 : Int), (ByteArray.empty, ())))).1) (((List.getD t12 (Int.toNat t14) ((0 : Int), ((0 : Int), (ByteArray.empty, ())))).2).1) ((((List.getD t12 (Int.toNat t14) ((0 : Int), ((0 : Int), (ByteArray.empty, ())))).2).2).1)
          else
            bif decide ((((List.length t4) + (List.length ((2 : Int) :: ([] : List Int)))) * 8) ≤ 140737488351232) then
              W31_5 N x0 x1 n (t4 ++ ((2 : Int) :: ([] : List Int))) t12 t13 (Go.IntKind.wrap .i64 (t14 + (1 : Int)))
            else
              none
        else
          none
      else
        bif (Go.Inc.okT (4 : Int) ((List.getD t12 (Int.toNat t14) ((0 : Int), ((0 : Int), (ByteArray.empty, ())))).1, (((List.getD t12 (Int.toNat t14) ((0 : Int), ((0 : Int), (ByteArray.empty, ())))).2).1, ((((List.getD t12 (Int.toNat t14) ((0 : Int), ((0 : Int), (ByteArray.empty, ())))).2).2).1, ())))) then
          bif (!(Go.Inc.takes (4 : Int) ((List.getD t12 (Int.toNat t14) ((0 : Int), ((0 : Int), (ByteArray.empty, ())))).1, (((List.getD t12 (Int.toNat t14) ((0 : Int), ((0 : Int), (ByteArray.empty, ())))).2).1, ((((List.getD t12 (Int.toNat t14) ((0 : Int), ((0 : Int), (ByteArray.empty, ())))).2).2).1, ()))))) then
            x0 ([] : List Int) false ((List.getD t12 (Int.toNat t14) ((0 : Int), ((0 : Int), (ByteArray.empty, ())))).1) (((List.getD t12 (Int.toNat t14) ((0 : Int), ((0 : Int), (ByteArray.empty, ())))).2).1) ((((List.getD t12 (Int.toNat t14) ((0 : Int), ((0 : Int), (ByteArray.empty, ())))).2).2).1)
          else
            bif decide ((((List.length t4) + (List.length ((4 : Int) :: ([] : List Int)))) * 8) ≤ 140737488351232) then
              W31_5 N x0 x1 n (t4 ++ ((4 : Int) :: ([] : List Int))) t12 t13 (Go.IntKind.wrap .i64 (t14 + (1 : Int)))
            else
              none
        else
          none
    else
      none
  else
    x1 t4
def L31 (N : Nat) : Loops ((List Int) × Bool × Unit) := fun k ρ K => match Nat.beq k 5 with
  | true => (match adH ρ H31_5.hd with
    | some v => W31_5 N (fun t2 t3 b6a b6ba b6bba => K .ret (encH [(4, (.sl (.int .i64) .full)), (6, .bo), (13, (.pr (.i .i64) (.pr (.i .i64) (.pr .st .un))))] (t2, (t3, ((b6a, (b6ba, (b6bba, ()))), ()))))) (fun t4 => K (.exit 0) (encH [(8, (.sl (.int .i64) (.own 29)))] (t4, ()))) N v.1 v.2.1 v.2.2.1 v.2.2.2.1
    | none => none)
  | false => none
def F31 (N : Nat) (p0 : List (Int × Int × ByteArray × Unit)) : Option ((List Int) × Bool × Unit) :=
  bif ((Int.tmod (((List.length p0) : Nat) : Int) (2 : Int)) != (0 : Int)) then
    some (([] : List Int), (false, ()))
  else
    W31_5 N
      (fun t2 t3 b6a b6ba b6bba =>
        some (t2, (t3, ())))
      (fun t4 =>
        some (t4, (true, ())))
      N ([] : List Int) p0 (((List.length p0) : Nat) : Int) (0 : Int)
theorem loops31 (N : Nat) : loopsOk C31 (L31 N) Go.Proofs.Tryd.f31 := ⟨trivial, ⟨⟨trivial, ⟨⟨trivial, trivial⟩, trivial⟩⟩, ⟨trivial, ⟨⟨trivial, ⟨loopOk_of H31_5 N (fun K n v => W31_5 N (fun t2 t3 b6a b6ba b6bba => K .ret (encH [(4, (.sl (.int .i64) .full)), (6, .bo), (13, (.pr (.i .i64) (.pr (.i .i64) (.pr .st .un))))] (t2, (t3, ((b6a, (b6ba, (b6bba, ()))), ()))))) (fun t4 => K (.exit 0) (encH [(8, (.sl (.int .i64) (.own 29)))] (t4, ()))) n v.1 v.2.1 v.2.2.1 v.2.2.2.1) (by kernel_rfl) (fun K v => by kernel_rfl) (fun K v => by kernel_rfl) (fun K n v => by kernel_rfl), ⟨trivial, ⟨⟨trivial, trivial⟩, ⟨⟨trivial, ⟨trivial, ⟨⟨trivial, ⟨trivial, trivial⟩⟩, ⟨⟨trivial, ⟨⟨trivial, trivial⟩, trivial⟩⟩, trivial⟩⟩⟩⟩, trivial⟩⟩⟩⟩⟩, ⟨trivial, trivial⟩⟩⟩⟩⟩
theorem runs31 (N : Nat) (x : S31.ta.den) : run C31 S31 (L31 N) Go.Proofs.Tryd.f31 x = F31 N x.1 := by kernel_rfl

/-! ### 14: incognito/sign.Outs -/
def L14 (_ : Nat) : Loops ((List Int) × Bool × Unit) := fun _ _ _ => none
def F14 (N : Nat) (p0 : Int) (p1 : Int) (p2 : List (Int × Int × ByteArray × Unit)) : Option ((List Int) × Bool × Unit) :=
  bif (!(((Go.Inc.findGo p0 p1).2).1)) then
    some (([] : List Int), (false, ()))
  else
    bif decide (((((((Go.Inc.findGo p0 p1).1).2).2).2).1) < (0 : Int)) then
      some (([] : List Int), (((((List.length p2) : Nat) : Int) == (0 : Int)), ()))
    else
      bif (((((((Go.Inc.findGo p0 p1).1).2).2).2).1) == (99 : Int)) then
        bif (Go.Inc.okL p2) then
          some ((Go.Inc.pairedGo p2).1, (((Go.Inc.pairedGo p2).2).1, ()))
        else
          none
      else
        bif ((((List.length p2) : Nat) : Int) != (1 : Int)) then
          some (([] : List Int), (false, ()))
        else
          bif ((decide ((0 : Int) ≤ (0 : Int))) && (decide ((0 : Int) < (((List.length p2) : Nat) : Int)))) then
            bif (Go.Inc.okT ((((((Go.Inc.findGo p0 p1).1).2).2).2).1) ((List.getD p2 (Int.toNat (0 : Int)) ((0 : Int), ((0 : Int), (ByteArray.empty, ())))).1, (((List.getD p2 (Int.toNat (0 : Int)) ((0 : Int), ((0 : Int), (ByteArray.empty, ())))).2).1, ((((List.getD p2 (Int.toNat (0 : Int)) ((0 : Int), ((0 : Int), (ByteArray.empty, ())))).2).2).1, ())))) then
              bif (!(Go.Inc.takes ((((((Go.Inc.findGo p0 p1).1).2).2).2).1) ((List.getD p2 (Int.toNat (0 : Int)) ((0 : Int), ((0 : Int), (ByteArray.empty, ())))).1, (((List.getD p2 (Int.toNat (0 : Int)) ((0 : Int), ((0 : Int), (ByteArray.empty, ())))).2).1, ((((List.getD p2 (Int.toNat (0 : Int)) ((0 : Int), ((0 : Int), (ByteArray.empty, ())))).2).2).1, ()))))) then
              bif ((((((Go.Inc.findGo p0 p1).1).2).2).2).2).1 then
              bif ((decide ((0 : Int) ≤ (0 : Int))) && (decide ((0 : Int) < (((List.length p2) : Nat) : Int)))) then
              bif (!((((List.getD p2 (Int.toNat (0 : Int)) ((0 : Int), ((0 : Int), (ByteArray.empty, ())))).1) == (0 : Int)) && (((((List.getD p2 (Int.toNat (0 : Int)) ((0 : Int), ((0 : Int), (ByteArray.empty, ())))).2).1) == (0 : Int)) && ((((((List.getD p2 (Int.toNat (0 : Int)) ((0 : Int), ((0 : Int), (ByteArray.empty, ())))).2).2).1) == ByteArray.empty) && true)))) then
              some (([] : List Int), (false, ()))
            else
              some ((((((((Go.Inc.findGo p0 p1).1).2).2).2).1) :: ([] : List Int)), (true, ()))
            else
              none
            else
              some (([] : List Int), (false, ()))
            else
              some ((((((((Go.Inc.findGo p0 p1).1).2).2).2).1) :: ([] : List Int)), (true, ()))
            else
              none
          else
            none
theorem loops14 (N : Nat) : loopsOk C14 (L14 N) Go.Proofs.Tryd.f14 := ⟨trivial, ⟨trivial, ⟨⟨trivial, ⟨⟨trivial, trivial⟩, ⟨trivial, ⟨⟨trivial, trivial⟩, ⟨trivial, ⟨⟨trivial, trivial⟩, ⟨trivial, ⟨⟨trivial, trivial⟩, trivial⟩⟩⟩⟩⟩⟩⟩⟩, ⟨trivial, trivial⟩⟩⟩⟩
theorem runs14 (N : Nat) (x : S14.ta.den) : run C14 S14 (L14 N) Go.Proofs.Tryd.f14 x = F14 N x.1 x.2.1 x.2.2.1 := by kernel_rfl

/-! ### 15: incognito/incognitoref09.Outs -/
def W15_7 {β : Type} (N : Nat) (x0 : (List Int) → Bool → (List Int) → Int → Bool → Bool → Option β) (x1 : (List Int) → Int → Bool → Bool → (List Int) → Option β) : Nat → (List (Int × Int × ByteArray × Unit)) → (List Int) → Int → Bool → Bool → (List Int) → Int → Option β
  | 0, _, _, _, _, _, _, _ => none
  | n + 1, t2, b8a, b8ba, b8bba, b8bbba, t9, t10 =>
  bif decide (t10 < (((List.length t2) : Nat) : Int)) then
    bif ((decide ((0 : Int) ≤ t10)) && (decide (t10 < (((List.length t2) : Nat) : Int)))) then
      bif (Go.Inc.okT (Go.IntKind.wrap .i64 ((4 : Int) - (Go.IntKind.wrap .i64 ((Int.tmod t10 (2 : Int)) * (2 : Int))))) ((List.getD t2 (Int.toNat t10) ((0 : Int), ((0 : Int), (ByteArray.empty, ())))).1, (((List.getD t2 (Int.toNat t10) ((0 : Int), ((0 : Int), (ByteArray.empty, ())))).2).1, ((((List.getD t2 (Int.toNat t10) ((0 : Int), ((0 : Int), (ByteArray.empty, ())))).2).2).1, ())))) then
        bif (!(Go.Inc.takes (Go.IntKind.wrap .i64 ((4 : Int) - (Go.IntKind.wrap .i64 ((Int.tmod t10 (2 : Int)) * (2 : Int))))) ((List.getD t2 (Int.toNat t10) ((0 : Int), ((0 : Int), (ByteArray.empty, ())))).1, (((List.getD t2 (Int.toNat t10) ((0 : Int), ((0 : Int), (ByteArray.empty, ())))).2).1, ((((List.getD t2 (Int.toNat t10) ((0 : Int), ((0 : Int), (ByteArray.empty, ())))).2).2).1, ()))))) then
          x0 ([] : List Int) false b8a b8ba b8bba b8bbba
        else
          bif decide ((((List.length t9) + (List.length ((Go.IntKind.wrap .i64 ((4 : Int) - (Go.IntKind.wrap .i64 ((Int.tmod t10 (2 : Int)) * (2 : Int))))) :: ([] : List Int)))) * 8) ≤ 140737488351232) then
            W15_7 N x0 x1 n t2 b8a b8ba b8bba b8bbba (t9 ++ ((Go.IntKind.wrap .i64 ((4 : Int) - (Go.IntKind.wrap .i64 ((Int.tmod t10 (2 : Int)) * (2 : Int))))) :: ([] : List Int))) (Go.IntKind.wrap .i64 (t10 + (1 : Int)))
          else
            none
      else
        none
    else
      none
  else
    x1 b8a b8ba b8bba b8bbba t9
def L15 (N : Nat) : Loops ((List Int) × Bool × Unit) := fun k ρ K => match Nat.beq k 7 with
  | true => (match adH ρ H15_7.hd with
    | some v => W15_7 N (fun t6 t7 b8a b8ba b8bba b8bbba => K .ret (encH [(12, (.sl (.int .i64) .full)), (14, .bo), (17, (.pr (.sl (.int .i64) .no) (.pr (.i .i64) (.pr .bo (.pr .bo .un)))))] (t6, (t7, ((b8a, (b8ba, (b8bba, (b8bbba, ())))), ()))))) (fun b8a b8ba b8bba b8bbba t9 => K (.exit 0) (encH [(17, (.pr (.sl (.int .i64) .no) (.pr (.i .i64) (.pr .bo (.pr .bo .un))))), (18, (.sl (.int .i64) (.own 54)))] ((b8a, (b8ba, (b8bba, (b8bbba, ())))), (t9, ())))) N v.1 v.2.1.1 v.2.1.2.1 v.2.1.2.2.1 v.2.1.2.2.2.1 v.2.2.1 v.2.2.2.1
    | none => none)
  | false => none
def F15 (N : Nat) (p0 : Int) (p1 : Int) (p2 : List (Int × Int × ByteArray × Unit)) : Option ((List Int) × Bool × Unit) :=
  bif (!(((((Go.Inc.signRef p0 p1).2).2).2).1)) then
    bif ((((Go.Inc.signRef p0 p1).2).2).2).1 then
      some (([] : List Int), (((((List.length p2) : Nat) : Int) == (0 : Int)), ()))
    else
      some (([] : List Int), (false, ()))
  else
    bif decide ((((Go.Inc.signRef p0 p1).2).1) < (0 : Int)) then
      bif ((((Go.Inc.signRef p0 p1).2).2).2).1 then
        some (([] : List Int), (((((List.length p2) : Nat) : Int) == (0 : Int)), ()))
      else
        some (([] : List Int), (false, ()))
    else
      bif ((((Go.Inc.signRef p0 p1).2).1) == (99 : Int)) then
        W15_7 N
          (fun t6 t7 b8a b8ba b8bba b8bbba =>
            some (t6, (t7, ())))
          (fun b8a b8ba b8bba b8bbba t9 =>
            bif ((Int.tmod (((List.length t9) : Nat) : Int) (2 : Int)) == (1 : Int)) then
              some (([] : List Int), (false, ()))
            else
              some (t9, (true, ())))
          N p2 ((Go.Inc.signRef p0 p1).1) (((Go.Inc.signRef p0 p1).2).1) ((((Go.Inc.signRef p0 p1).2).2).1) (((((Go.Inc.signRef p0 p1).2).2).2).1) ([] : List Int) (0 : Int)
      else
        bif ((((List.length p2) : Nat) : Int) != (1 : Int)) then
          some (([] : List Int), (false, ()))
        else
          bif ((decide ((0 : Int) ≤ (0 : Int))) && (decide ((0 : Int) < (((List.length p2) : Nat) : Int)))) then
            bif (Go.Inc.okT (((Go.Inc.signRef p0 p1).2).1) ((List.getD p2 (Int.toNat (0 : Int)) ((0 : Int), ((0 : Int), (ByteArray.empty, ())))).1, (((List.getD p2 (Int.toNat (0 : Int)) ((0 : Int), ((0 : Int), (ByteArray.empty, ())))).2).1, ((((List.getD p2 (Int.toNat (0 : Int)) ((0 : Int), ((0 : Int), (ByteArray.empty, ())))).2).2).1, ())))) then
              bif (Go.Inc.takes (((Go.Inc.signRef p0 p1).2).1) ((List.getD p2 (Int.toNat (0 : Int)) ((0 : Int), ((0 : Int), (ByteArray.empty, ())))).1, (((List.getD p2 (Int.toNat (0 : Int)) ((0 : Int), ((0 : Int), (ByteArray.empty, ())))).2).1, ((((List.getD p2 (Int.toNat (0 : Int)) ((0 : Int), ((0 : Int), (ByteArray.empty, ())))).2).2).1, ())))) then
              some (((((Go.Inc.signRef p0 p1).2).1) :: ([] : List Int)), (true, ()))
            else
              bif (((Go.Inc.signRef p0 p1).2).2).1 then
              bif ((decide ((0 : Int) ≤ (0 : Int))) && (decide ((0 : Int) < (((List.length p2) : Nat) : Int)))) then
              bif ((((List.getD p2 (Int.toNat (0 : Int)) ((0 : Int), ((0 : Int), (ByteArray.empty, ())))).1) == (0 : Int)) && (((((List.getD p2 (Int.toNat (0 : Int)) ((0 : Int), ((0 : Int), (ByteArray.empty, ())))).2).1) == (0 : Int)) && ((((((List.getD p2 (Int.toNat (0 : Int)) ((0 : Int), ((0 : Int), (ByteArray.empty, ())))).2).2).1) == ByteArray.empty) && true))) then
              some (((((Go.Inc.signRef p0 p1).2).1) :: ([] : List Int)), (true, ()))
            else
              some (([] : List Int), (false, ()))
            else
              none
            else
              some (([] : List Int), (false, ()))
            else
              none
          else
            none
theorem loops15 (N : Nat) : loopsOk C15 (L15 N) Go.Proofs.Tryd.f15 := ⟨trivial, ⟨trivial, ⟨⟨trivial, ⟨⟨trivial, trivial⟩, trivial⟩⟩, ⟨trivial, ⟨⟨trivial, ⟨⟨⟨trivial, ⟨loopOk_of H15_7 N (fun K n v => W15_7 N (fun t6 t7 b8a b8ba b8bba b8bbba => K .ret (encH [(12, (.sl (.int .i64) .full)), (14, .bo), (17, (.pr (.sl (.int .i64) .no) (.pr (.i .i64) (.pr .bo (.pr .bo .un)))))] (t6, (t7, ((b8a, (b8ba, (b8bba, (b8bbba, ())))), ()))))) (fun b8a b8ba b8bba b8bbba t9 => K (.exit 0) (encH [(17, (.pr (.sl (.int .i64) .no) (.pr (.i .i64) (.pr .bo (.pr .bo .un))))), (18, (.sl (.int .i64) (.own 54)))] ((b8a, (b8ba, (b8bba, (b8bbba, ())))), (t9, ())))) n v.1 v.2.1.1 v.2.1.2.1 v.2.1.2.2.1 v.2.1.2.2.2.1 v.2.2.1 v.2.2.2.1) (by kernel_rfl) (fun K v => by kernel_rfl) (fun K v => by kernel_rfl) (fun K n v => by kernel_rfl), ⟨⟨trivial, ⟨trivial, trivial⟩⟩, ⟨⟨trivial, ⟨⟨trivial, ⟨⟨trivial, trivial⟩, trivial⟩⟩, trivial⟩⟩, trivial⟩⟩⟩⟩, ⟨⟨trivial, ⟨⟨trivial, trivial⟩, trivial⟩⟩, ⟨trivial, trivial⟩⟩⟩, trivial⟩⟩, ⟨⟨trivial, ⟨⟨trivial, trivial⟩, trivial⟩⟩, ⟨trivial, ⟨⟨trivial, ⟨⟨trivial, trivial⟩, trivial⟩⟩, ⟨trivial, trivial⟩⟩⟩⟩⟩⟩⟩⟩⟩
theorem runs15 (N : Nat) (x : S15.ta.den) : run C15 S15 (L15 N) Go.Proofs.Tryd.f15 x = F15 N x.1 x.2.1 x.2.2.1 := by kernel_rfl

/-! ### 16: incognito/sign.Fits -/
def W16_5 {β : Type} (N : Nat) (x0 : Bool → Option β) (x1 : Unit → Option β) : Nat → (List (Int × Int × ByteArray × Unit)) → (List Int) → Int → Int → Option β
  | 0, _, _, _, _ => none
  | n + 1, t2, t26, t27, t28 =>
  bif decide (t28 < t27) then
    bif ((decide ((0 : Int) ≤ t28)) && (decide (t28 < (((List.length t26) : Nat) : Int)))) then
      bif ((decide ((0 : Int) ≤ t28)) && (decide (t28 < (((List.length t2) : Nat) : Int)))) then
        bif (Go.Inc.okT (List.getD t26 (Int.toNat t28) (0 : Int)) ((List.getD t2 (Int.toNat t28) ((0 : Int), ((0 : Int), (ByteArray.empty, ())))).1, (((List.getD t2 (Int.toNat t28) ((0 : Int), ((0 : Int), (ByteArray.empty, ())))).2).1, ((((List.getD t2 (Int.toNat t28) ((0 : Int), ((0 : Int), (ByteArray.empty, ())))).2).2).1, ())))) then
          bif (!(Go.Inc.takes (List.getD t26 (Int.toNat t28) (0 : Int)) ((List.getD t2 (Int.toNat t28) ((0 : Int), ((0 : Int), (ByteArray.empty, ())))).1, (((List.getD t2 (Int.toNat t28) ((0 : Int), ((0 : Int), (ByteArray.empty, ())))).2).1, ((((List.getD t2 (Int.toNat t28) ((0 : Int), ((0 : Int), (ByteArray.empty, ())))).2).2).1, ()))))) then
            x0 false
          else
            W16_5 N x0 x1 n t2 t26 t27 (Go.IntKind.wrap .i64 (t28 + (1 : Int)))
        else
          none
      else
        none
    else
      none
  else
    x1 ()
def L16 (N : Nat) : Loops (Bool × Unit) := fun k ρ K => match Nat.beq k 5 with
  | true => (match adH ρ H16_5.hd with
    | some v => W16_5 N (fun t6 => K .ret (encH [(12, .bo)] (t6, ()))) (fun _ => K (.exit 0) (encH [] ())) N v.1 v.2.1 v.2.2.1 v.2.2.2.1
    | none => none)
  | false => none
def F16 (N : Nat) (p0 : Int) (p1 : Int) (p2 : List (Int × Int × ByteArray × Unit)) : Option (Bool × Unit) :=
  bif (!(((Go.Inc.argsGo p0 p1).2).1)) then
    some (false, ())
  else
    bif ((((List.length ((Go.Inc.argsGo p0 p1).1)) : Nat) : Int) != (((List.length p2) : Nat) : Int)) then
      some (false, ())
    else
      W16_5 N
        (fun t6 =>
          some (t6, ()))
        (fun (_ : Unit) =>
          some (true, ()))
        N p2 ((Go.Inc.argsGo p0 p1).1) (((List.length ((Go.Inc.argsGo p0 p1).1)) : Nat) : Int) (0 : Int)
theorem loops16 (N : Nat) : loopsOk C16 (L16 N) Go.Proofs.Tryd.f16 := ⟨trivial, ⟨trivial, ⟨⟨trivial, ⟨⟨trivial, trivial⟩, trivial⟩⟩, ⟨⟨trivial, ⟨loopOk_of H16_5 N (fun K n v => W16_5 N (fun t6 => K .ret (encH [(12, .bo)] (t6, ()))) (fun _ => K (.exit 0) (encH [] ())) n v.1 v.2.1 v.2.2.1 v.2.2.2.1) (by kernel_rfl) (fun K v => by kernel_rfl) (fun K v => by kernel_rfl) (fun K n v => by kernel_rfl), ⟨trivial, ⟨⟨trivial, trivial⟩, ⟨⟨trivial, ⟨trivial, ⟨⟨trivial, trivial⟩, trivial⟩⟩⟩, trivial⟩⟩⟩⟩⟩, ⟨trivial, trivial⟩⟩⟩⟩⟩
theorem runs16 (N : Nat) (x : S16.ta.den) : run C16 S16 (L16 N) Go.Proofs.Tryd.f16 x = F16 N x.1 x.2.1 x.2.2.1 := by kernel_rfl

/-! ### 17: incognito/incognitoref09.Fits -/
def W17_5 {β : Type} (N : Nat) (x0 : Bool → (List Int) → Int → Bool → Bool → Option β) (x1 : (List Int) → Int → Bool → Bool → Option β) : Nat → (List (Int × Int × ByteArray × Unit)) → (List Int) → Int → Bool → Bool → Int → Option β
  | 0, _, _, _, _, _, _ => none
  | n + 1, t2, b7a, b7ba, b7bba, b7bbba, t8 =>
  bif decide (t8 < (((List.length t2) : Nat) : Int)) then
    bif ((decide ((0 : Int) ≤ t8)) && (decide (t8 < (((List.length b7a) : Nat) : Int)))) then
      bif ((decide ((0 : Int) ≤ t8)) && (decide (t8 < (((List.length t2) : Nat) : Int)))) then
        bif (Go.Inc.okT (List.getD b7a (Int.toNat t8) (0 : Int)) ((List.getD t2 (Int.toNat t8) ((0 : Int), ((0 : Int), (ByteArray.empty, ())))).1, (((List.getD t2 (Int.toNat t8) ((0 : Int), ((0 : Int), (ByteArray.empty, ())))).2).1, ((((List.getD t2 (Int.toNat t8) ((0 : Int), ((0 : Int), (ByteArray.empty, ())))).2).2).1, ())))) then
          bif (!(Go.Inc.takes (List.getD b7a (Int.toNat t8) (0 : Int)) ((List.getD t2 (Int.toNat t8) ((0 : Int), ((0 : Int), (ByteArray.empty, ())))).1, (((List.getD t2 (Int.toNat t8) ((0 : Int), ((0 : Int), (ByteArray.empty, ())))).2).1, ((((List.getD t2 (Int.toNat t8) ((0 : Int), ((0 : Int), (ByteArray.empty, ())))).2).2).1, ()))))) then
            x0 false b7a b7ba b7bba b7bbba
          else
            W17_5 N x0 x1 n t2 b7a b7ba b7bba b7bbba (Go.IntKind.wrap .i64 (t8 + (1 : Int)))
        else
          none
      else
        none
    else
      none
  else
    x1 b7a b7ba b7bba b7bbba
def L17 (N : Nat) : Loops (Bool × Unit) := fun k ρ K => match Nat.beq k 5 with
  | true => (match adH ρ H17_5.hd with
    | some v => W17_5 N (fun t6 b7a b7ba b7bba b7bbba => K .ret (encH [(12, .bo), (15, (.pr (.sl (.int .i64) .no) (.pr (.i .i64) (.pr .bo (.pr .bo .un)))))] (t6, ((b7a, (b7ba, (b7bba, (b7bbba, ())))), ())))) (fun b7a b7ba b7bba b7bbba => K (.exit 0) (encH [(15, (.pr (.sl (.int .i64) .no) (.pr (.i .i64) (.pr .bo (.pr .bo .un)))))] ((b7a, (b7ba, (b7bba, (b7bbba, ())))), ()))) N v.1 v.2.2.1.1 v.2.2.1.2.1 v.2.2.1.2.2.1 v.2.2.1.2.2.2.1 v.2.2.2.1
    | none => none)
  | false => none
def F17 (N : Nat) (p0 : Int) (p1 : Int) (p2 : List (Int × Int × ByteArray × Unit)) : Option (Bool × Unit) :=
  bif (!(((((Go.Inc.signRef p0 p1).2).2).2).1)) then
    some (false, ())
  else
    bif ((((List.length p2) : Nat) : Int) != (((List.length ((Go.Inc.signRef p0 p1).1)) : Nat) : Int)) then
      some (false, ())
    else
      W17_5 N
        (fun t6 b7a b7ba b7bba b7bbba =>
          some (t6, ()))
        (fun b7a b7ba b7bba b7bbba =>
          some (true, ()))
        N p2 ((Go.Inc.signRef p0 p1).1) (((Go.Inc.signRef p0 p1).2).1) ((((Go.Inc.signRef p0 p1).2).2).1) (((((Go.Inc.signRef p0 p1).2).2).2).1) (0 : Int)
theorem loops17 (N : Nat) : loopsOk C17 (L17 N) Go.Proofs.Tryd.f17 := ⟨trivial, ⟨trivial, ⟨⟨trivial, ⟨⟨trivial, trivial⟩, trivial⟩⟩, ⟨⟨trivial, ⟨loopOk_of H17_5 N (fun K n v => W17_5 N (fun t6 b7a b7ba b7bba b7bbba => K .ret (encH [(12, .bo), (15, (.pr (.sl (.int .i64) .no) (.pr (.i .i64) (.pr .bo (.pr .bo .un)))))] (t6, ((b7a, (b7ba, (b7bba, (b7bbba, ())))), ())))) (fun b7a b7ba b7bba b7bbba => K (.exit 0) (encH [(15, (.pr (.sl (.int .i64) .no) (.pr (.i .i64) (.pr .bo (.pr .bo .un)))))] ((b7a, (b7ba, (b7bba, (b7bbba, ())))), ()))) n v.1 v.2.2.1.1 v.2.2.1.2.1 v.2.2.1.2.2.1 v.2.2.1.2.2.2.1 v.2.2.2.1) (by kernel_rfl) (fun K v => by kernel_rfl) (fun K v => by kernel_rfl) (fun K n v => by kernel_rfl), ⟨⟨trivial, ⟨trivial, trivial⟩⟩, ⟨⟨trivial, ⟨⟨trivial, trivial⟩, trivial⟩⟩, trivial⟩⟩⟩⟩, ⟨trivial, trivial⟩⟩⟩⟩⟩
theorem runs17 (N : Nat) (x : S17.ta.den) : run C17 S17 (L17 N) Go.Proofs.Tryd.f17 x = F17 N x.1 x.2.1 x.2.2.1 := by kernel_rfl

/-! ### 8: incognito/incognitolaw09.wakes -/
def L8 (_ : Nat) : Loops (Bool × Unit) := fun _ _ _ => none
def F8 (N : Nat) : Option (Bool × Unit) :=
  some ((Go.Inc.eqL ((Go.Inc.outsGo (1 : Int) (2 : Int) (((0 : Int), ((0 : Int), (ByteArray.empty, ()))) :: ([] : List (Int × (Int × (ByteArray × Unit)))))).1) ((2 : Int) :: ([] : List Int))), ())
theorem loops8 (N : Nat) : loopsOk C8 (L8 N) Go.Proofs.Tryd.f8 := ⟨trivial, ⟨trivial, ⟨trivial, ⟨trivial, ⟨trivial, trivial⟩⟩⟩⟩⟩
theorem runs8 (N : Nat) (x : S8.ta.den) : run C8 S8 (L8 N) Go.Proofs.Tryd.f8 x = F8 N := by kernel_rfl

/-! ### 3: incognito/incognitolaw09.SignTakes -/
def L3 (_ : Nat) : Loops (Bool × Unit) := fun _ _ _ => none
def F3 (N : Nat) (p0 : Int) (p1 : Int × Int × ByteArray × Unit) : Option (Bool × Unit) :=
  bif decide ((((ByteArray.size p1.2.2.1) : Nat) : Int) > (200 : Int)) then
    some (true, ())
  else
    bif (Go.Inc.okT p0 (p1.1, (p1.2.1, (p1.2.2.1, ())))) then
      bif (Go.Inc.okT p0 (p1.1, (p1.2.1, (p1.2.2.1, ())))) then
        some (((Go.Inc.takes p0 (p1.1, (p1.2.1, (p1.2.2.1, ())))) == (Go.Inc.takes p0 (p1.1, (p1.2.1, (p1.2.2.1, ()))))), ())
      else
        none
    else
      none
theorem loops3 (N : Nat) : loopsOk C3 (L3 N) Go.Proofs.Tryd.f3 := ⟨trivial, ⟨trivial, trivial⟩⟩
theorem runs3 (N : Nat) (x : S3.ta.den) : run C3 S3 (L3 N) Go.Proofs.Tryd.f3 x = F3 N x.1 x.2.1 := by kernel_rfl

/-! ### 4: incognito/incognitolaw09.SignArgs -/
def L4 (_ : Nat) : Loops (Bool × Unit) := fun _ _ _ => none
def F4 (N : Nat) (p0 : Int) (p1 : Int) : Option (Bool × Unit) :=
  bif ((((Go.Inc.argsGo p0 p1).2).1) == (((((Go.Inc.signRef p0 p1).2).2).2).1)) then
    bif (Go.Inc.okSame ((Go.Inc.argsGo p0 p1).1) ((Go.Inc.signRef p0 p1).1)) then
      some ((Go.Inc.eqL ((Go.Inc.argsGo p0 p1).1) ((Go.Inc.signRef p0 p1).1)), ())
    else
      none
  else
    some (false, ())
theorem loops4 (N : Nat) : loopsOk C4 (L4 N) Go.Proofs.Tryd.f4 := ⟨trivial, ⟨⟨trivial, ⟨⟨trivial, trivial⟩, trivial⟩⟩, ⟨trivial, ⟨trivial, ⟨trivial, trivial⟩⟩⟩⟩⟩
theorem runs4 (N : Nat) (x : S4.ta.den) : run C4 S4 (L4 N) Go.Proofs.Tryd.f4 x = F4 N x.1 x.2.1 := by kernel_rfl

/-! ### 5: incognito/incognitolaw09.SignOuts -/
def W5_6 {β : Type} (N : Nat) (x0 : Int → Int → (List (Int × Int × ByteArray × Unit)) → Bool → Int → Int → ByteArray → Option β) (x1 : Int → Int → (List (Int × Int × ByteArray × Unit)) → Option β) : Nat → Int → Int → (List (Int × Int × ByteArray × Unit)) → (List (Int × Int × ByteArray × Unit)) → Int → Int → Option β
  | 0, _, _, _, _, _, _ => none
  | n + 1, b1a, b1ba, b1bba, t16, t17, t18 =>
  bif decide (t18 < t17) then
    bif ((decide ((0 : Int) ≤ t18)) && (decide (t18 < (((List.length t16) : Nat) : Int)))) then
      bif decide ((((ByteArray.size ((((List.getD t16 (Int.toNat t18) ((0 : Int), ((0 : Int), (ByteArray.empty, ())))).2).2).1)) : Nat) : Int) > (200 : Int)) then
        x0 b1a b1ba b1bba true ((List.getD t16 (Int.toNat t18) ((0 : Int), ((0 : Int), (ByteArray.empty, ())))).1) (((List.getD t16 (Int.toNat t18) ((0 : Int), ((0 : Int), (ByteArray.empty, ())))).2).1) ((((List.getD t16 (Int.toNat t18) ((0 : Int), ((0 : Int), (ByteArray.empty, ())))).2).2).1)
      else
        W5_6 N x0 x1 n b1a b1ba b1bba t16 t17 (Go.IntKind.wrap .i64 (t18 + (1 : Int)))
    else
      none
  else
    x1 b1a b1ba b1bba
def L5 (N : Nat) : Loops (Bool × Unit) := fun k ρ K => match Nat.beq k 6 with
  | true => (match adH ρ H5_6.hd with
    | some v => W5_6 N (fun b1a b1ba b1bba t2 b4a b4ba b4bba => K .ret (encH [(3, (.pr (.i .i64) (.pr (.i .i64) (.pr (.sl (.pr (.int .i64) (.pr (.int .i64) (.pr .str .un))) .no) .un)))), (4, .bo), (9, (.pr (.i .i64) (.pr (.i .i64) (.pr .st .un))))] ((b1a, (b1ba, (b1bba, ()))), (t2, ((b4a, (b4ba, (b4bba, ()))), ()))))) (fun b1a b1ba b1bba => K (.exit 0) (encH [(2, (.bx 1 0)), (3, (.pr (.i .i64) (.pr (.i .i64) (.pr (.sl (.pr (.int .i64) (.pr (.int .i64) (.pr .str .un))) .no) .un))))] ((), ((b1a, (b1ba, (b1bba, ()))), ())))) N v.2.1.1 v.2.1.2.1 v.2.1.2.2.1 v.2.2.1 v.2.2.2.1 v.2.2.2.2.1
    | none => none)
  | false => none
def F5 (N : Nat) (p0 : Int × Int × (List (Int × Int × ByteArray × Unit)) × Unit) : Option (Bool × Unit) :=
  bif decide ((((List.length p0.2.2.1) : Nat) : Int) > (40 : Int)) then
    some (true, ())
  else
    W5_6 N
      (fun b1a b1ba b1bba t2 b4a b4ba b4bba =>
        some (t2, ()))
      (fun b1a b1ba b1bba =>
        bif (Go.Inc.okF b1a b1ba b1bba) then
          bif (Go.Inc.okF b1a b1ba b1bba) then
            bif ((((Go.Inc.outsGo b1a b1ba b1bba).2).1) == (((Go.Inc.outsGo b1a b1ba b1bba).2).1)) then
              bif (Go.Inc.okSame ((Go.Inc.outsGo b1a b1ba b1bba).1) ((Go.Inc.outsGo b1a b1ba b1bba).1)) then
              some ((Go.Inc.eqL ((Go.Inc.outsGo b1a b1ba b1bba).1) ((Go.Inc.outsGo b1a b1ba b1bba).1)), ())
            else
              none
            else
              some (false, ())
          else
            none
        else
          none)
      N p0.1 p0.2.1 p0.2.2.1 p0.2.2.1 (((List.length p0.2.2.1) : Nat) : Int) (0 : Int)
theorem loops5 (N : Nat) : loopsOk C5 (L5 N) Go.Proofs.Tryd.f5 := ⟨trivial, ⟨⟨trivial, ⟨⟨trivial, trivial⟩, trivial⟩⟩, ⟨⟨trivial, ⟨⟨trivial, trivial⟩, trivial⟩⟩, ⟨⟨trivial, ⟨loopOk_of H5_6 N (fun K n v => W5_6 N (fun b1a b1ba b1bba t2 b4a b4ba b4bba => K .ret (encH [(3, (.pr (.i .i64) (.pr (.i .i64) (.pr (.sl (.pr (.int .i64) (.pr (.int .i64) (.pr .str .un))) .no) .un)))), (4, .bo), (9, (.pr (.i .i64) (.pr (.i .i64) (.pr .st .un))))] ((b1a, (b1ba, (b1bba, ()))), (t2, ((b4a, (b4ba, (b4bba, ()))), ()))))) (fun b1a b1ba b1bba => K (.exit 0) (encH [(2, (.bx 1 0)), (3, (.pr (.i .i64) (.pr (.i .i64) (.pr (.sl (.pr (.int .i64) (.pr (.int .i64) (.pr .str .un))) .no) .un))))] ((), ((b1a, (b1ba, (b1bba, ()))), ())))) n v.2.1.1 v.2.1.2.1 v.2.1.2.2.1 v.2.2.1 v.2.2.2.1 v.2.2.2.2.1) (by kernel_rfl) (fun K v => by kernel_rfl) (fun K v => by kernel_rfl) (fun K n v => by kernel_rfl), ⟨trivial, ⟨⟨trivial, trivial⟩, ⟨⟨trivial, ⟨trivial, ⟨⟨trivial, trivial⟩, trivial⟩⟩⟩, trivial⟩⟩⟩⟩⟩, ⟨trivial, ⟨trivial, ⟨trivial, trivial⟩⟩⟩⟩⟩⟩⟩
theorem runs5 (N : Nat) (x : S5.ta.den) : run C5 S5 (L5 N) Go.Proofs.Tryd.f5 x = F5 N x.1 := by kernel_rfl

/-! ### 6: incognito/incognitolaw09.SignFits -/
def W6_6 {β : Type} (N : Nat) (x0 : Int → Int → (List (Int × Int × ByteArray × Unit)) → Bool → Int → Int → ByteArray → Option β) (x1 : Int → Int → (List (Int × Int × ByteArray × Unit)) → Option β) : Nat → Int → Int → (List (Int × Int × ByteArray × Unit)) → (List (Int × Int × ByteArray × Unit)) → Int → Int → Option β
  | 0, _, _, _, _, _, _ => none
  | n + 1, b1a, b1ba, b1bba, t12, t13, t14 =>
  bif decide (t14 < t13) then
    bif ((decide ((0 : Int) ≤ t14)) && (decide (t14 < (((List.length t12) : Nat) : Int)))) then
      bif decide ((((ByteArray.size ((((List.getD t12 (Int.toNat t14) ((0 : Int), ((0 : Int), (ByteArray.empty, ())))).2).2).1)) : Nat) : Int) > (200 : Int)) then
        x0 b1a b1ba b1bba true ((List.getD t12 (Int.toNat t14) ((0 : Int), ((0 : Int), (ByteArray.empty, ())))).1) (((List.getD t12 (Int.toNat t14) ((0 : Int), ((0 : Int), (ByteArray.empty, ())))).2).1) ((((List.getD t12 (Int.toNat t14) ((0 : Int), ((0 : Int), (ByteArray.empty, ())))).2).2).1)
      else
        W6_6 N x0 x1 n b1a b1ba b1bba t12 t13 (Go.IntKind.wrap .i64 (t14 + (1 : Int)))
    else
      none
  else
    x1 b1a b1ba b1bba
def L6 (N : Nat) : Loops (Bool × Unit) := fun k ρ K => match Nat.beq k 6 with
  | true => (match adH ρ H6_6.hd with
    | some v => W6_6 N (fun b1a b1ba b1bba t2 b4a b4ba b4bba => K .ret (encH [(3, (.pr (.i .i64) (.pr (.i .i64) (.pr (.sl (.pr (.int .i64) (.pr (.int .i64) (.pr .str .un))) .no) .un)))), (4, .bo), (9, (.pr (.i .i64) (.pr (.i .i64) (.pr .st .un))))] ((b1a, (b1ba, (b1bba, ()))), (t2, ((b4a, (b4ba, (b4bba, ()))), ()))))) (fun b1a b1ba b1bba => K (.exit 0) (encH [(2, (.bx 1 0)), (3, (.pr (.i .i64) (.pr (.i .i64) (.pr (.sl (.pr (.int .i64) (.pr (.int .i64) (.pr .str .un))) .no) .un))))] ((), ((b1a, (b1ba, (b1bba, ()))), ())))) N v.2.1.1 v.2.1.2.1 v.2.1.2.2.1 v.2.2.1 v.2.2.2.1 v.2.2.2.2.1
    | none => none)
  | false => none
def F6 (N : Nat) (p0 : Int × Int × (List (Int × Int × ByteArray × Unit)) × Unit) : Option (Bool × Unit) :=
  bif decide ((((List.length p0.2.2.1) : Nat) : Int) > (40 : Int)) then
    some (true, ())
  else
    W6_6 N
      (fun b1a b1ba b1bba t2 b4a b4ba b4bba =>
        some (t2, ()))
      (fun b1a b1ba b1bba =>
        bif (Go.Inc.okF b1a b1ba b1bba) then
          bif (Go.Inc.okF b1a b1ba b1bba) then
            some (((Go.Inc.fits b1a b1ba b1bba) == (Go.Inc.fits b1a b1ba b1bba)), ())
          else
            none
        else
          none)
      N p0.1 p0.2.1 p0.2.2.1 p0.2.2.1 (((List.length p0.2.2.1) : Nat) : Int) (0 : Int)
theorem loops6 (N : Nat) : loopsOk C6 (L6 N) Go.Proofs.Tryd.f6 := ⟨trivial, ⟨⟨trivial, ⟨⟨trivial, trivial⟩, trivial⟩⟩, ⟨⟨trivial, ⟨⟨trivial, trivial⟩, trivial⟩⟩, ⟨⟨trivial, ⟨loopOk_of H6_6 N (fun K n v => W6_6 N (fun b1a b1ba b1bba t2 b4a b4ba b4bba => K .ret (encH [(3, (.pr (.i .i64) (.pr (.i .i64) (.pr (.sl (.pr (.int .i64) (.pr (.int .i64) (.pr .str .un))) .no) .un)))), (4, .bo), (9, (.pr (.i .i64) (.pr (.i .i64) (.pr .st .un))))] ((b1a, (b1ba, (b1bba, ()))), (t2, ((b4a, (b4ba, (b4bba, ()))), ()))))) (fun b1a b1ba b1bba => K (.exit 0) (encH [(2, (.bx 1 0)), (3, (.pr (.i .i64) (.pr (.i .i64) (.pr (.sl (.pr (.int .i64) (.pr (.int .i64) (.pr .str .un))) .no) .un))))] ((), ((b1a, (b1ba, (b1bba, ()))), ())))) n v.2.1.1 v.2.1.2.1 v.2.1.2.2.1 v.2.2.1 v.2.2.2.1 v.2.2.2.2.1) (by kernel_rfl) (fun K v => by kernel_rfl) (fun K v => by kernel_rfl) (fun K n v => by kernel_rfl), ⟨trivial, ⟨⟨trivial, trivial⟩, ⟨⟨trivial, ⟨trivial, ⟨⟨trivial, trivial⟩, trivial⟩⟩⟩, trivial⟩⟩⟩⟩⟩, ⟨trivial, trivial⟩⟩⟩⟩⟩
theorem runs6 (N : Nat) (x : S6.ta.den) : run C6 S6 (L6 N) Go.Proofs.Tryd.f6 x = F6 N x.1 := by kernel_rfl

end Go.L09
