/- Own text of this session: a part of the proof; no condition of its own. -/
import Derived.Test.YtbbkecjljoefmaaWalk
import Derived.Test.YtbbkecjljoefmaaAbs20
set_option linter.unusedVariables false
namespace Go.L21
open Go Go.Abs

def C16 : Cfg := { nt := 35, tab := tab, eb := ebs, glob := [], specs := [], clones := [], keep := [0, 4], own := [], heads := [] }
def L16 (_ : Nat) : Loops (Int × Unit) := fun _ _ _ => none
def sh (x : Int) (k : Nat) : Int := Int.fdiv x ((2 : Int) ^ (Min.min (Int.toNat (k : Int)) (Go.IntKind.bits .u64)))
def o1 (x : Int) : Int := Go.IntKind.wrap .u64 (Go.bits .and .u64 (sh x 1) (6148914691236517205 : Int) + Go.bits .and .u64 x (6148914691236517205 : Int))
def o2 (x : Int) : Int := Go.IntKind.wrap .u64 (Go.bits .and .u64 (sh x 2) (3689348814741910323 : Int) + Go.bits .and .u64 x (3689348814741910323 : Int))
def o3 (x : Int) : Int := Go.bits .and .u64 (Go.IntKind.wrap .u64 (sh x 4 + x)) (1085102592571150095 : Int)
def o4 (k : Nat) (x : Int) : Int := Go.IntKind.wrap .u64 (x + sh x k)
def F16 (N : Nat) (p0 : Int) : Option (Int × Unit) :=
  some (Go.bits .and .i64 (Go.IntKind.wrap .i64 (o4 32 (o4 16 (o4 8 (o3 (o2 (o1 p0))))))) (127 : Int), ())
theorem loops16 (N : Nat) : loopsOk C16 (L16 N) Go.Proofs.Try.f16 := ⟨trivial, trivial, trivial, trivial, trivial, trivial, trivial, trivial, trivial⟩
theorem runs16 (N : Nat) (x : S16.ta.den) : run C16 S16 (L16 N) Go.Proofs.Try.f16 x = F16 N x.1 := by kernel_rfl
end Go.L21
