/- Own text of this session: a part of the proof; no condition of its own. -/
import Derived.Test.YtbbkecjljoefmaaWalk
import Derived.Test.YtbbkecjljoefmaaAbs20
set_option linter.unusedVariables false
namespace Go.L21
open Go Go.Abs
def C13 : Cfg := { nt := 8, tab := tab, eb := ebs, glob := [], specs := [], clones := [], keep := [0, 4], own := [5], heads := [] }
def L13 : Loops (List Int) := fun _ _ _ => none
theorem c13n (xs : List Int) : runC .nl C13 (.int .u64) 2 L13 Go.Proofs.Try.f13 xs = some [] := by kernel_rfl
theorem c13 (xs : List Int) : runC .nn C13 (.int .u64) 2 L13 Go.Proofs.Try.f13 xs =
    bif decide (0 = List.length ([] : List Int)) && decide ((List.length ([] : List Int) + xs.length) * 8 ≤ 140737488351232) then
      (bif decide (List.length ([] : List Int) + xs.length = List.length (([] : List Int) ++ xs)) then some ([] ++ xs) else none) else none := by kernel_rfl
theorem hm : Go.Proofs.Try.prog.follows .mixedOrders = true := by kernel_rfl
theorem tabs : tabOk Go.Proofs.Try.prog tab = true := by kernel_rfl
theorem ebsok : ebsOk Go.Proofs.Try.prog ebs = true := by kernel_rfl
theorem clone13 : CloneOK Go.Proofs.Try.prog [] 13 (.int .u64) 8 :=
  clone_of (r := 2) hm (cfgOk_of (C := C13) tabs ebsok trivial trivial rfl) Go.Proofs.Try.func13 rfl (by kernel_rfl) (by kernel_rfl) (by kernel_rfl)
    (fun xs hb => ⟨fun h => ⟨L13, ⟨trivial, ⟨⟨trivial, ⟨⟨trivial, trivial⟩, trivial⟩⟩, ⟨trivial, trivial⟩⟩⟩, by rw [c13n, h]⟩, ⟨L13, ⟨trivial, ⟨⟨trivial, ⟨⟨trivial, trivial⟩, trivial⟩⟩, ⟨trivial, trivial⟩⟩⟩, by
      have h1 : decide ((List.length ([] : List Int) + xs.length) * 8 ≤ 140737488351232) = true := by simp only [List.length_nil, Nat.zero_add, decide_eq_true_eq]; exact hb
      rw [c13, h1]; simp⟩⟩)
end Go.L21
