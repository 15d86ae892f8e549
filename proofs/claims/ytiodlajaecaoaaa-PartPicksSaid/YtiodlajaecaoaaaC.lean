/- Own text of this session: a part of the proof; no condition of its own. -/
import Derived.Test.YtiodlajaecaoaaaOk
set_option linter.unusedVariables false
set_option maxRecDepth 100000
namespace Go.L19
open Go Go.Abs Go.Inc
def C14 : Cfg := { nt := 8, tab := tab, eb := ebs, glob := [], specs := [], clones := [], keep := [0, 4], own := [5], heads := [] }
def L14 : Loops (List (Int × Int × ByteArray × Unit)) := fun _ _ _ => none
theorem c14n (xs : List (Int × Int × ByteArray × Unit)) : runC .nl C14 (.pr (.int .i64) (.pr (.int .i64) (.pr .str .un))) 2 L14 Go.Proofs.Try.f14 xs = some [] := by kernel_rfl
theorem c14 (xs : List (Int × Int × ByteArray × Unit)) : runC .nn C14 (.pr (.int .i64) (.pr (.int .i64) (.pr .str .un))) 2 L14 Go.Proofs.Try.f14 xs =
    bif decide (0 = List.length ([] : List (Int × Int × ByteArray × Unit))) && decide ((List.length ([] : List (Int × Int × ByteArray × Unit)) + xs.length) * 32 ≤ 140737488351232) then
      (bif decide (List.length ([] : List (Int × Int × ByteArray × Unit)) + xs.length = List.length (([] : List (Int × Int × ByteArray × Unit)) ++ xs)) then some ([] ++ xs) else none) else none := by kernel_rfl
theorem clone14 : CloneOK Go.Proofs.Try.prog gl 14 VT 32 :=
  clone_of (r := 2) hm (cfgOk_of (C := C14) tabs ebsok trivial trivial rfl) Go.Proofs.Try.func14 rfl (by kernel_rfl) (by kernel_rfl) (by kernel_rfl)
    (fun xs hb => ⟨fun h => ⟨L14, ⟨trivial, ⟨⟨trivial, ⟨⟨trivial, trivial⟩, trivial⟩⟩, ⟨trivial, trivial⟩⟩⟩, by rw [c14n, h]⟩, ⟨L14, ⟨trivial, ⟨⟨trivial, ⟨⟨trivial, trivial⟩, trivial⟩⟩, ⟨trivial, trivial⟩⟩⟩, by
      have h1 : decide ((List.length ([] : List (Int × Int × ByteArray × Unit)) + xs.length) * 32 ≤ 140737488351232) = true := by simp only [List.length_nil, Nat.zero_add, decide_eq_true_eq]; exact hb
      rw [c14, h1]; simp⟩⟩)
end Go.L19
