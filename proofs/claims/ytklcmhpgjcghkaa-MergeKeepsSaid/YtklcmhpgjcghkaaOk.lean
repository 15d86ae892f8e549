/- The contracts of the seat's functions. Printed by a program of this session. -/
import Derived.Test.YtklcmhpgjcghkaaX
import Derived.Test.YtklcmhpgjcghkaaAbs20
import Derived.Test.YtklcmhpgjcghkaaAbs26
set_option linter.unusedVariables false
set_option maxRecDepth 100000
namespace Go.L23a
open Go Go.Abs Go.Inc
def gl : List (Nat × AVal) := []
theorem hm : Go.Proofs.Try.prog.follows .mixedOrders = true := by kernel_rfl
theorem tabs : tabOk Go.Proofs.Try.prog tab = true := by kernel_rfl
theorem ebsok : ebsOk Go.Proofs.Try.prog ebs = true := by kernel_rfl

def C9 : Cfg := { nt := 8, tab := tab, eb := ebs, glob := [], specs := [], clones := [], keep := [0, 4], own := [5], heads := [] }
def L9 : Loops (List (List Int)) := fun _ _ _ => none
theorem c9n (xs : List (List Int)) : runC .nl C9 (.sl (.int .i64)) 2 L9 Go.Proofs.Try.f9 xs = some [] := by kernel_rfl
theorem c9 (xs : List (List Int)) : runC .nn C9 (.sl (.int .i64)) 2 L9 Go.Proofs.Try.f9 xs =
    bif decide (0 = List.length ([] : List (List Int))) && decide ((List.length ([] : List (List Int)) + xs.length) * 24 ≤ 140737488351232) then
      (bif decide (List.length ([] : List (List Int)) + xs.length = List.length (([] : List (List Int)) ++ xs)) then some ([] ++ xs) else none) else none := by kernel_rfl
theorem clone9 : CloneOK Go.Proofs.Try.prog gl 9 (.sl (.int .i64)) 24 :=
  clone_of (r := 2) hm (cfgOk_of (C := C9) tabs ebsok trivial trivial rfl) Go.Proofs.Try.func9 rfl (by kernel_rfl) (by kernel_rfl) (by kernel_rfl)
    (fun xs hb => ⟨fun h => ⟨L9, ⟨trivial, ⟨⟨trivial, ⟨⟨trivial, trivial⟩, trivial⟩⟩, ⟨trivial, trivial⟩⟩⟩, by rw [c9n, h]⟩, ⟨L9, ⟨trivial, ⟨⟨trivial, ⟨⟨trivial, trivial⟩, trivial⟩⟩, ⟨trivial, trivial⟩⟩⟩, by
      have h1 : decide ((List.length ([] : List (List Int)) + xs.length) * 24 ≤ 140737488351232) = true := by simp only [List.length_nil, Nat.zero_add, decide_eq_true_eq]; exact hb
      rw [c9, h1]; simp⟩⟩)
theorem ok13 : SpecOK Go.Proofs.Try.prog gl 13 S13 :=
  spec_of hm (cfgOk_of (C := C13) tabs ebsok trivial trivial rfl trivial) Go.Proofs.Try.func13 rfl (by kernel_rfl) (by kernel_rfl)
    (fun y h => ⟨L13 (fuel13 y.1 y.2.1), loops13 _, (runs13 _ y).trans (plain13 y.1 y.2.1 h)⟩)
theorem okx12 : XOK Go.Proofs.Try.prog gl 12 X12 :=
  xspec_of hm (cfgOk_of (C := C12) tabs ebsok ⟨ok13, by kernel_rfl, trivial⟩ trivial rfl trivial) Go.Proofs.Try.func12 rfl (by kernel_rfl) (by kernel_rfl) (by kernel_rfl) (by kernel_rfl)
    (fun y h => ⟨L12 (fuel12 y.1 y.2.2.2.1.1 y.2.2.2.2.1.1), loops12 _, (runs12 _ y).trans (plain12 y.1 y.2.2.2.1.1 y.2.2.2.2.1.1 h)⟩)
theorem okx14 : XOK Go.Proofs.Try.prog gl 14 X14 :=
  xspec_of hm (cfgOk_of (C := C14) tabs ebsok trivial trivial rfl ⟨okx12, by kernel_rfl, trivial⟩) Go.Proofs.Try.func14 rfl (by kernel_rfl) (by kernel_rfl) (by kernel_rfl) (by kernel_rfl)
    (fun y h => ⟨L14 (fuel14 y.1 y.2.2.1.1 y.2.2.2.1.1), loops14 _, (runs14 _ y).trans (plain14 y.1 y.2.2.1.1 y.2.2.2.1.1 h)⟩)
theorem okx11 : XOK Go.Proofs.Try.prog gl 11 X11 :=
  xspec_of hm (cfgOk_of (C := C11) tabs ebsok trivial trivial rfl ⟨okx14, by kernel_rfl, trivial⟩) Go.Proofs.Try.func11 rfl (by kernel_rfl) (by kernel_rfl) (by kernel_rfl) (by kernel_rfl)
    (fun y h => ⟨L11 (fuel11 y.1 y.2.2.1.1 y.2.2.2.1.1), loops11 _, (runs11 _ y).trans (plain11 y.1 y.2.2.1.1 y.2.2.2.1.1 h)⟩)
theorem okx10 : XOK Go.Proofs.Try.prog gl 10 X10 :=
  xspec_of hm (cfgOk_of (C := C10) tabs ebsok trivial trivial rfl ⟨okx11, by kernel_rfl, trivial⟩) Go.Proofs.Try.func10 rfl (by kernel_rfl) (by kernel_rfl) (by kernel_rfl) (by kernel_rfl)
    (fun y h => ⟨L10 (fuel10 y.1 y.2.2.2.1.1 y.2.2.2.2.1.1 y.2.2.2.2.2.1), loops10 _, (runs10 _ y).trans (plain10 y.1 y.2.2.2.1.1 y.2.2.2.2.1.1 y.2.2.2.2.2.1 h)⟩)
theorem ok8 : SpecOK Go.Proofs.Try.prog gl 8 S8 :=
  spec_of hm (cfgOk_of (C := C8) tabs ebsok trivial trivial rfl trivial) Go.Proofs.Try.func8 rfl (by kernel_rfl) (by kernel_rfl)
    (fun y h => ⟨L8 (fuel8 y.1 y.2.1), loops8 _, (runs8 _ y).trans (plain8 y.1 y.2.1 h)⟩)
theorem ok5 : SpecOK Go.Proofs.Try.prog gl 5 S5 :=
  spec_of hm (cfgOk_of (C := C5) tabs ebsok ⟨ok8, by kernel_rfl, trivial⟩ ⟨clone9, by kernel_rfl, trivial⟩ rfl ⟨okx10, by kernel_rfl, trivial⟩) Go.Proofs.Try.func5 rfl (by kernel_rfl) (by kernel_rfl)
    (fun y h => ⟨L5 (fuel5 y.1 y.2.1), loops5 _, (runs5 _ y).trans (plain5 y.1 y.2.1 h)⟩)
theorem ok7 : SpecOK Go.Proofs.Try.prog gl 7 S7 :=
  spec_of hm (cfgOk_of (C := C7) tabs ebsok trivial trivial rfl trivial) Go.Proofs.Try.func7 rfl (by kernel_rfl) (by kernel_rfl)
    (fun y h => ⟨L7 (fuel7 y.1 y.2.1), loops7 _, (runs7 _ y).trans (plain7 y.1 y.2.1 h)⟩)
theorem ok4 : SpecOK Go.Proofs.Try.prog gl 4 S4 :=
  spec_of hm (cfgOk_of (C := C4) tabs ebsok ⟨ok5, by kernel_rfl, ok7, by kernel_rfl, trivial⟩ trivial rfl trivial) Go.Proofs.Try.func4 rfl (by kernel_rfl) (by kernel_rfl)
    (fun y h => ⟨L4 (fuel4), loops4 _, (runs4 _ y).trans (plain4 h)⟩)
theorem ok6 : SpecOK Go.Proofs.Try.prog gl 6 S6 :=
  spec_of hm (cfgOk_of (C := C6) tabs ebsok trivial trivial rfl trivial) Go.Proofs.Try.func6 rfl (by kernel_rfl) (by kernel_rfl)
    (fun y h => ⟨L6 (fuel6 y.1 y.2.1), loops6 _, (runs6 _ y).trans (plain6 y.1 y.2.1 h)⟩)
theorem ok3 : SpecOK Go.Proofs.Try.prog gl 3 S3 :=
  spec_of hm (cfgOk_of (C := C3) tabs ebsok ⟨ok4, by kernel_rfl, ok5, by kernel_rfl, ok6, by kernel_rfl, trivial⟩ trivial rfl trivial) Go.Proofs.Try.func3 rfl (by kernel_rfl) (by kernel_rfl)
    (fun y h => ⟨L3 (fuel3 y.1 y.2.1), loops3 _, (runs3 _ y).trans (plain3 y.1 y.2.1 h)⟩)
end Go.L23a
