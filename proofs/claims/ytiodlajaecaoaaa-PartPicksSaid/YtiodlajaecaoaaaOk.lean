/- The contracts of the seat's functions. Printed by a program of this session. -/
import Derived.Test.YtiodlajaecaoaaaK
import Derived.Test.YtiodlajaecaoaaaD
import Derived.Test.YtiodlajaecaoaaaAbs20
set_option linter.unusedVariables false
set_option maxRecDepth 100000
namespace Go.L19
open Go Go.Abs Go.Inc
def gl : List (Nat × AVal) := []
theorem hm : Go.Proofs.Try.prog.follows .mixedOrders = true := by kernel_rfl
theorem tabs : tabOk Go.Proofs.Try.prog tab = true := by kernel_rfl
theorem ebsok : ebsOk Go.Proofs.Try.prog ebs = true := by kernel_rfl

theorem ok7 : SpecOK Go.Proofs.Try.prog gl 7 S7 :=
  spec_of hm (cfgOk_of (C := C7) tabs ebsok trivial trivial rfl trivial) Go.Proofs.Try.func7 rfl (by kernel_rfl) (by kernel_rfl)
    (fun y h => ⟨L7 (fuel7 y.1 y.2.1), loops7 _, (runs7 _ y).trans (plain7 y.1 y.2.1 h)⟩)
theorem ok6 : SpecOK Go.Proofs.Try.prog gl 6 S6 :=
  spec_of hm (cfgOk_of (C := C6) tabs ebsok ⟨ok7, by kernel_rfl, ok8, by kernel_rfl, trivial⟩ trivial rfl trivial) Go.Proofs.Try.func6 rfl (by kernel_rfl) (by kernel_rfl)
    (fun y h => ⟨L6 (fuel6), loops6 _, (runs6 _ y).trans (plain6 h)⟩)
theorem ok13 : SpecOK Go.Proofs.Try.prog gl 13 S13 :=
  spec_of hm (cfgOk_of (C := C13) tabs ebsok trivial trivial rfl trivial) Go.Proofs.Try.func13 rfl (by kernel_rfl) (by kernel_rfl)
    (fun y h => ⟨L13 (fuel13 y.1 y.2.1), loops13 _, (runs13 _ y).trans (plain13 y.1 y.2.1 h)⟩)
theorem ok9 : SpecOK Go.Proofs.Try.prog gl 9 S9 :=
  spec_of hm (cfgOk_of (C := C9) tabs ebsok ⟨ok13, by kernel_rfl, trivial⟩ trivial rfl trivial) Go.Proofs.Try.func9 rfl (by kernel_rfl) (by kernel_rfl)
    (fun y h => ⟨L9 (fuel9 y.1), loops9 _, (runs9 _ y).trans (plain9 y.1 h)⟩)
theorem ok3 : SpecOK Go.Proofs.Try.prog gl 3 S3 :=
  spec_of hm (cfgOk_of (C := C3) tabs ebsok ⟨ok6, by kernel_rfl, ok7, by kernel_rfl, ok8, by kernel_rfl, ok9, by kernel_rfl, trivial⟩ trivial rfl trivial) Go.Proofs.Try.func3 rfl (by kernel_rfl) (by kernel_rfl)
    (fun y h => ⟨L3 (fuel3 y.1), loops3 _, (runs3 _ y).trans (plain3 y.1 h)⟩)
theorem ok4 : SpecOK Go.Proofs.Try.prog gl 4 S4 :=
  spec_of hm (cfgOk_of (C := C4) tabs ebsok ⟨ok6, by kernel_rfl, ok8, by kernel_rfl, trivial⟩ trivial rfl trivial) Go.Proofs.Try.func4 rfl (by kernel_rfl) (by kernel_rfl)
    (fun y h => ⟨L4 (fuel4 y.1), loops4 _, (runs4 _ y).trans (plain4 y.1 h)⟩)
theorem ok12 : SpecOK Go.Proofs.Try.prog gl 12 S12 :=
  spec_of hm (cfgOk_of (C := C12) tabs ebsok trivial trivial rfl trivial) Go.Proofs.Try.func12 rfl (by kernel_rfl) (by kernel_rfl)
    (fun y h => ⟨L12 (fuel12 y.1 y.2.1), loops12 _, (runs12 _ y).trans (plain12 y.1 y.2.1 h)⟩)
theorem ok16 : SpecOK Go.Proofs.Try.prog gl 16 S16 :=
  spec_of hm (cfgOk_of (C := C16) tabs ebsok trivial trivial rfl trivial) Go.Proofs.Try.func16 rfl (by kernel_rfl) (by kernel_rfl)
    (fun y h => ⟨L16 (fuel16 y.1 y.2.1), loops16 _, (runs16 _ y).trans (plain16 y.1 y.2.1 h)⟩)
theorem ok15 : SpecOK Go.Proofs.Try.prog gl 15 S15 :=
  spec_of hm (cfgOk_of (C := C15) tabs ebsok ⟨ok16, by kernel_rfl, trivial⟩ trivial rfl trivial) Go.Proofs.Try.func15 rfl (by kernel_rfl) (by kernel_rfl)
    (fun y h => ⟨L15 (fuel15 y.1 y.2.1), loops15 _, (runs15 _ y).trans (plain15 y.1 y.2.1 h)⟩)
theorem ok11 : SpecOK Go.Proofs.Try.prog gl 11 S11 :=
  spec_of hm (cfgOk_of (C := C11) tabs ebsok ⟨ok15, by kernel_rfl, trivial⟩ trivial rfl trivial) Go.Proofs.Try.func11 rfl (by kernel_rfl) (by kernel_rfl)
    (fun y h => ⟨L11 (fuel11 y.1 y.2.1), loops11 _, (runs11 _ y).trans (plain11 y.1 y.2.1 h)⟩)
end Go.L19
