/- The contracts of the seat's functions. Printed by a program of this session. -/
import Derived.Test.YtaeinncalendfaaDoorR
import Derived.Test.YtaeinncalendfaaDoorAbs26
set_option linter.unusedVariables false
set_option maxRecDepth 100000
namespace Go.L09
open Go Go.Abs Go.Inc
def gl : List (Nat × AVal) := [(2, .pt VT (3, 1, ByteArray.empty, ())), (3, .pt VT (3, 0, ByteArray.empty, ()))]
theorem hm : Go.Proofs.Tryd.prog.follows .mixedOrders = true := by kernel_rfl
theorem tabs : tabOk Go.Proofs.Tryd.prog tab = true := by kernel_rfl
theorem ebsok : ebsOk Go.Proofs.Tryd.prog ebs = true := by kernel_rfl

theorem ok37 : SpecOK Go.Proofs.Tryd.prog gl 37 S37 :=
  spec_of hm (cfgOk_of (C := C37) tabs ebsok trivial trivial rfl trivial) Go.Proofs.Tryd.func37 rfl (by kernel_rfl) (by kernel_rfl)
    (fun y h => ⟨L37 (fuel37 y.1 y.2.1), loops37 _, (runs37 _ y).trans (plain37 y.1 y.2.1 h)⟩)
theorem ok34 : SpecOK Go.Proofs.Tryd.prog gl 34 S34 :=
  spec_of hm (cfgOk_of (C := C34) tabs ebsok ⟨ok37, by kernel_rfl, trivial⟩ trivial rfl trivial) Go.Proofs.Tryd.func34 rfl (by kernel_rfl) (by kernel_rfl)
    (fun y h => ⟨L34 (fuel34 y.1), loops34 _, (runs34 _ y).trans (plain34 y.1 h)⟩)
theorem ok28 : SpecOK Go.Proofs.Tryd.prog gl 28 S28 :=
  spec_of hm (cfgOk_of (C := C28) tabs ebsok ⟨ok34, by kernel_rfl, trivial⟩ trivial rfl trivial) Go.Proofs.Tryd.func28 rfl (by kernel_rfl) (by kernel_rfl)
    (fun y h => ⟨L28 (fuel28 y.1), loops28 _, (runs28 _ y).trans (plain28 y.1 h)⟩)
theorem ok27 : SpecOK Go.Proofs.Tryd.prog gl 27 S27 :=
  spec_of hm (cfgOk_of (C := C27) tabs ebsok ⟨ok28, by kernel_rfl, trivial⟩ trivial rfl trivial) Go.Proofs.Tryd.func27 rfl (by kernel_rfl) (by kernel_rfl)
    (fun y h => ⟨L27 (fuel27 y.1), loops27 _, (runs27 _ y).trans (plain27 y.1 h)⟩)
theorem ok33 : SpecOK Go.Proofs.Tryd.prog gl 33 S33 :=
  spec_of hm (cfgOk_of (C := C33) tabs ebsok trivial trivial rfl trivial) Go.Proofs.Tryd.func33 rfl (by kernel_rfl) (by kernel_rfl)
    (fun y h => ⟨L33 (fuel33 y.1), loops33 _, (runs33 _ y).trans (plain33 y.1 h)⟩)
theorem ok26 : SpecOK Go.Proofs.Tryd.prog gl 26 S26 :=
  spec_of hm (cfgOk_of (C := C26) tabs ebsok ⟨ok33, by kernel_rfl, trivial⟩ trivial rfl trivial) Go.Proofs.Tryd.func26 rfl (by kernel_rfl) (by kernel_rfl)
    (fun y h => ⟨L26 (fuel26 y.1), loops26 _, (runs26 _ y).trans (plain26 y.1 h)⟩)
theorem ok9 : SpecOK Go.Proofs.Tryd.prog gl 9 S9 :=
  spec_of hm (cfgOk_of (C := C9) tabs ebsok ⟨ok26, by kernel_rfl, trivial⟩ trivial rfl trivial) Go.Proofs.Tryd.func9 rfl (by kernel_rfl) (by kernel_rfl)
    (fun y h => ⟨L9 (fuel9 y.1 y.2.1), loops9 _, (runs9 _ y).trans (plain9 y.1 y.2.1 h)⟩)
theorem ok10 : SpecOK Go.Proofs.Tryd.prog gl 10 S10 :=
  spec_of hm (cfgOk_of (C := C10) tabs ebsok ⟨ok27, by kernel_rfl, ok28, by kernel_rfl, trivial⟩ trivial rfl trivial) Go.Proofs.Tryd.func10 rfl (by kernel_rfl) (by kernel_rfl)
    (fun y h => ⟨L10 (fuel10 y.1 y.2.1), loops10 _, (runs10 _ y).trans (plain10 y.1 y.2.1 h)⟩)
theorem ok23 : SpecOK Go.Proofs.Tryd.prog gl 23 S23 :=
  spec_of hm (cfgOk_of (C := C23) tabs ebsok trivial trivial rfl trivial) Go.Proofs.Tryd.func23 rfl (by kernel_rfl) (by kernel_rfl)
    (fun y h => ⟨L23 (fuel23 y.1), loops23 _, (runs23 _ y).trans (plain23 y.1 h)⟩)
theorem ok25 : SpecOK Go.Proofs.Tryd.prog gl 25 S25 :=
  spec_of hm (cfgOk_of (C := C25) tabs ebsok trivial trivial rfl trivial) Go.Proofs.Tryd.func25 rfl (by kernel_rfl) (by kernel_rfl)
    (fun y h => ⟨L25 (fuel25 y.1), loops25 _, (runs25 _ y).trans (plain25 y.1 h)⟩)
theorem ok12 : SpecOK Go.Proofs.Tryd.prog gl 12 S12 :=
  spec_of hm (cfgOk_of (C := C12) tabs ebsok ⟨ok23, by kernel_rfl, ok25, by kernel_rfl, trivial⟩ trivial rfl trivial) Go.Proofs.Tryd.func12 rfl (by kernel_rfl) (by kernel_rfl)
    (fun y h => ⟨L12 (fuel12 y.1 y.2.1), loops12 _, (runs12 _ y).trans (plain12 y.1 y.2.1 h)⟩)
theorem ok13 : SpecOK Go.Proofs.Tryd.prog gl 13 S13 :=
  spec_of hm (cfgOk_of (C := C13) tabs ebsok trivial trivial rfl trivial) Go.Proofs.Tryd.func13 rfl (by kernel_rfl) (by kernel_rfl)
    (fun y h => ⟨L13 (fuel13 y.1 y.2.1), loops13 _, (runs13 _ y).trans (plain13 y.1 y.2.1 h)⟩)
theorem okx36 : XOK Go.Proofs.Tryd.prog gl 36 X36 :=
  xspec_of hm (cfgOk_of (C := C36) tabs ebsok trivial trivial rfl trivial) Go.Proofs.Tryd.func36 rfl (by kernel_rfl) (by kernel_rfl) (by kernel_rfl) (by kernel_rfl)
    (fun y h => ⟨L36 (fuel36 y.1.1 y.1.2.1 y.1.2.2.1 y.1.2.2.2.1 y.1.2.2.2.2.1 y.2.2.2.1.1 y.2.2.2.2.1.1), loops36 _, (runs36 _ y).trans (plain36 y.1.1 y.1.2.1 y.1.2.2.1 y.1.2.2.2.1 y.1.2.2.2.2.1 y.2.2.2.1.1 y.2.2.2.2.1.1 h)⟩)
theorem okx35 : XOK Go.Proofs.Tryd.prog gl 35 X35 :=
  xspec_of hm (cfgOk_of (C := C35) tabs ebsok trivial trivial rfl ⟨okx36, by kernel_rfl, trivial⟩) Go.Proofs.Tryd.func35 rfl (by kernel_rfl) (by kernel_rfl) (by kernel_rfl) (by kernel_rfl)
    (fun y h => ⟨L35 (fuel35 y.1 y.2.2.1.1 y.2.2.2.1.1), loops35 _, (runs35 _ y).trans (plain35 y.1 y.2.2.1.1 y.2.2.2.1.1 h)⟩)
theorem ok29 : SpecOK Go.Proofs.Tryd.prog gl 29 S29 :=
  spec_of hm (cfgOk_of (C := C29) tabs ebsok trivial trivial rfl ⟨okx35, by kernel_rfl, trivial⟩) Go.Proofs.Tryd.func29 rfl (by kernel_rfl) (by kernel_rfl)
    (fun y h => ⟨L29 (fuel29 y.1 y.2.1), loops29 _, (runs29 _ y).trans (plain29 y.1 y.2.1 h)⟩)
theorem ok30 : SpecOK Go.Proofs.Tryd.prog gl 30 S30 :=
  spec_of hm (cfgOk_of (C := C30) tabs ebsok trivial trivial rfl trivial) Go.Proofs.Tryd.func30 rfl (by kernel_rfl) (by kernel_rfl)
    (fun y h => ⟨L30 (fuel30 y.1), loops30 _, (runs30 _ y).trans (plain30 y.1 h)⟩)
theorem ok11 : SpecOK Go.Proofs.Tryd.prog gl 11 S11 :=
  spec_of hm (cfgOk_of (C := C11) tabs ebsok ⟨ok29, by kernel_rfl, ok30, by kernel_rfl, trivial⟩ trivial rfl trivial) Go.Proofs.Tryd.func11 rfl (by kernel_rfl) (by kernel_rfl)
    (fun y h => ⟨L11 (fuel11 y.1 y.2.1), loops11 _, (runs11 _ y).trans (plain11 y.1 y.2.1 h)⟩)
theorem ok31 : SpecOK Go.Proofs.Tryd.prog gl 31 S31 :=
  spec_of hm (cfgOk_of (C := C31) tabs ebsok ⟨ok9, by kernel_rfl, trivial⟩ trivial rfl trivial) Go.Proofs.Tryd.func31 rfl (by kernel_rfl) (by kernel_rfl)
    (fun y h => ⟨L31 (fuel31 y.1), loops31 _, (runs31 _ y).trans (plain31 y.1 h)⟩)
theorem ok14 : SpecOK Go.Proofs.Tryd.prog gl 14 S14 :=
  spec_of hm (cfgOk_of (C := C14) tabs ebsok ⟨ok9, by kernel_rfl, ok29, by kernel_rfl, ok31, by kernel_rfl, trivial⟩ trivial rfl trivial) Go.Proofs.Tryd.func14 rfl (by kernel_rfl) (by kernel_rfl)
    (fun y h => ⟨L14 (fuel14 y.1 y.2.1 y.2.2.1), loops14 _, (runs14 _ y).trans (plain14 y.1 y.2.1 y.2.2.1 h)⟩)
theorem ok15 : SpecOK Go.Proofs.Tryd.prog gl 15 S15 :=
  spec_of hm (cfgOk_of (C := C15) tabs ebsok ⟨ok10, by kernel_rfl, ok12, by kernel_rfl, trivial⟩ trivial rfl trivial) Go.Proofs.Tryd.func15 rfl (by kernel_rfl) (by kernel_rfl)
    (fun y h => ⟨L15 (fuel15 y.1 y.2.1 y.2.2.1), loops15 _, (runs15 _ y).trans (plain15 y.1 y.2.1 y.2.2.1 h)⟩)
theorem ok16 : SpecOK Go.Proofs.Tryd.prog gl 16 S16 :=
  spec_of hm (cfgOk_of (C := C16) tabs ebsok ⟨ok9, by kernel_rfl, ok11, by kernel_rfl, trivial⟩ trivial rfl trivial) Go.Proofs.Tryd.func16 rfl (by kernel_rfl) (by kernel_rfl)
    (fun y h => ⟨L16 (fuel16 y.1 y.2.1 y.2.2.1), loops16 _, (runs16 _ y).trans (plain16 y.1 y.2.1 y.2.2.1 h)⟩)
theorem ok17 : SpecOK Go.Proofs.Tryd.prog gl 17 S17 :=
  spec_of hm (cfgOk_of (C := C17) tabs ebsok ⟨ok10, by kernel_rfl, ok12, by kernel_rfl, trivial⟩ trivial rfl trivial) Go.Proofs.Tryd.func17 rfl (by kernel_rfl) (by kernel_rfl)
    (fun y h => ⟨L17 (fuel17 y.1 y.2.1 y.2.2.1), loops17 _, (runs17 _ y).trans (plain17 y.1 y.2.1 y.2.2.1 h)⟩)
theorem ok8 : SpecOK Go.Proofs.Tryd.prog gl 8 S8 :=
  spec_of hm (cfgOk_of (C := C8) tabs ebsok ⟨ok11, by kernel_rfl, ok13, by kernel_rfl, ok14, by kernel_rfl, trivial⟩ trivial rfl trivial) Go.Proofs.Tryd.func8 rfl (by kernel_rfl) (by kernel_rfl)
    (fun y h => ⟨L8 (fuel8), loops8 _, (runs8 _ y).trans (plain8 h)⟩)
theorem ok3 : SpecOK Go.Proofs.Tryd.prog gl 3 S3 :=
  spec_of hm (cfgOk_of (C := C3) tabs ebsok ⟨ok8, by kernel_rfl, ok9, by kernel_rfl, ok10, by kernel_rfl, trivial⟩ trivial rfl trivial) Go.Proofs.Tryd.func3 rfl (by kernel_rfl) (by kernel_rfl)
    (fun y h => ⟨L3 (fuel3 y.1 y.2.1), loops3 _, (runs3 _ y).trans (plain3 y.1 y.2.1 h)⟩)
theorem ok4 : SpecOK Go.Proofs.Tryd.prog gl 4 S4 :=
  spec_of hm (cfgOk_of (C := C4) tabs ebsok ⟨ok8, by kernel_rfl, ok11, by kernel_rfl, ok12, by kernel_rfl, ok13, by kernel_rfl, trivial⟩ trivial rfl trivial) Go.Proofs.Tryd.func4 rfl (by kernel_rfl) (by kernel_rfl)
    (fun y h => ⟨L4 (fuel4 y.1 y.2.1), loops4 _, (runs4 _ y).trans (plain4 y.1 y.2.1 h)⟩)
theorem ok5 : SpecOK Go.Proofs.Tryd.prog gl 5 S5 :=
  spec_of hm (cfgOk_of (C := C5) tabs ebsok ⟨ok8, by kernel_rfl, ok13, by kernel_rfl, ok14, by kernel_rfl, ok15, by kernel_rfl, trivial⟩ trivial rfl trivial) Go.Proofs.Tryd.func5 rfl (by kernel_rfl) (by kernel_rfl)
    (fun y h => ⟨L5 (fuel5 y.1), loops5 _, (runs5 _ y).trans (plain5 y.1 h)⟩)
theorem ok6 : SpecOK Go.Proofs.Tryd.prog gl 6 S6 :=
  spec_of hm (cfgOk_of (C := C6) tabs ebsok ⟨ok8, by kernel_rfl, ok16, by kernel_rfl, ok17, by kernel_rfl, trivial⟩ trivial rfl trivial) Go.Proofs.Tryd.func6 rfl (by kernel_rfl) (by kernel_rfl)
    (fun y h => ⟨L6 (fuel6 y.1), loops6 _, (runs6 _ y).trans (plain6 y.1 h)⟩)
end Go.L09
