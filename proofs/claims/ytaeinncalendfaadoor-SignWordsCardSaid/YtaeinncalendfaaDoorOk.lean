/- The contracts of the seat's functions. Printed by a program of this session. -/
import Derived.Test.YtaeinncalendfaaDoorZ
import Derived.Test.YtaeinncalendfaaDoorAbs20
import Derived.Test.YtaeinncalendfaaDoorAbs28
set_option linter.unusedVariables false
set_option maxRecDepth 100000
namespace Go.L09
open Go Go.Abs Go.Inc
def gl : List (Nat × AVal) := [(0, .pt (arrTy .str 11) modelsA), (1, .pt (arrTy .str 14) opsA), (2, .pt VT (3, 1, ByteArray.empty, ())), (3, .pt VT (3, 0, ByteArray.empty, ()))]
theorem hm : Go.Proofs.Tryd.prog.follows .mixedOrders = true := by kernel_rfl
theorem tabs : tabOk Go.Proofs.Tryd.prog tab = true := by kernel_rfl
theorem ebsok : ebsOk Go.Proofs.Tryd.prog ebs = true := by kernel_rfl

theorem okx36 : XOK Go.Proofs.Tryd.prog gl 36 X36 :=
  xspec_of hm (cfgOk_of (C := C36) tabs ebsok trivial trivial rfl trivial) Go.Proofs.Tryd.func36 rfl (by kernel_rfl) (by kernel_rfl) (by kernel_rfl) (by kernel_rfl)
    (fun y h => ⟨L36 (fuel36 y.1.1 y.1.2.1 y.1.2.2.1 y.1.2.2.2.1 y.1.2.2.2.2.1 y.2.2.2.1.1 y.2.2.2.2.1.1), loops36 _, (runs36 _ y).trans (plain36 y.1.1 y.1.2.1 y.1.2.2.1 y.1.2.2.2.1 y.1.2.2.2.2.1 y.2.2.2.1.1 y.2.2.2.2.1.1 h)⟩)
theorem okx35 : XOK Go.Proofs.Tryd.prog gl 35 X35 :=
  xspec_of hm (cfgOk_of (C := C35) tabs ebsok trivial trivial rfl ⟨okx36, by kernel_rfl, trivial⟩) Go.Proofs.Tryd.func35 rfl (by kernel_rfl) (by kernel_rfl) (by kernel_rfl) (by kernel_rfl)
    (fun y h => ⟨L35 (fuel35 y.1 y.2.2.1.1 y.2.2.2.1.1), loops35 _, (runs35 _ y).trans (plain35 y.1 y.2.2.1.1 y.2.2.2.1.1 h)⟩)
theorem ok29 : SpecOK Go.Proofs.Tryd.prog gl 29 S29 :=
  spec_of hm (cfgOk_of (C := C29) tabs ebsok trivial trivial rfl ⟨okx35, by kernel_rfl, trivial⟩) Go.Proofs.Tryd.func29 rfl (by kernel_rfl) (by kernel_rfl)
    (fun y h => ⟨L29 (fuel29 y.1 y.2.1), loops29 _, (runs29 _ y).trans (plain29 y.1 y.2.1 h)⟩)
theorem ok30 : SpecOK Go.Proofs.Tryd.prog gl 30 S30 :=
  spec_of hm (cfgOk_of (C := C30) tabs ebsok trivial trivial rfl trivial) Go.Proofs.Tryd.func30 rfl (by kernel_rfl) (by kernel_rfl)
    (fun y h => ⟨L30 (fuel30 y.1), loops30 _, (runs30 _ y).trans (plain30 y.1 h)⟩)
theorem ok11 : SpecOK Go.Proofs.Tryd.prog gl 11 S11 :=
  spec_of hm (cfgOk_of (C := C11) tabs ebsok ⟨ok29, by kernel_rfl, ok30, by kernel_rfl, trivial⟩ trivial rfl trivial) Go.Proofs.Tryd.func11 rfl (by kernel_rfl) (by kernel_rfl)
    (fun y h => ⟨L11 (fuel11 y.1 y.2.1), loops11 _, (runs11 _ y).trans (plain11 y.1 y.2.1 h)⟩)
theorem ok13 : SpecOK Go.Proofs.Tryd.prog gl 13 S13 :=
  spec_of hm (cfgOk_of (C := C13) tabs ebsok trivial trivial rfl trivial) Go.Proofs.Tryd.func13 rfl (by kernel_rfl) (by kernel_rfl)
    (fun y h => ⟨L13 (fuel13 y.1 y.2.1), loops13 _, (runs13 _ y).trans (plain13 y.1 y.2.1 h)⟩)
theorem ok33 : SpecOK Go.Proofs.Tryd.prog gl 33 S33 :=
  spec_of hm (cfgOk_of (C := C33) tabs ebsok trivial trivial rfl trivial) Go.Proofs.Tryd.func33 rfl (by kernel_rfl) (by kernel_rfl)
    (fun y h => ⟨L33 (fuel33 y.1), loops33 _, (runs33 _ y).trans (plain33 y.1 h)⟩)
theorem ok26 : SpecOK Go.Proofs.Tryd.prog gl 26 S26 :=
  spec_of hm (cfgOk_of (C := C26) tabs ebsok ⟨ok33, by kernel_rfl, trivial⟩ trivial rfl trivial) Go.Proofs.Tryd.func26 rfl (by kernel_rfl) (by kernel_rfl)
    (fun y h => ⟨L26 (fuel26 y.1), loops26 _, (runs26 _ y).trans (plain26 y.1 h)⟩)
theorem ok9 : SpecOK Go.Proofs.Tryd.prog gl 9 S9 :=
  spec_of hm (cfgOk_of (C := C9) tabs ebsok ⟨ok26, by kernel_rfl, trivial⟩ trivial rfl trivial) Go.Proofs.Tryd.func9 rfl (by kernel_rfl) (by kernel_rfl)
    (fun y h => ⟨L9 (fuel9 y.1 y.2.1), loops9 _, (runs9 _ y).trans (plain9 y.1 y.2.1 h)⟩)
theorem ok31 : SpecOK Go.Proofs.Tryd.prog gl 31 S31 :=
  spec_of hm (cfgOk_of (C := C31) tabs ebsok ⟨ok9, by kernel_rfl, trivial⟩ trivial rfl trivial) Go.Proofs.Tryd.func31 rfl (by kernel_rfl) (by kernel_rfl)
    (fun y h => ⟨L31 (fuel31 y.1), loops31 _, (runs31 _ y).trans (plain31 y.1 h)⟩)
theorem ok14 : SpecOK Go.Proofs.Tryd.prog gl 14 S14 :=
  spec_of hm (cfgOk_of (C := C14) tabs ebsok ⟨ok9, by kernel_rfl, ok29, by kernel_rfl, ok31, by kernel_rfl, trivial⟩ trivial rfl trivial) Go.Proofs.Tryd.func14 rfl (by kernel_rfl) (by kernel_rfl)
    (fun y h => ⟨L14 (fuel14 y.1 y.2.1 y.2.2.1), loops14 _, (runs14 _ y).trans (plain14 y.1 y.2.1 y.2.2.1 h)⟩)
theorem ok8 : SpecOK Go.Proofs.Tryd.prog gl 8 S8 :=
  spec_of hm (cfgOk_of (C := C8) tabs ebsok ⟨ok11, by kernel_rfl, ok13, by kernel_rfl, ok14, by kernel_rfl, trivial⟩ trivial rfl trivial) Go.Proofs.Tryd.func8 rfl (by kernel_rfl) (by kernel_rfl)
    (fun y h => ⟨L8 (fuel8), loops8 _, (runs8 _ y).trans (plain8 h)⟩)
theorem ok32 : SpecOK Go.Proofs.Tryd.prog gl 32 S32 :=
  spec_of hm (cfgOk_of (C := C32) tabs ebsok trivial trivial rfl trivial) Go.Proofs.Tryd.func32 rfl (by kernel_rfl) (by kernel_rfl)
    (fun y h => ⟨L32 (fuel32 y.1 y.2.1), loops32 _, (runs32 _ y).trans (plain32 y.1 y.2.1 h)⟩)
theorem ok18 : SpecOK Go.Proofs.Tryd.prog gl 18 S18 :=
  spec_of hm (cfgOk_of (C := C18) tabs ebsok ⟨ok32, by kernel_rfl, trivial⟩ trivial rfl trivial) Go.Proofs.Tryd.func18 rfl (by kernel_rfl) (by kernel_rfl)
    (fun y h => ⟨L18 (fuel18 y.1), loops18 _, (runs18 _ y).trans (plain18 y.1 h)⟩)
theorem ok19 : SpecOK Go.Proofs.Tryd.prog gl 19 S19 :=
  spec_of hm (cfgOk_of (C := C19) tabs ebsok ⟨ok32, by kernel_rfl, trivial⟩ trivial rfl trivial) Go.Proofs.Tryd.func19 rfl (by kernel_rfl) (by kernel_rfl)
    (fun y h => ⟨L19 (fuel19 y.1), loops19 _, (runs19 _ y).trans (plain19 y.1 h)⟩)
theorem ok23 : SpecOK Go.Proofs.Tryd.prog gl 23 S23 :=
  spec_of hm (cfgOk_of (C := C23) tabs ebsok trivial trivial rfl trivial) Go.Proofs.Tryd.func23 rfl (by kernel_rfl) (by kernel_rfl)
    (fun y h => ⟨L23 (fuel23 y.1), loops23 _, (runs23 _ y).trans (plain23 y.1 h)⟩)
theorem ok20 : SpecOK Go.Proofs.Tryd.prog gl 20 S20 :=
  spec_of hm (cfgOk_of (C := C20) tabs ebsok ⟨ok23, by kernel_rfl, trivial⟩ trivial rfl trivial) Go.Proofs.Tryd.func20 rfl (by kernel_rfl) (by kernel_rfl)
    (fun y h => ⟨L20 (fuel20 y.1), loops20 _, (runs20 _ y).trans (plain20 y.1 h)⟩)
theorem ok25 : SpecOK Go.Proofs.Tryd.prog gl 25 S25 :=
  spec_of hm (cfgOk_of (C := C25) tabs ebsok trivial trivial rfl trivial) Go.Proofs.Tryd.func25 rfl (by kernel_rfl) (by kernel_rfl)
    (fun y h => ⟨L25 (fuel25 y.1), loops25 _, (runs25 _ y).trans (plain25 y.1 h)⟩)
theorem ok21 : SpecOK Go.Proofs.Tryd.prog gl 21 S21 :=
  spec_of hm (cfgOk_of (C := C21) tabs ebsok ⟨ok25, by kernel_rfl, trivial⟩ trivial rfl trivial) Go.Proofs.Tryd.func21 rfl (by kernel_rfl) (by kernel_rfl)
    (fun y h => ⟨L21 (fuel21 y.1), loops21 _, (runs21 _ y).trans (plain21 y.1 h)⟩)
theorem ok22 : SpecOK Go.Proofs.Tryd.prog gl 22 S22 :=
  spec_of hm (cfgOk_of (C := C22) tabs ebsok trivial trivial rfl trivial) Go.Proofs.Tryd.func22 rfl (by kernel_rfl) (by kernel_rfl)
    (fun y h => ⟨L22 (fuel22 y.1), loops22 _, (runs22 _ y).trans (plain22 y.1 h)⟩)
theorem ok24 : SpecOK Go.Proofs.Tryd.prog gl 24 S24 :=
  spec_of hm (cfgOk_of (C := C24) tabs ebsok trivial trivial rfl trivial) Go.Proofs.Tryd.func24 rfl (by kernel_rfl) (by kernel_rfl)
    (fun y h => ⟨L24 (fuel24 y.1), loops24 _, (runs24 _ y).trans (plain24 y.1 h)⟩)
theorem ok7 : SpecOK Go.Proofs.Tryd.prog gl 7 S7 :=
  spec_of hm (cfgOk_of (C := C7) tabs ebsok ⟨ok8, by kernel_rfl, ok18, by kernel_rfl, ok19, by kernel_rfl, ok20, by kernel_rfl, ok21, by kernel_rfl, ok22, by kernel_rfl, ok23, by kernel_rfl, ok24, by kernel_rfl, ok25, by kernel_rfl, trivial⟩ trivial rfl trivial) Go.Proofs.Tryd.func7 rfl (by kernel_rfl) (by kernel_rfl)
    (fun y h => ⟨L7 (fuel7 y.1 y.2.1), loops7 _, (runs7 _ y).trans (plain7 y.1 y.2.1 h)⟩)
end Go.L09
