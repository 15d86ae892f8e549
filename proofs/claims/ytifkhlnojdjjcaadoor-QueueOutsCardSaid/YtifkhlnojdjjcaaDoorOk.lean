/- The contracts of the seat's functions. Printed by a program of this session. -/
import Derived.Test.YtifkhlnojdjjcaaDoorY
import Derived.Test.YtifkhlnojdjjcaaDoorAbs20
import Derived.Test.YtifkhlnojdjjcaaDoorAbs26
set_option linter.unusedVariables false
set_option maxRecDepth 100000
namespace Go.L15
open Go Go.Abs Go.Inc
def gl : List (Nat × AVal) := [(0, .pt VT (3, 1, ByteArray.empty, ())), (1, .pt VT (3, 0, ByteArray.empty, ()))]
theorem hm : Go.Proofs.Tryd.prog.follows .mixedOrders = true := by kernel_rfl
theorem tabs : tabOk Go.Proofs.Tryd.prog tab = true := by kernel_rfl
theorem ebsok : ebsOk Go.Proofs.Tryd.prog ebs = true := by kernel_rfl

def C31 : Cfg := { nt := 8, tab := tab, eb := ebs, glob := [(0, .pt VT (3, 1, ByteArray.empty, ())), (1, .pt VT (3, 0, ByteArray.empty, ()))], specs := [], clones := [], keep := [0, 4], own := [5], heads := [] }
def L31 : Loops (List (Int × Int × ByteArray × Unit)) := fun _ _ _ => none
theorem c31n (xs : List (Int × Int × ByteArray × Unit)) : runC .nl C31 (.pr (.int .i64) (.pr (.int .i64) (.pr .str .un))) 2 L31 Go.Proofs.Tryd.f31 xs = some [] := by kernel_rfl
theorem c31 (xs : List (Int × Int × ByteArray × Unit)) : runC .nn C31 (.pr (.int .i64) (.pr (.int .i64) (.pr .str .un))) 2 L31 Go.Proofs.Tryd.f31 xs =
    bif decide (0 = List.length ([] : List (Int × Int × ByteArray × Unit))) && decide ((List.length ([] : List (Int × Int × ByteArray × Unit)) + xs.length) * 32 ≤ 140737488351232) then
      (bif decide (List.length ([] : List (Int × Int × ByteArray × Unit)) + xs.length = List.length (([] : List (Int × Int × ByteArray × Unit)) ++ xs)) then some ([] ++ xs) else none) else none := by kernel_rfl
theorem clone31 : CloneOK Go.Proofs.Tryd.prog gl 31 (.pr (.int .i64) (.pr (.int .i64) (.pr .str .un))) 32 :=
  clone_of (r := 2) hm (cfgOk_of (C := C31) tabs ebsok trivial trivial rfl) Go.Proofs.Tryd.func31 rfl (by kernel_rfl) (by kernel_rfl) (by kernel_rfl)
    (fun xs hb => ⟨fun h => ⟨L31, ⟨trivial, ⟨⟨trivial, ⟨⟨trivial, trivial⟩, trivial⟩⟩, ⟨trivial, trivial⟩⟩⟩, by rw [c31n, h]⟩, ⟨L31, ⟨trivial, ⟨⟨trivial, ⟨⟨trivial, trivial⟩, trivial⟩⟩, ⟨trivial, trivial⟩⟩⟩, by
      have h1 : decide ((List.length ([] : List (Int × Int × ByteArray × Unit)) + xs.length) * 32 ≤ 140737488351232) = true := by simp only [List.length_nil, Nat.zero_add, decide_eq_true_eq]; exact hb
      rw [c31, h1]; simp⟩⟩)
theorem ok14 : SpecOK Go.Proofs.Tryd.prog gl 14 S14 :=
  spec_of hm (cfgOk_of (C := C14) tabs ebsok trivial trivial rfl trivial) Go.Proofs.Tryd.func14 rfl (by kernel_rfl) (by kernel_rfl)
    (fun y h => ⟨L14 (fuel14 y.1 y.2.1), loops14 _, (runs14 _ y).trans (plain14 y.1 y.2.1 h)⟩)
theorem ok17 : SpecOK Go.Proofs.Tryd.prog gl 17 S17 :=
  spec_of hm (cfgOk_of (C := C17) tabs ebsok trivial trivial rfl trivial) Go.Proofs.Tryd.func17 rfl (by kernel_rfl) (by kernel_rfl)
    (fun y h => ⟨L17 (fuel17 y.1), loops17 _, (runs17 _ y).trans (plain17 y.1 h)⟩)
theorem ok7 : SpecOK Go.Proofs.Tryd.prog gl 7 S7 :=
  spec_of hm (cfgOk_of (C := C7) tabs ebsok trivial trivial rfl trivial) Go.Proofs.Tryd.func7 rfl (by kernel_rfl) (by kernel_rfl)
    (fun y h => ⟨L7 (fuel7 y.1), loops7 _, (runs7 _ y).trans (plain7 y.1 h)⟩)
theorem ok37 : SpecOK Go.Proofs.Tryd.prog gl 37 S37 :=
  spec_of hm (cfgOk_of (C := C37) tabs ebsok trivial trivial rfl trivial) Go.Proofs.Tryd.func37 rfl (by kernel_rfl) (by kernel_rfl)
    (fun y h => ⟨L37 (fuel37 y.1), loops37 _, (runs37 _ y).trans (plain37 y.1 h)⟩)
theorem ok29 : SpecOK Go.Proofs.Tryd.prog gl 29 S29 :=
  spec_of hm (cfgOk_of (C := C29) tabs ebsok ⟨ok37, by kernel_rfl, trivial⟩ trivial rfl trivial) Go.Proofs.Tryd.func29 rfl (by kernel_rfl) (by kernel_rfl)
    (fun y h => ⟨L29 (fuel29 y.1), loops29 _, (runs29 _ y).trans (plain29 y.1 h)⟩)
theorem ok22 : SpecOK Go.Proofs.Tryd.prog gl 22 S22 :=
  spec_of hm (cfgOk_of (C := C22) tabs ebsok ⟨ok29, by kernel_rfl, trivial⟩ trivial rfl trivial) Go.Proofs.Tryd.func22 rfl (by kernel_rfl) (by kernel_rfl)
    (fun y h => ⟨L22 (fuel22 y.1 y.2.1), loops22 _, (runs22 _ y).trans (plain22 y.1 y.2.1 h)⟩)
theorem okx36 : XOK Go.Proofs.Tryd.prog gl 36 X36 :=
  xspec_of hm (cfgOk_of (C := C36) tabs ebsok trivial trivial rfl trivial) Go.Proofs.Tryd.func36 rfl (by kernel_rfl) (by kernel_rfl) (by kernel_rfl) (by kernel_rfl)
    (fun y h => ⟨L36 (fuel36 y.1.1 y.1.2.1 y.1.2.2.1 y.1.2.2.2.1 y.1.2.2.2.2.1 y.2.2.2.1.1 y.2.2.2.2.1.1), loops36 _, (runs36 _ y).trans (plain36 y.1.1 y.1.2.1 y.1.2.2.1 y.1.2.2.2.1 y.1.2.2.2.2.1 y.2.2.2.1.1 y.2.2.2.2.1.1 h)⟩)
theorem okx35 : XOK Go.Proofs.Tryd.prog gl 35 X35 :=
  xspec_of hm (cfgOk_of (C := C35) tabs ebsok trivial trivial rfl ⟨okx36, by kernel_rfl, trivial⟩) Go.Proofs.Tryd.func35 rfl (by kernel_rfl) (by kernel_rfl) (by kernel_rfl) (by kernel_rfl)
    (fun y h => ⟨L35 (fuel35 y.1 y.2.2.1.1 y.2.2.2.1.1), loops35 _, (runs35 _ y).trans (plain35 y.1 y.2.2.1.1 y.2.2.2.1.1 h)⟩)
theorem ok27 : SpecOK Go.Proofs.Tryd.prog gl 27 S27 :=
  spec_of hm (cfgOk_of (C := C27) tabs ebsok trivial trivial rfl ⟨okx35, by kernel_rfl, trivial⟩) Go.Proofs.Tryd.func27 rfl (by kernel_rfl) (by kernel_rfl)
    (fun y h => ⟨L27 (fuel27 y.1 y.2.1), loops27 _, (runs27 _ y).trans (plain27 y.1 y.2.1 h)⟩)
theorem ok38 : SpecOK Go.Proofs.Tryd.prog gl 38 S38 :=
  spec_of hm (cfgOk_of (C := C38) tabs ebsok trivial trivial rfl trivial) Go.Proofs.Tryd.func38 rfl (by kernel_rfl) (by kernel_rfl)
    (fun y h => ⟨L38 (fuel38 y.1), loops38 _, (runs38 _ y).trans (plain38 y.1 h)⟩)
theorem ok30 : SpecOK Go.Proofs.Tryd.prog gl 30 S30 :=
  spec_of hm (cfgOk_of (C := C30) tabs ebsok ⟨ok27, by kernel_rfl, ok38, by kernel_rfl, trivial⟩ trivial rfl trivial) Go.Proofs.Tryd.func30 rfl (by kernel_rfl) (by kernel_rfl)
    (fun y h => ⟨L30 (fuel30 y.1 y.2.1), loops30 _, (runs30 _ y).trans (plain30 y.1 y.2.1 h)⟩)
theorem ok23 : SpecOK Go.Proofs.Tryd.prog gl 23 S23 :=
  spec_of hm (cfgOk_of (C := C23) tabs ebsok ⟨ok22, by kernel_rfl, ok30, by kernel_rfl, trivial⟩ trivial rfl trivial) Go.Proofs.Tryd.func23 rfl (by kernel_rfl) (by kernel_rfl)
    (fun y h => ⟨L23 (fuel23 y.1 y.2.1 y.2.2.1), loops23 _, (runs23 _ y).trans (plain23 y.1 y.2.1 y.2.2.1 h)⟩)
theorem ok24 : SpecOK Go.Proofs.Tryd.prog gl 24 S24 :=
  spec_of hm (cfgOk_of (C := C24) tabs ebsok trivial ⟨clone31, by kernel_rfl, trivial⟩ rfl trivial) Go.Proofs.Tryd.func24 rfl (by kernel_rfl) (by kernel_rfl)
    (fun y h => ⟨L24 (fuel24 y.1), loops24 _, (runs24 _ y).trans (plain24 y.1 h)⟩)
theorem okx12x : XOK Go.Proofs.Tryd.prog gl 12 X12x :=
  xspec_of hm (cfgOk_of (C := C12x) tabs ebsok ⟨ok7, by kernel_rfl, ok22, by kernel_rfl, ok23, by kernel_rfl, ok24, by kernel_rfl, trivial⟩ trivial rfl trivial) Go.Proofs.Tryd.func12 rfl (by kernel_rfl) (by kernel_rfl) (by kernel_rfl) (by kernel_rfl)
    (fun y h => ⟨L12x (fuel12x y.1.1 y.1.2.1.1 y.1.2.1.2.1 y.1.2.1.2.2.1 y.1.2.2.1 y.1.2.2.2.1 y.2.1.1 y.2.1.2.1 y.2.1.2.2.1 y.2.2.1 y.2.2.2.1), loops12x _, (runs12x _ y).trans (plain12x y.1.1 y.1.2.1.1 y.1.2.1.2.1 y.1.2.1.2.2.1 y.1.2.2.1 y.1.2.2.2.1 y.2.1.1 y.2.1.2.1 y.2.1.2.2.1 y.2.2.1 y.2.2.2.1 h)⟩)
theorem ok12 : SpecOK Go.Proofs.Tryd.prog gl 12 S12 :=
  spec_of hm (cfgOk_of (C := C12) tabs ebsok ⟨ok7, by kernel_rfl, ok22, by kernel_rfl, ok23, by kernel_rfl, ok24, by kernel_rfl, trivial⟩ trivial rfl trivial) Go.Proofs.Tryd.func12 rfl (by kernel_rfl) (by kernel_rfl)
    (fun y h => ⟨L12 (fuel12 y.1 y.2.1 y.2.2.1 y.2.2.2.1), loops12 _, (runs12 _ y).trans (plain12 y.1 y.2.1 y.2.2.1 y.2.2.2.1 h)⟩)
theorem ok20 : SpecOK Go.Proofs.Tryd.prog gl 20 S20 :=
  spec_of hm (cfgOk_of (C := C20) tabs ebsok ⟨ok7, by kernel_rfl, ok12, by kernel_rfl, ok17, by kernel_rfl, trivial⟩ trivial rfl trivial) Go.Proofs.Tryd.func20 rfl (by kernel_rfl) (by kernel_rfl)
    (fun y h => ⟨L20 (fuel20 y.1), loops20 _, (runs20 _ y).trans (plain20 y.1 h)⟩)
theorem ok6 : SpecOK Go.Proofs.Tryd.prog gl 6 S6 :=
  spec_of hm (cfgOk_of (C := C6) tabs ebsok ⟨ok14, by kernel_rfl, ok17, by kernel_rfl, ok20, by kernel_rfl, trivial⟩ trivial rfl trivial) Go.Proofs.Tryd.func6 rfl (by kernel_rfl) (by kernel_rfl)
    (fun y h => ⟨L6 (fuel6), loops6 _, (runs6 _ y).trans (plain6 h)⟩)
theorem ok8 : SpecOK Go.Proofs.Tryd.prog gl 8 S8 :=
  spec_of hm (cfgOk_of (C := C8) tabs ebsok trivial trivial rfl trivial) Go.Proofs.Tryd.func8 rfl (by kernel_rfl) (by kernel_rfl)
    (fun y h => ⟨L8 (fuel8 y.1), loops8 _, (runs8 _ y).trans (plain8 y.1 h)⟩)
theorem ok9 : SpecOK Go.Proofs.Tryd.prog gl 9 S9 :=
  spec_of hm (cfgOk_of (C := C9) tabs ebsok trivial trivial rfl trivial) Go.Proofs.Tryd.func9 rfl (by kernel_rfl) (by kernel_rfl)
    (fun y h => ⟨L9 (fuel9 y.1), loops9 _, (runs9 _ y).trans (plain9 y.1 h)⟩)
theorem ok10 : SpecOK Go.Proofs.Tryd.prog gl 10 S10 :=
  spec_of hm (cfgOk_of (C := C10) tabs ebsok ⟨ok14, by kernel_rfl, trivial⟩ trivial rfl trivial) Go.Proofs.Tryd.func10 rfl (by kernel_rfl) (by kernel_rfl)
    (fun y h => ⟨L10 (fuel10 y.1 y.2.1), loops10 _, (runs10 _ y).trans (plain10 y.1 y.2.1 h)⟩)
theorem ok21 : SpecOK Go.Proofs.Tryd.prog gl 21 S21 :=
  spec_of hm (cfgOk_of (C := C21) tabs ebsok trivial trivial rfl trivial) Go.Proofs.Tryd.func21 rfl (by kernel_rfl) (by kernel_rfl)
    (fun y h => ⟨L21 (fuel21 y.1 y.2.1), loops21 _, (runs21 _ y).trans (plain21 y.1 y.2.1 h)⟩)
theorem ok11 : SpecOK Go.Proofs.Tryd.prog gl 11 S11 :=
  spec_of hm (cfgOk_of (C := C11) tabs ebsok ⟨ok21, by kernel_rfl, trivial⟩ trivial rfl trivial) Go.Proofs.Tryd.func11 rfl (by kernel_rfl) (by kernel_rfl)
    (fun y h => ⟨L11 (fuel11 y.1 y.2.1), loops11 _, (runs11 _ y).trans (plain11 y.1 y.2.1 h)⟩)
theorem ok41 : SpecOK Go.Proofs.Tryd.prog gl 41 S41 :=
  spec_of hm (cfgOk_of (C := C41) tabs ebsok trivial trivial rfl trivial) Go.Proofs.Tryd.func41 rfl (by kernel_rfl) (by kernel_rfl)
    (fun y h => ⟨L41 (fuel41 y.1 y.2.1), loops41 _, (runs41 _ y).trans (plain41 y.1 y.2.1 h)⟩)
theorem ok34 : SpecOK Go.Proofs.Tryd.prog gl 34 S34 :=
  spec_of hm (cfgOk_of (C := C34) tabs ebsok ⟨ok41, by kernel_rfl, trivial⟩ trivial rfl trivial) Go.Proofs.Tryd.func34 rfl (by kernel_rfl) (by kernel_rfl)
    (fun y h => ⟨L34 (fuel34 y.1), loops34 _, (runs34 _ y).trans (plain34 y.1 h)⟩)
theorem ok26 : SpecOK Go.Proofs.Tryd.prog gl 26 S26 :=
  spec_of hm (cfgOk_of (C := C26) tabs ebsok ⟨ok34, by kernel_rfl, trivial⟩ trivial rfl trivial) Go.Proofs.Tryd.func26 rfl (by kernel_rfl) (by kernel_rfl)
    (fun y h => ⟨L26 (fuel26 y.1), loops26 _, (runs26 _ y).trans (plain26 y.1 h)⟩)
theorem ok16 : SpecOK Go.Proofs.Tryd.prog gl 16 S16 :=
  spec_of hm (cfgOk_of (C := C16) tabs ebsok ⟨ok26, by kernel_rfl, trivial⟩ trivial rfl trivial) Go.Proofs.Tryd.func16 rfl (by kernel_rfl) (by kernel_rfl)
    (fun y h => ⟨L16 (fuel16 y.1), loops16 _, (runs16 _ y).trans (plain16 y.1 h)⟩)
theorem ok39 : SpecOK Go.Proofs.Tryd.prog gl 39 S39 :=
  spec_of hm (cfgOk_of (C := C39) tabs ebsok trivial trivial rfl trivial) Go.Proofs.Tryd.func39 rfl (by kernel_rfl) (by kernel_rfl)
    (fun y h => ⟨L39 (fuel39 y.1), loops39 _, (runs39 _ y).trans (plain39 y.1 h)⟩)
theorem ok40 : SpecOK Go.Proofs.Tryd.prog gl 40 S40 :=
  spec_of hm (cfgOk_of (C := C40) tabs ebsok trivial trivial rfl trivial) Go.Proofs.Tryd.func40 rfl (by kernel_rfl) (by kernel_rfl)
    (fun y h => ⟨L40 (fuel40 y.1), loops40 _, (runs40 _ y).trans (plain40 y.1 h)⟩)
theorem ok32 : SpecOK Go.Proofs.Tryd.prog gl 32 S32 :=
  spec_of hm (cfgOk_of (C := C32) tabs ebsok ⟨ok39, by kernel_rfl, ok40, by kernel_rfl, trivial⟩ trivial rfl trivial) Go.Proofs.Tryd.func32 rfl (by kernel_rfl) (by kernel_rfl)
    (fun y h => ⟨L32 (fuel32 y.1 y.2.1), loops32 _, (runs32 _ y).trans (plain32 y.1 y.2.1 h)⟩)
theorem ok33 : SpecOK Go.Proofs.Tryd.prog gl 33 S33 :=
  spec_of hm (cfgOk_of (C := C33) tabs ebsok ⟨ok16, by kernel_rfl, ok26, by kernel_rfl, trivial⟩ trivial rfl trivial) Go.Proofs.Tryd.func33 rfl (by kernel_rfl) (by kernel_rfl)
    (fun y h => ⟨L33 (fuel33 y.1 y.2.1), loops33 _, (runs33 _ y).trans (plain33 y.1 y.2.1 h)⟩)
theorem ok25 : SpecOK Go.Proofs.Tryd.prog gl 25 S25 :=
  spec_of hm (cfgOk_of (C := C25) tabs ebsok ⟨ok32, by kernel_rfl, ok33, by kernel_rfl, trivial⟩ trivial rfl trivial) Go.Proofs.Tryd.func25 rfl (by kernel_rfl) (by kernel_rfl)
    (fun y h => ⟨L25 (fuel25 y.1 y.2.1 y.2.2.1), loops25 _, (runs25 _ y).trans (plain25 y.1 y.2.1 y.2.2.1 h)⟩)
theorem ok13 : SpecOK Go.Proofs.Tryd.prog gl 13 S13 :=
  spec_of hm (cfgOk_of (C := C13) tabs ebsok ⟨ok16, by kernel_rfl, ok25, by kernel_rfl, trivial⟩ trivial rfl trivial) Go.Proofs.Tryd.func13 rfl (by kernel_rfl) (by kernel_rfl)
    (fun y h => ⟨L13 (fuel13 y.1 y.2.1), loops13 _, (runs13 _ y).trans (plain13 y.1 y.2.1 h)⟩)
theorem ok15 : SpecOK Go.Proofs.Tryd.prog gl 15 S15 :=
  spec_of hm (cfgOk_of (C := C15) tabs ebsok ⟨ok21, by kernel_rfl, trivial⟩ trivial rfl trivial) Go.Proofs.Tryd.func15 rfl (by kernel_rfl) (by kernel_rfl)
    (fun y h => ⟨L15 (fuel15 y.1 y.2.1 y.2.2.1), loops15 _, (runs15 _ y).trans (plain15 y.1 y.2.1 y.2.2.1 h)⟩)
theorem ok3 : SpecOK Go.Proofs.Tryd.prog gl 3 S3 :=
  spec_of hm (cfgOk_of (C := C3) tabs ebsok ⟨ok6, by kernel_rfl, ok7, by kernel_rfl, ok8, by kernel_rfl, ok9, by kernel_rfl, ok10, by kernel_rfl, ok11, by kernel_rfl, ok12, by kernel_rfl, ok13, by kernel_rfl, ok14, by kernel_rfl, ok15, by kernel_rfl, trivial⟩ trivial rfl trivial) Go.Proofs.Tryd.func3 rfl (by kernel_rfl) (by kernel_rfl)
    (fun y h => ⟨L3 (fuel3 y.1 y.2.1), loops3 _, (runs3 _ y).trans (plain3 y.1 y.2.1 h)⟩)
theorem ok4 : SpecOK Go.Proofs.Tryd.prog gl 4 S4 :=
  spec_of hm (cfgOk_of (C := C4) tabs ebsok ⟨ok6, by kernel_rfl, ok7, by kernel_rfl, ok12, by kernel_rfl, ok14, by kernel_rfl, ok16, by kernel_rfl, ok17, by kernel_rfl, trivial⟩ trivial rfl trivial) Go.Proofs.Tryd.func4 rfl (by kernel_rfl) (by kernel_rfl)
    (fun y h => ⟨L4 (fuel4 y.1), loops4 _, (runs4 _ y).trans (plain4 y.1 h)⟩)
theorem ok18 : SpecOK Go.Proofs.Tryd.prog gl 18 S18 :=
  spec_of hm (cfgOk_of (C := C18) tabs ebsok trivial trivial rfl trivial) Go.Proofs.Tryd.func18 rfl (by kernel_rfl) (by kernel_rfl)
    (fun y h => ⟨L18 (fuel18 y.1), loops18 _, (runs18 _ y).trans (plain18 y.1 h)⟩)
theorem okx28x : XOK Go.Proofs.Tryd.prog gl 28 X28x :=
  xspec_of hm (cfgOk_of (C := C28x) tabs ebsok ⟨ok22, by kernel_rfl, trivial⟩ trivial rfl trivial) Go.Proofs.Tryd.func28 rfl (by kernel_rfl) (by kernel_rfl) (by kernel_rfl) (by kernel_rfl)
    (fun y h => ⟨L28x (fuel28x y.1 y.2.1), loops28x _, (runs28x _ y).trans (plain28x y.1 y.2.1 h)⟩)
theorem okx19x : XOK Go.Proofs.Tryd.prog gl 19 X19x :=
  xspec_of hm (cfgOk_of (C := C19x) tabs ebsok ⟨ok22, by kernel_rfl, ok27, by kernel_rfl, trivial⟩ trivial rfl ⟨okx28x, by kernel_rfl, trivial⟩) Go.Proofs.Tryd.func19 rfl (by kernel_rfl) (by kernel_rfl) (by kernel_rfl) (by kernel_rfl)
    (fun y h => ⟨L19x (fuel19x y.1 y.2.1 y.2.2.1 y.2.2.2.1), loops19x _, (runs19x _ y).trans (plain19x y.1 y.2.1 y.2.2.1 y.2.2.2.1 h)⟩)
theorem ok5 : SpecOK Go.Proofs.Tryd.prog gl 5 S5 :=
  spec_of hm (cfgOk_of (C := C5) tabs ebsok ⟨ok6, by kernel_rfl, ok7, by kernel_rfl, ok9, by kernel_rfl, ok10, by kernel_rfl, ok12, by kernel_rfl, ok18, by kernel_rfl, trivial⟩ trivial rfl ⟨okx12x, by kernel_rfl, okx19x, by kernel_rfl, trivial⟩) Go.Proofs.Tryd.func5 rfl (by kernel_rfl) (by kernel_rfl)
    (fun y h => ⟨L5 (fuel5 y.1 y.2.1), loops5 _, (runs5 _ y).trans (plain5 y.1 y.2.1 h)⟩)
end Go.L15
