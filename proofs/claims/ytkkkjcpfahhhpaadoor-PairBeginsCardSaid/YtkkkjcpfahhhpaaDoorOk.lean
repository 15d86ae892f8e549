/- The contracts of the seat's functions. Printed by a program of this session. -/
import Derived.Test.YtkkkjcpfahhhpaaDoorX
import Derived.Test.YtkkkjcpfahhhpaaDoorD
import Derived.Test.YtkkkjcpfahhhpaaDoorC
import Derived.Test.YtkkkjcpfahhhpaaDoorAbs20
import Derived.Test.YtkkkjcpfahhhpaaDoorAbs27
set_option linter.unusedVariables false
set_option maxRecDepth 100000
namespace Go.L12
open Go Go.Abs Go.Inc
def gl : List (Nat × AVal) := [(0, .pt VT (3, 1, ByteArray.empty, ())), (1, .pt VT (3, 0, ByteArray.empty, ()))]
theorem hm : Go.Proofs.Tryd.prog.follows .mixedOrders = true := by kernel_rfl
theorem tabs : tabOk Go.Proofs.Tryd.prog tab = true := by kernel_rfl
theorem ebsok : ebsOk Go.Proofs.Tryd.prog ebs = true := by kernel_rfl

def C23 : Cfg := { nt := 8, tab := tab, eb := ebs, glob := [(0, .pt VT (3, 1, ByteArray.empty, ())), (1, .pt VT (3, 0, ByteArray.empty, ()))], specs := [], clones := [], keep := [0, 4], own := [5], heads := [] }
def L23 : Loops (List (Int × Int × ByteArray × Unit)) := fun _ _ _ => none
theorem c23n (xs : List (Int × Int × ByteArray × Unit)) : runC .nl C23 (.pr (.int .i64) (.pr (.int .i64) (.pr .str .un))) 2 L23 Go.Proofs.Tryd.f23 xs = some [] := by kernel_rfl
theorem c23 (xs : List (Int × Int × ByteArray × Unit)) : runC .nn C23 (.pr (.int .i64) (.pr (.int .i64) (.pr .str .un))) 2 L23 Go.Proofs.Tryd.f23 xs =
    bif decide (0 = List.length ([] : List (Int × Int × ByteArray × Unit))) && decide ((List.length ([] : List (Int × Int × ByteArray × Unit)) + xs.length) * 32 ≤ 140737488351232) then
      (bif decide (List.length ([] : List (Int × Int × ByteArray × Unit)) + xs.length = List.length (([] : List (Int × Int × ByteArray × Unit)) ++ xs)) then some ([] ++ xs) else none) else none := by kernel_rfl
theorem clone23 : CloneOK Go.Proofs.Tryd.prog gl 23 (.pr (.int .i64) (.pr (.int .i64) (.pr .str .un))) 32 :=
  clone_of (r := 2) hm (cfgOk_of (C := C23) tabs ebsok trivial trivial rfl) Go.Proofs.Tryd.func23 rfl (by kernel_rfl) (by kernel_rfl) (by kernel_rfl)
    (fun xs hb => ⟨fun h => ⟨L23, ⟨trivial, ⟨⟨trivial, ⟨⟨trivial, trivial⟩, trivial⟩⟩, ⟨trivial, trivial⟩⟩⟩, by rw [c23n, h]⟩, ⟨L23, ⟨trivial, ⟨⟨trivial, ⟨⟨trivial, trivial⟩, trivial⟩⟩, ⟨trivial, trivial⟩⟩⟩, by
      have h1 : decide ((List.length ([] : List (Int × Int × ByteArray × Unit)) + xs.length) * 32 ≤ 140737488351232) = true := by simp only [List.length_nil, Nat.zero_add, decide_eq_true_eq]; exact hb
      rw [c23, h1]; simp⟩⟩)
theorem ok52 : SpecOK Go.Proofs.Tryd.prog gl 52 S52 :=
  spec_of hm (cfgOk_of (C := C52) tabs ebsok trivial trivial rfl trivial) Go.Proofs.Tryd.func52 rfl (by kernel_rfl) (by kernel_rfl)
    (fun y h => ⟨L52 (fuel52 y.1), loops52 _, (runs52 _ y).trans (plain52 y.1 h)⟩)
theorem ok44 : SpecOK Go.Proofs.Tryd.prog gl 44 S44 :=
  spec_of hm (cfgOk_of (C := C44) tabs ebsok ⟨ok52, by kernel_rfl, trivial⟩ trivial rfl trivial) Go.Proofs.Tryd.func44 rfl (by kernel_rfl) (by kernel_rfl)
    (fun y h => ⟨L44 (fuel44 y.1), loops44 _, (runs44 _ y).trans (plain44 y.1 h)⟩)
theorem ok40 : SpecOK Go.Proofs.Tryd.prog gl 40 S40 :=
  spec_of hm (cfgOk_of (C := C40) tabs ebsok ⟨ok44, by kernel_rfl, trivial⟩ trivial rfl trivial) Go.Proofs.Tryd.func40 rfl (by kernel_rfl) (by kernel_rfl)
    (fun y h => ⟨L40 (fuel40 y.1 y.2.1), loops40 _, (runs40 _ y).trans (plain40 y.1 y.2.1 h)⟩)
theorem ok41 : SpecOK Go.Proofs.Tryd.prog gl 41 S41 :=
  spec_of hm (cfgOk_of (C := C41) tabs ebsok ⟨ok50, by kernel_rfl, trivial⟩ trivial rfl trivial) Go.Proofs.Tryd.func41 rfl (by kernel_rfl) (by kernel_rfl)
    (fun y h => ⟨L41 (fuel41 y.1), loops41 _, (runs41 _ y).trans (plain41 y.1 h)⟩)
theorem okx54 : XOK Go.Proofs.Tryd.prog gl 54 X54 :=
  xspec_of hm (cfgOk_of (C := C54) tabs ebsok trivial trivial rfl trivial) Go.Proofs.Tryd.func54 rfl (by kernel_rfl) (by kernel_rfl) (by kernel_rfl) (by kernel_rfl)
    (fun y h => ⟨L54 (fuel54 y.1.1 y.1.2.1 y.1.2.2.1 y.1.2.2.2.1 y.1.2.2.2.2.1 y.2.2.2.1.1 y.2.2.2.2.1.1), loops54 _, (runs54 _ y).trans (plain54 y.1.1 y.1.2.1 y.1.2.2.1 y.1.2.2.2.1 y.1.2.2.2.2.1 y.2.2.2.1.1 y.2.2.2.2.1.1 h)⟩)
theorem okx53 : XOK Go.Proofs.Tryd.prog gl 53 X53 :=
  xspec_of hm (cfgOk_of (C := C53) tabs ebsok trivial trivial rfl ⟨okx54, by kernel_rfl, trivial⟩) Go.Proofs.Tryd.func53 rfl (by kernel_rfl) (by kernel_rfl) (by kernel_rfl) (by kernel_rfl)
    (fun y h => ⟨L53 (fuel53 y.1 y.2.2.1.1 y.2.2.2.1.1), loops53 _, (runs53 _ y).trans (plain53 y.1 y.2.2.1.1 y.2.2.2.1.1 h)⟩)
theorem ok45 : SpecOK Go.Proofs.Tryd.prog gl 45 S45 :=
  spec_of hm (cfgOk_of (C := C45) tabs ebsok trivial trivial rfl ⟨okx53, by kernel_rfl, trivial⟩) Go.Proofs.Tryd.func45 rfl (by kernel_rfl) (by kernel_rfl)
    (fun y h => ⟨L45 (fuel45 y.1 y.2.1), loops45 _, (runs45 _ y).trans (plain45 y.1 y.2.1 h)⟩)
theorem ok51 : SpecOK Go.Proofs.Tryd.prog gl 51 S51 :=
  spec_of hm (cfgOk_of (C := C51) tabs ebsok trivial trivial rfl trivial) Go.Proofs.Tryd.func51 rfl (by kernel_rfl) (by kernel_rfl)
    (fun y h => ⟨L51 (fuel51 y.1), loops51 _, (runs51 _ y).trans (plain51 y.1 h)⟩)
theorem ok42 : SpecOK Go.Proofs.Tryd.prog gl 42 S42 :=
  spec_of hm (cfgOk_of (C := C42) tabs ebsok ⟨ok45, by kernel_rfl, ok51, by kernel_rfl, trivial⟩ trivial rfl trivial) Go.Proofs.Tryd.func42 rfl (by kernel_rfl) (by kernel_rfl)
    (fun y h => ⟨L42 (fuel42 y.1 y.2.1), loops42 _, (runs42 _ y).trans (plain42 y.1 y.2.1 h)⟩)
theorem ok43 : SpecOK Go.Proofs.Tryd.prog gl 43 S43 :=
  spec_of hm (cfgOk_of (C := C43) tabs ebsok ⟨ok40, by kernel_rfl, trivial⟩ trivial rfl trivial) Go.Proofs.Tryd.func43 rfl (by kernel_rfl) (by kernel_rfl)
    (fun y h => ⟨L43 (fuel43 y.1 y.2.1), loops43 _, (runs43 _ y).trans (plain43 y.1 y.2.1 h)⟩)
theorem ok33 : SpecOK Go.Proofs.Tryd.prog gl 33 S33 :=
  spec_of hm (cfgOk_of (C := C33) tabs ebsok ⟨ok40, by kernel_rfl, ok41, by kernel_rfl, ok42, by kernel_rfl, ok43, by kernel_rfl, ok44, by kernel_rfl, trivial⟩ trivial rfl trivial) Go.Proofs.Tryd.func33 rfl (by kernel_rfl) (by kernel_rfl)
    (fun y h => ⟨L33 (fuel33 y.1), loops33 _, (runs33 _ y).trans (plain33 y.1 h)⟩)
theorem ok46 : SpecOK Go.Proofs.Tryd.prog gl 46 S46 :=
  spec_of hm (cfgOk_of (C := C46) tabs ebsok ⟨ok40, by kernel_rfl, trivial⟩ trivial rfl trivial) Go.Proofs.Tryd.func46 rfl (by kernel_rfl) (by kernel_rfl)
    (fun y h => ⟨L46 (fuel46 y.1), loops46 _, (runs46 _ y).trans (plain46 y.1 h)⟩)
theorem ok34 : SpecOK Go.Proofs.Tryd.prog gl 34 S34 :=
  spec_of hm (cfgOk_of (C := C34) tabs ebsok ⟨ok40, by kernel_rfl, ok45, by kernel_rfl, ok46, by kernel_rfl, trivial⟩ trivial rfl trivial) Go.Proofs.Tryd.func34 rfl (by kernel_rfl) (by kernel_rfl)
    (fun y h => ⟨L34 (fuel34 y.1 y.2.1 y.2.2.1), loops34 _, (runs34 _ y).trans (plain34 y.1 y.2.1 y.2.2.1 h)⟩)
theorem okx20 : XOK Go.Proofs.Tryd.prog gl 20 X20 := okD20 ok33 ok34
theorem ok10 : SpecOK Go.Proofs.Tryd.prog gl 10 S10 :=
  spec_of hm (cfgOk_of (C := C10) tabs ebsok trivial trivial rfl ⟨okx20, by kernel_rfl, trivial⟩) Go.Proofs.Tryd.func10 rfl (by kernel_rfl) (by kernel_rfl)
    (fun y h => ⟨L10 (fuel10 y.1), loops10 _, (runs10 _ y).trans (plain10 y.1 h)⟩)
theorem ok32 : SpecOK Go.Proofs.Tryd.prog gl 32 S32 :=
  spec_of hm (cfgOk_of (C := C32) tabs ebsok trivial trivial rfl trivial) Go.Proofs.Tryd.func32 rfl (by kernel_rfl) (by kernel_rfl)
    (fun y h => ⟨L32 (fuel32 y.1 y.2.1), loops32 _, (runs32 _ y).trans (plain32 y.1 y.2.1 h)⟩)
theorem ok23 : SpecOK Go.Proofs.Tryd.prog gl 23 S23 := spec_clone clone23 (fun x h => of_decide_eq_true h)
theorem ok22 : SpecOK Go.Proofs.Tryd.prog gl 22 S22 :=
  spec_of hm (cfgOk_of (C := C22) tabs ebsok ⟨ok32, by kernel_rfl, trivial⟩ trivial rfl trivial) Go.Proofs.Tryd.func22 rfl (by kernel_rfl) (by kernel_rfl)
    (fun y h => ⟨L22 (fuel22 y.1 y.2.1), loops22 _, (runs22 _ y).trans (plain22 y.1 y.2.1 h)⟩)
theorem ok12 : SpecOK Go.Proofs.Tryd.prog gl 12 S12 :=
  spec_of hm (cfgOk_of (C := C12) tabs ebsok ⟨ok22, by kernel_rfl, ok23, by kernel_rfl, trivial⟩ trivial rfl ⟨okx20, by kernel_rfl, trivial⟩) Go.Proofs.Tryd.func12 rfl (by kernel_rfl) (by kernel_rfl)
    (fun y h => ⟨L12 (fuel12 y.1), loops12 _, (runs12 _ y).trans (plain12 y.1 h)⟩)
theorem ok18 : SpecOK Go.Proofs.Tryd.prog gl 18 S18 :=
  spec_of hm (cfgOk_of (C := C18) tabs ebsok trivial trivial rfl trivial) Go.Proofs.Tryd.func18 rfl (by kernel_rfl) (by kernel_rfl)
    (fun y h => ⟨L18 (fuel18 y.1), loops18 _, (runs18 _ y).trans (plain18 y.1 h)⟩)
theorem ok8 : SpecOK Go.Proofs.Tryd.prog gl 8 S8 :=
  spec_of hm (cfgOk_of (C := C8) tabs ebsok ⟨ok10, by kernel_rfl, ok12, by kernel_rfl, ok18, by kernel_rfl, trivial⟩ trivial rfl trivial) Go.Proofs.Tryd.func8 rfl (by kernel_rfl) (by kernel_rfl)
    (fun y h => ⟨L8 (fuel8), loops8 _, (runs8 _ y).trans (plain8 h)⟩)
theorem ok19 : SpecOK Go.Proofs.Tryd.prog gl 19 S19 :=
  spec_of hm (cfgOk_of (C := C19) tabs ebsok trivial trivial rfl trivial) Go.Proofs.Tryd.func19 rfl (by kernel_rfl) (by kernel_rfl)
    (fun y h => ⟨L19 (fuel19 y.1), loops19 _, (runs19 _ y).trans (plain19 y.1 h)⟩)
theorem ok9 : SpecOK Go.Proofs.Tryd.prog gl 9 S9 :=
  spec_of hm (cfgOk_of (C := C9) tabs ebsok ⟨ok19, by kernel_rfl, trivial⟩ trivial rfl trivial) Go.Proofs.Tryd.func9 rfl (by kernel_rfl) (by kernel_rfl)
    (fun y h => ⟨L9 (fuel9 y.1 y.2.1), loops9 _, (runs9 _ y).trans (plain9 y.1 y.2.1 h)⟩)
theorem ok55 : SpecOK Go.Proofs.Tryd.prog gl 55 S55 :=
  spec_of hm (cfgOk_of (C := C55) tabs ebsok trivial trivial rfl trivial) Go.Proofs.Tryd.func55 rfl (by kernel_rfl) (by kernel_rfl)
    (fun y h => ⟨L55 (fuel55 y.1 y.2.1), loops55 _, (runs55 _ y).trans (plain55 y.1 y.2.1 h)⟩)
theorem ok47 : SpecOK Go.Proofs.Tryd.prog gl 47 S47 :=
  spec_of hm (cfgOk_of (C := C47) tabs ebsok ⟨ok55, by kernel_rfl, trivial⟩ trivial rfl trivial) Go.Proofs.Tryd.func47 rfl (by kernel_rfl) (by kernel_rfl)
    (fun y h => ⟨L47 (fuel47 y.1), loops47 _, (runs47 _ y).trans (plain47 y.1 h)⟩)
theorem ok37 : SpecOK Go.Proofs.Tryd.prog gl 37 S37 :=
  spec_of hm (cfgOk_of (C := C37) tabs ebsok ⟨ok47, by kernel_rfl, trivial⟩ trivial rfl trivial) Go.Proofs.Tryd.func37 rfl (by kernel_rfl) (by kernel_rfl)
    (fun y h => ⟨L37 (fuel37 y.1), loops37 _, (runs37 _ y).trans (plain37 y.1 h)⟩)
theorem ok35 : SpecOK Go.Proofs.Tryd.prog gl 35 S35 :=
  spec_of hm (cfgOk_of (C := C35) tabs ebsok ⟨ok37, by kernel_rfl, trivial⟩ trivial rfl trivial) Go.Proofs.Tryd.func35 rfl (by kernel_rfl) (by kernel_rfl)
    (fun y h => ⟨L35 (fuel35 y.1), loops35 _, (runs35 _ y).trans (plain35 y.1 h)⟩)
theorem ok48 : SpecOK Go.Proofs.Tryd.prog gl 48 S48 :=
  spec_of hm (cfgOk_of (C := C48) tabs ebsok trivial trivial rfl trivial) Go.Proofs.Tryd.func48 rfl (by kernel_rfl) (by kernel_rfl)
    (fun y h => ⟨L48 (fuel48 y.1), loops48 _, (runs48 _ y).trans (plain48 y.1 h)⟩)
theorem ok49 : SpecOK Go.Proofs.Tryd.prog gl 49 S49 :=
  spec_of hm (cfgOk_of (C := C49) tabs ebsok trivial trivial rfl trivial) Go.Proofs.Tryd.func49 rfl (by kernel_rfl) (by kernel_rfl)
    (fun y h => ⟨L49 (fuel49 y.1), loops49 _, (runs49 _ y).trans (plain49 y.1 h)⟩)
theorem ok38 : SpecOK Go.Proofs.Tryd.prog gl 38 S38 :=
  spec_of hm (cfgOk_of (C := C38) tabs ebsok ⟨ok48, by kernel_rfl, ok49, by kernel_rfl, trivial⟩ trivial rfl trivial) Go.Proofs.Tryd.func38 rfl (by kernel_rfl) (by kernel_rfl)
    (fun y h => ⟨L38 (fuel38 y.1 y.2.1), loops38 _, (runs38 _ y).trans (plain38 y.1 y.2.1 h)⟩)
theorem ok39 : SpecOK Go.Proofs.Tryd.prog gl 39 S39 :=
  spec_of hm (cfgOk_of (C := C39) tabs ebsok ⟨ok35, by kernel_rfl, ok37, by kernel_rfl, trivial⟩ trivial rfl trivial) Go.Proofs.Tryd.func39 rfl (by kernel_rfl) (by kernel_rfl)
    (fun y h => ⟨L39 (fuel39 y.1 y.2.1), loops39 _, (runs39 _ y).trans (plain39 y.1 y.2.1 h)⟩)
theorem ok36 : SpecOK Go.Proofs.Tryd.prog gl 36 S36 :=
  spec_of hm (cfgOk_of (C := C36) tabs ebsok ⟨ok38, by kernel_rfl, ok39, by kernel_rfl, trivial⟩ trivial rfl trivial) Go.Proofs.Tryd.func36 rfl (by kernel_rfl) (by kernel_rfl)
    (fun y h => ⟨L36 (fuel36 y.1 y.2.1 y.2.2.1), loops36 _, (runs36 _ y).trans (plain36 y.1 y.2.1 y.2.2.1 h)⟩)
theorem ok29 : SpecOK Go.Proofs.Tryd.prog gl 29 S29 :=
  spec_of hm (cfgOk_of (C := C29) tabs ebsok ⟨ok35, by kernel_rfl, ok36, by kernel_rfl, ok37, by kernel_rfl, trivial⟩ trivial rfl trivial) Go.Proofs.Tryd.func29 rfl (by kernel_rfl) (by kernel_rfl)
    (fun y h => ⟨L29 (fuel29 y.1), loops29 _, (runs29 _ y).trans (plain29 y.1 h)⟩)
theorem ok30 : SpecOK Go.Proofs.Tryd.prog gl 30 S30 :=
  spec_of hm (cfgOk_of (C := C30) tabs ebsok trivial trivial rfl trivial) Go.Proofs.Tryd.func30 rfl (by kernel_rfl) (by kernel_rfl)
    (fun y h => ⟨L30 (fuel30 y.1 y.2.1), loops30 _, (runs30 _ y).trans (plain30 y.1 y.2.1 h)⟩)
theorem ok31 : SpecOK Go.Proofs.Tryd.prog gl 31 S31 :=
  spec_of hm (cfgOk_of (C := C31) tabs ebsok ⟨ok38, by kernel_rfl, ok39, by kernel_rfl, trivial⟩ trivial rfl trivial) Go.Proofs.Tryd.func31 rfl (by kernel_rfl) (by kernel_rfl)
    (fun y h => ⟨L31 (fuel31 y.1 y.2.1 y.2.2.1), loops31 _, (runs31 _ y).trans (plain31 y.1 y.2.1 y.2.2.1 h)⟩)
theorem ok21 : SpecOK Go.Proofs.Tryd.prog gl 21 S21 :=
  spec_of hm (cfgOk_of (C := C21) tabs ebsok ⟨ok29, by kernel_rfl, ok30, by kernel_rfl, ok31, by kernel_rfl, trivial⟩ trivial rfl trivial) Go.Proofs.Tryd.func21 rfl (by kernel_rfl) (by kernel_rfl)
    (fun y h => ⟨L21 (fuel21 y.1 y.2.1), loops21 _, (runs21 _ y).trans (plain21 y.1 y.2.1 h)⟩)
theorem ok11 : SpecOK Go.Proofs.Tryd.prog gl 11 S11 :=
  spec_of hm (cfgOk_of (C := C11) tabs ebsok ⟨ok21, by kernel_rfl, trivial⟩ trivial rfl trivial) Go.Proofs.Tryd.func11 rfl (by kernel_rfl) (by kernel_rfl)
    (fun y h => ⟨L11 (fuel11 y.1), loops11 _, (runs11 _ y).trans (plain11 y.1 h)⟩)
theorem ok3 : SpecOK Go.Proofs.Tryd.prog gl 3 S3 :=
  spec_of hm (cfgOk_of (C := C3) tabs ebsok ⟨ok8, by kernel_rfl, ok9, by kernel_rfl, ok10, by kernel_rfl, ok11, by kernel_rfl, trivial⟩ trivial rfl trivial) Go.Proofs.Tryd.func3 rfl (by kernel_rfl) (by kernel_rfl)
    (fun y h => ⟨L3 (fuel3 y.1), loops3 _, (runs3 _ y).trans (plain3 y.1 h)⟩)
theorem ok25 : SpecOK Go.Proofs.Tryd.prog gl 25 S25 :=
  spec_of hm (cfgOk_of (C := C25) tabs ebsok trivial trivial rfl trivial) Go.Proofs.Tryd.func25 rfl (by kernel_rfl) (by kernel_rfl)
    (fun y h => ⟨L25 (fuel25 y.1 y.2.1), loops25 _, (runs25 _ y).trans (plain25 y.1 y.2.1 h)⟩)
theorem ok15 : SpecOK Go.Proofs.Tryd.prog gl 15 S15 :=
  spec_of hm (cfgOk_of (C := C15) tabs ebsok ⟨ok25, by kernel_rfl, trivial⟩ trivial rfl trivial) Go.Proofs.Tryd.func15 rfl (by kernel_rfl) (by kernel_rfl)
    (fun y h => ⟨L15 (fuel15 y.1 y.2.1), loops15 _, (runs15 _ y).trans (plain15 y.1 y.2.1 h)⟩)
theorem ok13 : SpecOK Go.Proofs.Tryd.prog gl 13 S13 :=
  spec_of hm (cfgOk_of (C := C13) tabs ebsok ⟨ok15, by kernel_rfl, trivial⟩ trivial rfl trivial) Go.Proofs.Tryd.func13 rfl (by kernel_rfl) (by kernel_rfl)
    (fun y h => ⟨L13 (fuel13 y.1 y.2.1), loops13 _, (runs13 _ y).trans (plain13 y.1 y.2.1 h)⟩)
theorem ok24 : SpecOK Go.Proofs.Tryd.prog gl 24 S24 :=
  spec_of hm (cfgOk_of (C := C24) tabs ebsok trivial trivial rfl trivial) Go.Proofs.Tryd.func24 rfl (by kernel_rfl) (by kernel_rfl)
    (fun y h => ⟨L24 (fuel24 y.1 y.2.1), loops24 _, (runs24 _ y).trans (plain24 y.1 y.2.1 h)⟩)
theorem ok14 : SpecOK Go.Proofs.Tryd.prog gl 14 S14 :=
  spec_of hm (cfgOk_of (C := C14) tabs ebsok ⟨ok24, by kernel_rfl, trivial⟩ trivial rfl trivial) Go.Proofs.Tryd.func14 rfl (by kernel_rfl) (by kernel_rfl)
    (fun y h => ⟨L14 (fuel14 y.1), loops14 _, (runs14 _ y).trans (plain14 y.1 h)⟩)
theorem ok4 : SpecOK Go.Proofs.Tryd.prog gl 4 S4 :=
  spec_of hm (cfgOk_of (C := C4) tabs ebsok ⟨ok8, by kernel_rfl, ok9, by kernel_rfl, ok11, by kernel_rfl, ok12, by kernel_rfl, ok13, by kernel_rfl, ok14, by kernel_rfl, trivial⟩ trivial rfl trivial) Go.Proofs.Tryd.func4 rfl (by kernel_rfl) (by kernel_rfl)
    (fun y h => ⟨L4 (fuel4 y.1), loops4 _, (runs4 _ y).trans (plain4 y.1 h)⟩)
theorem ok5 : SpecOK Go.Proofs.Tryd.prog gl 5 S5 :=
  spec_of hm (cfgOk_of (C := C5) tabs ebsok ⟨ok8, by kernel_rfl, ok9, by kernel_rfl, ok12, by kernel_rfl, trivial⟩ trivial rfl trivial) Go.Proofs.Tryd.func5 rfl (by kernel_rfl) (by kernel_rfl)
    (fun y h => ⟨L5 (fuel5 y.1), loops5 _, (runs5 _ y).trans (plain5 y.1 h)⟩)
theorem ok6 : SpecOK Go.Proofs.Tryd.prog gl 6 S6 :=
  spec_of hm (cfgOk_of (C := C6) tabs ebsok ⟨ok8, by kernel_rfl, ok9, by kernel_rfl, ok10, by kernel_rfl, ok12, by kernel_rfl, ok15, by kernel_rfl, trivial⟩ trivial rfl trivial) Go.Proofs.Tryd.func6 rfl (by kernel_rfl) (by kernel_rfl)
    (fun y h => ⟨L6 (fuel6 y.1 y.2.1), loops6 _, (runs6 _ y).trans (plain6 y.1 y.2.1 h)⟩)
end Go.L12
