/- The contracts of the seat's functions. Printed by a program of this session. -/
import Derived.Test.YtkkkjcpfahhhpaaDoorP
import Derived.Test.YtkkkjcpfahhhpaaDoorD
import Derived.Test.YtkkkjcpfahhhpaaDoorC
import Derived.Test.YtkkkjcpfahhhpaaDoorAbs20
import Derived.Test.YtkkkjcpfahhhpaaDoorAbs27
set_option linter.unusedVariables false
set_option maxRecDepth 100000
namespace Go.K12
open Go Go.Abs Go.Inc
def gl : List (Nat × AVal) := [(0, .pt VT (3, 1, ByteArray.empty, ())), (1, .pt VT (3, 0, ByteArray.empty, ()))]
theorem hm : Go.Proofs.Tryd.prog.follows .mixedOrders = true := by kernel_rfl
theorem tabs : tabOk Go.Proofs.Tryd.prog tab = true := by kernel_rfl
theorem ebsok : ebsOk Go.Proofs.Tryd.prog ebs = true := by kernel_rfl

def C23 : Cfg := { nt := 8, tab := tab, eb := ebs, glob := [(0, .pt VT (3, 1, ByteArray.empty, ())), (1, .pt VT (3, 0, ByteArray.empty, ()))], specs := [], clones := [], keep := [0, 4], own := [5], heads := [] }
def L23 : Loops (List (Int × Int × ByteArray × Unit)) := fun _ _ _ => none
theorem c23n (xs : List (Int × Int × ByteArray × Unit)) : runC .nl C23 (.pr (.int .i64) (.pr (.int .i64) (.pr .str .un))) 2 L23 Go.Proofs.Tryd.f23 xs = some [] := by kernel_rfl
theorem c23 (xs : List (Int × Int × ByteArray × Unit)) : runC .nn C23 (.pr (.int .i64) (.pr (.int .i64) (.pr .str .un))) 2 L23 Go.Proofs.Tryd.f23 xs =
    bif decide (0 = List.length ([] : List (Int × Int × ByteArray × Unit))) && decide ((List.length ([] : List (Int × Int × ByteArray × Unit)) + xs.length) * 32 ≤ 140737488351232) then
      (bif decide (List.length ([] : List (Int × Int × ByteArray × Unit)) + xs.length = List.length (([] : List (Int × Int × ByteArray × Unit)) ++ xs)) then some ([] ++ xs) else none) else none := by kernel_rfl
theorem clone23 : CloneOK Go.Proofs.Tryd.prog gl 23 (.pr (.int .i64) (.pr (.int .i64) (.pr .str .un))) 32 :=
  clone_of (r := 2) hm (cfgOk_of (C := C23) tabs ebsok trivial trivial rfl) Go.Proofs.Tryd.func23 rfl (by kernel_rfl) (by kernel_rfl) (by kernel_rfl)
    (fun xs hb => ⟨fun h => ⟨L23, ⟨trivial, ⟨⟨trivial, ⟨⟨trivial, trivial⟩, trivial⟩⟩, ⟨trivial, trivial⟩⟩⟩, by rw [c23n, h]⟩, ⟨L23, ⟨trivial, ⟨⟨trivial, ⟨⟨trivial, trivial⟩, trivial⟩⟩, ⟨trivial, trivial⟩⟩⟩, by
      have h1 : decide ((List.length ([] : List (Int × Int × ByteArray × Unit)) + xs.length) * 32 ≤ 140737488351232) = true := by simp only [List.length_nil, Nat.zero_add, decide_eq_true_eq]; exact hb
      rw [c23, h1]; simp⟩⟩)
theorem ok52 : SpecOK Go.Proofs.Tryd.prog gl 52 S52 :=
  spec_of hm (cfgOk_of (C := C52) tabs ebsok trivial trivial rfl trivial) Go.Proofs.Tryd.func52 rfl (by kernel_rfl) (by kernel_rfl)
    (fun y h => ⟨L52 (fuel52 y.1), loops52 _, (runs52 _ y).trans (plain52 y.1 h)⟩)
theorem ok44 : SpecOK Go.Proofs.Tryd.prog gl 44 S44 :=
  spec_of hm (cfgOk_of (C := C44) tabs ebsok ⟨ok52, by kernel_rfl, trivial⟩ trivial rfl trivial) Go.Proofs.Tryd.func44 rfl (by kernel_rfl) (by kernel_rfl)
    (fun y h => ⟨L44 (fuel44 y.1), loops44 _, (runs44 _ y).trans (plain44 y.1 h)⟩)
theorem ok40 : SpecOK Go.Proofs.Tryd.prog gl 40 S40 :=
  spec_of hm (cfgOk_of (C := C40) tabs ebsok ⟨ok44, by kernel_rfl, trivial⟩ trivial rfl trivial) Go.Proofs.Tryd.func40 rfl (by kernel_rfl) (by kernel_rfl)
    (fun y h => ⟨L40 (fuel40 y.1 y.2.1), loops40 _, (runs40 _ y).trans (plain40 y.1 y.2.1 h)⟩)
theorem ok41 : SpecOK Go.Proofs.Tryd.prog gl 41 S41 :=
  spec_of hm (cfgOk_of (C := C41) tabs ebsok ⟨ok50, by kernel_rfl, trivial⟩ trivial rfl trivial) Go.Proofs.Tryd.func41 rfl (by kernel_rfl) (by kernel_rfl)
    (fun y h => ⟨L41 (fuel41 y.1), loops41 _, (runs41 _ y).trans (plain41 y.1 h)⟩)
theorem okx54 : XOK Go.Proofs.Tryd.prog gl 54 X54 :=
  xspec_of hm (cfgOk_of (C := C54) tabs ebsok trivial trivial rfl trivial) Go.Proofs.Tryd.func54 rfl (by kernel_rfl) (by kernel_rfl) (by kernel_rfl) (by kernel_rfl)
    (fun y h => ⟨L54 (fuel54 y.1.1 y.1.2.1 y.1.2.2.1 y.1.2.2.2.1 y.1.2.2.2.2.1 y.2.2.2.1.1 y.2.2.2.2.1.1), loops54 _, (runs54 _ y).trans (plain54 y.1.1 y.1.2.1 y.1.2.2.1 y.1.2.2.2.1 y.1.2.2.2.2.1 y.2.2.2.1.1 y.2.2.2.2.1.1 h)⟩)
theorem okx53 : XOK Go.Proofs.Tryd.prog gl 53 X53 :=
  xspec_of hm (cfgOk_of (C := C53) tabs ebsok trivial trivial rfl ⟨okx54, by kernel_rfl, trivial⟩) Go.Proofs.Tryd.func53 rfl (by kernel_rfl) (by kernel_rfl) (by kernel_rfl) (by kernel_rfl)
    (fun y h => ⟨L53 (fuel53 y.1 y.2.2.1.1 y.2.2.2.1.1), loops53 _, (runs53 _ y).trans (plain53 y.1 y.2.2.1.1 y.2.2.2.1.1 h)⟩)
theorem ok45 : SpecOK Go.Proofs.Tryd.prog gl 45 S45 :=
  spec_of hm (cfgOk_of (C := C45) tabs ebsok trivial trivial rfl ⟨okx53, by kernel_rfl, trivial⟩) Go.Proofs.Tryd.func45 rfl (by kernel_rfl) (by kernel_rfl)
    (fun y h => ⟨L45 (fuel45 y.1 y.2.1), loops45 _, (runs45 _ y).trans (plain45 y.1 y.2.1 h)⟩)
theorem ok51 : SpecOK Go.Proofs.Tryd.prog gl 51 S51 :=
  spec_of hm (cfgOk_of (C := C51) tabs ebsok trivial trivial rfl trivial) Go.Proofs.Tryd.func51 rfl (by kernel_rfl) (by kernel_rfl)
    (fun y h => ⟨L51 (fuel51 y.1), loops51 _, (runs51 _ y).trans (plain51 y.1 h)⟩)
theorem ok42 : SpecOK Go.Proofs.Tryd.prog gl 42 S42 :=
  spec_of hm (cfgOk_of (C := C42) tabs ebsok ⟨ok45, by kernel_rfl, ok51, by kernel_rfl, trivial⟩ trivial rfl trivial) Go.Proofs.Tryd.func42 rfl (by kernel_rfl) (by kernel_rfl)
    (fun y h => ⟨L42 (fuel42 y.1 y.2.1), loops42 _, (runs42 _ y).trans (plain42 y.1 y.2.1 h)⟩)
theorem ok43 : SpecOK Go.Proofs.Tryd.prog gl 43 S43 :=
  spec_of hm (cfgOk_of (C := C43) tabs ebsok ⟨ok40, by kernel_rfl, trivial⟩ trivial rfl trivial) Go.Proofs.Tryd.func43 rfl (by kernel_rfl) (by kernel_rfl)
    (fun y h => ⟨L43 (fuel43 y.1 y.2.1), loops43 _, (runs43 _ y).trans (plain43 y.1 y.2.1 h)⟩)
theorem ok33 : SpecOK Go.Proofs.Tryd.prog gl 33 S33 :=
  spec_of hm (cfgOk_of (C := C33) tabs ebsok ⟨ok40, by kernel_rfl, ok41, by kernel_rfl, ok42, by kernel_rfl, ok43, by kernel_rfl, ok44, by kernel_rfl, trivial⟩ trivial rfl trivial) Go.Proofs.Tryd.func33 rfl (by kernel_rfl) (by kernel_rfl)
    (fun y h => ⟨L33 (fuel33 y.1), loops33 _, (runs33 _ y).trans (plain33 y.1 h)⟩)
theorem ok46 : SpecOK Go.Proofs.Tryd.prog gl 46 S46 :=
  spec_of hm (cfgOk_of (C := C46) tabs ebsok ⟨ok40, by kernel_rfl, trivial⟩ trivial rfl trivial) Go.Proofs.Tryd.func46 rfl (by kernel_rfl) (by kernel_rfl)
    (fun y h => ⟨L46 (fuel46 y.1), loops46 _, (runs46 _ y).trans (plain46 y.1 h)⟩)
theorem ok34 : SpecOK Go.Proofs.Tryd.prog gl 34 S34 :=
  spec_of hm (cfgOk_of (C := C34) tabs ebsok ⟨ok40, by kernel_rfl, ok45, by kernel_rfl, ok46, by kernel_rfl, trivial⟩ trivial rfl trivial) Go.Proofs.Tryd.func34 rfl (by kernel_rfl) (by kernel_rfl)
    (fun y h => ⟨L34 (fuel34 y.1 y.2.1 y.2.2.1), loops34 _, (runs34 _ y).trans (plain34 y.1 y.2.1 y.2.2.1 h)⟩)
theorem okx20 : XOK Go.Proofs.Tryd.prog gl 20 X20 := okD20 ok33 ok34
theorem ok10 : SpecOK Go.Proofs.Tryd.prog gl 10 S10 :=
  spec_of hm (cfgOk_of (C := C10) tabs ebsok trivial trivial rfl ⟨okx20, by kernel_rfl, trivial⟩) Go.Proofs.Tryd.func10 rfl (by kernel_rfl) (by kernel_rfl)
    (fun y h => ⟨L10 (fuel10 y.1), loops10 _, (runs10 _ y).trans (plain10 y.1 h)⟩)
theorem ok32 : SpecOK Go.Proofs.Tryd.prog gl 32 S32 :=
  spec_of hm (cfgOk_of (C := C32) tabs ebsok trivial trivial rfl trivial) Go.Proofs.Tryd.func32 rfl (by kernel_rfl) (by kernel_rfl)
    (fun y h => ⟨L32 (fuel32 y.1 y.2.1), loops32 _, (runs32 _ y).trans (plain32 y.1 y.2.1 h)⟩)
theorem ok23 : SpecOK Go.Proofs.Tryd.prog gl 23 S23 := spec_clone clone23 (fun x h => of_decide_eq_true h)
theorem ok22 : SpecOK Go.Proofs.Tryd.prog gl 22 S22 :=
  spec_of hm (cfgOk_of (C := C22) tabs ebsok ⟨ok32, by kernel_rfl, trivial⟩ trivial rfl trivial) Go.Proofs.Tryd.func22 rfl (by kernel_rfl) (by kernel_rfl)
    (fun y h => ⟨L22 (fuel22 y.1 y.2.1), loops22 _, (runs22 _ y).trans (plain22 y.1 y.2.1 h)⟩)
theorem ok12 : SpecOK Go.Proofs.Tryd.prog gl 12 S12 :=
  spec_of hm (cfgOk_of (C := C12) tabs ebsok ⟨ok22, by kernel_rfl, ok23, by kernel_rfl, trivial⟩ trivial rfl ⟨okx20, by kernel_rfl, trivial⟩) Go.Proofs.Tryd.func12 rfl (by kernel_rfl) (by kernel_rfl)
    (fun y h => ⟨L12 (fuel12 y.1), loops12 _, (runs12 _ y).trans (plain12 y.1 h)⟩)
theorem ok18 : SpecOK Go.Proofs.Tryd.prog gl 18 S18 :=
  spec_of hm (cfgOk_of (C := C18) tabs ebsok trivial trivial rfl trivial) Go.Proofs.Tryd.func18 rfl (by kernel_rfl) (by kernel_rfl)
    (fun y h => ⟨L18 (fuel18 y.1), loops18 _, (runs18 _ y).trans (plain18 y.1 h)⟩)
theorem ok8 : SpecOK Go.Proofs.Tryd.prog gl 8 S8 :=
  spec_of hm (cfgOk_of (C := C8) tabs ebsok ⟨ok10, by kernel_rfl, ok12, by kernel_rfl, ok18, by kernel_rfl, trivial⟩ trivial rfl trivial) Go.Proofs.Tryd.func8 rfl (by kernel_rfl) (by kernel_rfl)
    (fun y h => ⟨L8 (fuel8), loops8 _, (runs8 _ y).trans (plain8 h)⟩)
theorem ok19 : SpecOK Go.Proofs.Tryd.prog gl 19 S19 :=
  spec_of hm (cfgOk_of (C := C19) tabs ebsok trivial trivial rfl trivial) Go.Proofs.Tryd.func19 rfl (by kernel_rfl) (by kernel_rfl)
    (fun y h => ⟨L19 (fuel19 y.1), loops19 _, (runs19 _ y).trans (plain19 y.1 h)⟩)
theorem ok9 : SpecOK Go.Proofs.Tryd.prog gl 9 S9 :=
  spec_of hm (cfgOk_of (C := C9) tabs ebsok ⟨ok19, by kernel_rfl, trivial⟩ trivial rfl trivial) Go.Proofs.Tryd.func9 rfl (by kernel_rfl) (by kernel_rfl)
    (fun y h => ⟨L9 (fuel9 y.1 y.2.1), loops9 _, (runs9 _ y).trans (plain9 y.1 y.2.1 h)⟩)
theorem ok26 : SpecOK Go.Proofs.Tryd.prog gl 26 S26 :=
  spec_of hm (cfgOk_of (C := C26) tabs ebsok trivial trivial rfl trivial) Go.Proofs.Tryd.func26 rfl (by kernel_rfl) (by kernel_rfl)
    (fun y h => ⟨L26 (fuel26 y.1), loops26 _, (runs26 _ y).trans (plain26 y.1 h)⟩)
theorem ok16 : SpecOK Go.Proofs.Tryd.prog gl 16 S16 :=
  spec_of hm (cfgOk_of (C := C16) tabs ebsok ⟨ok26, by kernel_rfl, trivial⟩ trivial rfl trivial) Go.Proofs.Tryd.func16 rfl (by kernel_rfl) (by kernel_rfl)
    (fun y h => ⟨L16 (fuel16 y.1), loops16 _, (runs16 _ y).trans (plain16 y.1 h)⟩)
theorem ok25 : SpecOK Go.Proofs.Tryd.prog gl 25 S25 :=
  spec_of hm (cfgOk_of (C := C25) tabs ebsok trivial trivial rfl trivial) Go.Proofs.Tryd.func25 rfl (by kernel_rfl) (by kernel_rfl)
    (fun y h => ⟨L25 (fuel25 y.1 y.2.1), loops25 _, (runs25 _ y).trans (plain25 y.1 y.2.1 h)⟩)
theorem ok17 : SpecOK Go.Proofs.Tryd.prog gl 17 S17 :=
  spec_of hm (cfgOk_of (C := C17) tabs ebsok ⟨ok25, by kernel_rfl, trivial⟩ trivial rfl trivial) Go.Proofs.Tryd.func17 rfl (by kernel_rfl) (by kernel_rfl)
    (fun y h => ⟨L17 (fuel17 y.1 y.2.1), loops17 _, (runs17 _ y).trans (plain17 y.1 y.2.1 h)⟩)
end Go.K12
