/- What is proved: whatever set and places are handed in, the statements MemoWith and MemoHas come true. No condition. -/
import Derived.Test.YtbbkecjljoefmaaCnt
import Derived.Test.YtbbkecjljoefmaaRows
import Derived.WalkKit
import Derived.ProofKit
import Derived.OpenShut
set_option linter.unusedVariables false
namespace Go.L21
open Go Go.Abs

theorem ok14 : SpecOK Go.Proofs.Try.prog [] 14 S14 :=
  spec_of hm (cfgOk_of (C := C14) tabs ebsok trivial trivial rfl) Go.Proofs.Try.func14 rfl (by kernel_rfl) (by kernel_rfl)
    (fun y h => ⟨L14 0, loops14 0, (runs14 0 y).trans (plain14 y.1 0)⟩)
theorem ok6 : SpecOK Go.Proofs.Try.prog [] 6 S6 :=
  spec_of hm (cfgOk_of (C := C6) tabs ebsok trivial trivial rfl) Go.Proofs.Try.func6 rfl (by kernel_rfl) (by kernel_rfl)
    (fun y h => ⟨L6 0, loops6 0, (runs6 0 y).trans (plain6 y.1 0)⟩)
theorem ok15 : SpecOK Go.Proofs.Try.prog [] 15 S15 :=
  spec_of hm (cfgOk_of (C := C15) tabs ebsok trivial trivial rfl) Go.Proofs.Try.func15 rfl (by kernel_rfl) (by kernel_rfl)
    (fun y h => ⟨L15 0, loops15 0, (runs15 0 y).trans (plain15 y.1 y.2.1 0 h)⟩)
theorem ok16 : SpecOK Go.Proofs.Try.prog [] 16 S16 :=
  spec_of hm (cfgOk_of (C := C16) tabs ebsok trivial trivial rfl) Go.Proofs.Try.func16 rfl (by kernel_rfl) (by kernel_rfl)
    (fun y h => ⟨L16 0, loops16 0, (runs16 0 y).trans (plain16 y.1 0 h)⟩)
theorem ok8 : SpecOK Go.Proofs.Try.prog [] 8 S8 :=
  spec_of hm (cfgOk_of (C := C8) tabs ebsok trivial trivial rfl) Go.Proofs.Try.func8 rfl (by kernel_rfl) (by kernel_rfl)
    (fun y h => ⟨L8 100, loops8 100, (runs8 100 y).trans (plain8 y.1 y.2.1 h)⟩)
theorem ok9 : SpecOK Go.Proofs.Try.prog [] 9 S9 :=
  spec_of hm (cfgOk_of (C := C9) tabs ebsok ⟨ok15, by kernel_rfl, trivial⟩ trivial rfl) Go.Proofs.Try.func9 rfl (by kernel_rfl) (by kernel_rfl)
    (fun y h => ⟨L9 (max (List.length y.1) (List.length y.2.1) + 1), loops9 _, (runs9 _ y).trans (plain9 y.1 y.2.1 h)⟩)
theorem ok10 : SpecOK Go.Proofs.Try.prog [] 10 S10 :=
  spec_of hm (cfgOk_of (C := C10) tabs ebsok ⟨ok14, by kernel_rfl, trivial⟩ trivial rfl) Go.Proofs.Try.func10 rfl (by kernel_rfl) (by kernel_rfl)
    (fun y h => ⟨L10 0, loops10 0, (runs10 0 y).trans (plain10 y.1 y.2.1 0 h)⟩)
theorem ok7 : SpecOK Go.Proofs.Try.prog [] 7 S7 :=
  spec_of hm (cfgOk_of (C := C7) tabs ebsok ⟨ok14, by kernel_rfl, trivial⟩ ⟨clone13, by kernel_rfl, trivial⟩ rfl) Go.Proofs.Try.func7 rfl (by kernel_rfl) (by kernel_rfl)
    (fun y h => ⟨L7 1100, loops7 1100, (runs7 1100 y).trans (plain7 y.1 y.2.1 h)⟩)
theorem ok12 : SpecOK Go.Proofs.Try.prog [] 12 S12 :=
  spec_of hm (cfgOk_of (C := C12) tabs ebsok trivial trivial rfl) Go.Proofs.Try.func12 rfl (by kernel_rfl) (by kernel_rfl)
    (fun y h => ⟨L12 1100, loops12 1100, (runs12 1100 y).trans (plain12 y.1 h)⟩)
theorem ok11 : SpecOK Go.Proofs.Try.prog [] 11 S11 :=
  spec_of hm (cfgOk_of (C := C11) tabs ebsok ⟨ok16, by kernel_rfl, trivial⟩ trivial rfl) Go.Proofs.Try.func11 rfl (by kernel_rfl) (by kernel_rfl)
    (fun y h => ⟨L11 1100, loops11 1100, (runs11 1100 y).trans (plain11 y.1 h)⟩)
theorem ok5 : SpecOK Go.Proofs.Try.prog [] 5 S5 :=
  spec_of hm (cfgOk_of (C := C5) tabs ebsok ⟨ok7, by kernel_rfl, trivial⟩ trivial rfl) Go.Proofs.Try.func5 rfl (by kernel_rfl) (by kernel_rfl)
    (fun y h => ⟨L5 0, loops5 0, (runs5 0 y).trans (plain5 0)⟩)
theorem ok3 : SpecOK Go.Proofs.Try.prog [] 3 S3 :=
  spec_of hm (cfgOk_of (C := C3) tabs ebsok ⟨ok5, by kernel_rfl, ok6, by kernel_rfl, ok7, by kernel_rfl, ok8, by kernel_rfl, ok9, by kernel_rfl, trivial⟩ trivial rfl) Go.Proofs.Try.func3 rfl (by kernel_rfl) (by kernel_rfl)
    (fun y h => ⟨L3 200, loops3 200, (runs3 200 y).trans (plain3 y.1 y.2.1 y.2.2.1 h)⟩)
theorem ok4 : SpecOK Go.Proofs.Try.prog [] 4 S4 :=
  spec_of hm (cfgOk_of (C := C4) tabs ebsok ⟨ok5, by kernel_rfl, ok6, by kernel_rfl, ok8, by kernel_rfl, ok10, by kernel_rfl, ok11, by kernel_rfl, ok12, by kernel_rfl, trivial⟩ trivial rfl) Go.Proofs.Try.func4 rfl (by kernel_rfl) (by kernel_rfl)
    (fun y h => ⟨L4 0, loops4 0, (runs4 0 y).trans (plain4 y.1 y.2.1 0 h)⟩)
end Go.L21
namespace Go.Proofs.Ytbbkecjljoefmaa
open Go.ChangeShapes Go.WideShapes Go.ChangeAt Go.RowKit Go.Abs Go.L21
theorem own : ownKnob Try.prog.godebug = none := by kernel_rfl
set_option maxRecDepth 100000 in
theorem lifted3 (os : Os) (started : os.Started) (H : Type) (enc : TypeId × Value → H) :
    ReturnsInHanded {} Try.checked os 3 .any (Rows.memoWithSpec.pre6 enc Try.prog Try.f3 Rows.memoWithRow.domain false) (Rows.memoWithSpec.post enc Try.prog Try.f3 false true false false) :=
  law_of (C := Try.checked) own started (by kernel_rfl) Try.func3
    (ChangeSpec.witness6 (enc := enc) (C := Try.checked) false ⟨#[], #[.slice none 0 0, .int .i64 0, .int .i64 0], []⟩ 8 (by kernel_rfl) (by kernel_rfl) (by kernel_rfl) (by kernel_rfl))
    (by kernel_rfl) (by kernel_rfl) rfl (tb := 4) rfl (by kernel_rfl) (by kernel_rfl) ok3
    (fun x h => by
      have h' := h
      simp only [S3, wfD, Bool.and_eq_true] at h
      obtain ⟨h1, h2, h3, _⟩ := h
      show pre3 x.1 x.2.1 x.2.2.1 = true
      simp only [pre3, Bool.and_eq_true]
      exact ⟨⟨by simpa only [okL, wfD, Bool.and_eq_true] using h1, h2⟩, h3⟩)
    (fun x _ => rfl)
    (fun ds hd => by
      match ds, hd with
      | [a, b, c], _ => exact ⟨rfl, rfl, rfl⟩)
theorem over3 : Rows.memoWithRow.holds Try.pinned (OpenSpec.ofChange Rows.memoWithSpec) :=
  OpenClaim.holds_of_wide 3 Try.f3 rfl rfl rfl rfl rfl rfl rfl ⟨rfl, rfl, rfl, rfl, rfl⟩ rfl rfl rfl rfl rfl (by kernel_rfl) Try.func3 (by kernel_rfl)
    (of_decide_eq_true (by kernel_rfl)) (by unfold Func.isWrapper; first | (rw [if_pos (by decide +kernel)]; kernel_rfl) | (rw [if_neg (by decide +kernel)]; exact ⟨rfl, rfl⟩))
    (fun os started H enc _ => lifted3 os started H enc)
theorem memoWith_holds : Rows.MemoWithSaid := over3
#print axioms memoWith_holds
set_option maxRecDepth 100000 in
theorem lifted4 (os : Os) (started : os.Started) (H : Type) (enc : TypeId × Value → H) :
    ReturnsInHanded {} Try.checked os 4 .any (Rows.memoHasSpec.pre6 enc Try.prog Try.f4 Rows.memoHasRow.domain false) (Rows.memoHasSpec.post enc Try.prog Try.f4 false true false false) :=
  law_of (C := Try.checked) own started (by kernel_rfl) Try.func4
    (ChangeSpec.witness6 (enc := enc) (C := Try.checked) false ⟨#[], #[.slice none 0 0, .int .i64 0], []⟩ 8 (by kernel_rfl) (by kernel_rfl) (by kernel_rfl) (by kernel_rfl))
    (by kernel_rfl) (by kernel_rfl) rfl (tb := 4) rfl (by kernel_rfl) (by kernel_rfl) ok4
    (fun x h => by
      simp only [S4, wfD, Bool.and_eq_true] at h
      obtain ⟨h1, h2, _⟩ := h
      show pre4 x.1 x.2.1 = true
      simp only [pre4, Bool.and_eq_true]
      exact ⟨by simpa only [okL, wfD, Bool.and_eq_true] using h1, h2⟩)
    (fun x _ => rfl)
    (fun ds hd => by
      match ds, hd with
      | [a, b], _ => exact ⟨rfl, rfl, rfl⟩)
theorem over4 : Rows.memoHasRow.holds Try.pinned (OpenSpec.ofChange Rows.memoHasSpec) :=
  OpenClaim.holds_of_wide 4 Try.f4 rfl rfl rfl rfl rfl rfl rfl ⟨rfl, rfl, rfl, rfl, rfl⟩ rfl rfl rfl rfl rfl (by kernel_rfl) Try.func4 (by kernel_rfl)
    (of_decide_eq_true (by kernel_rfl)) (by unfold Func.isWrapper; first | (rw [if_pos (by decide +kernel)]; kernel_rfl) | (rw [if_neg (by decide +kernel)]; exact ⟨rfl, rfl⟩))
    (fun os started H enc _ => lifted4 os started H enc)
theorem memoHas_holds : Rows.MemoHasSaid := over4
#print axioms memoHas_holds
end Go.Proofs.Ytbbkecjljoefmaa
