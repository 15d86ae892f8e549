/- What is proved: the statements MergeKeeps, for whatever is handed in; no condition of their own. -/
import Derived.Test.YtklcmhpgjcghkaaOk
import Derived.Test.YtklcmhpgjcghkaaRows
import Derived.WalkKit
import Derived.ProofKit
import Derived.OpenShut
set_option linter.unusedVariables false
set_option linter.unusedSimpArgs false
namespace Go.Proofs.Ytklcmhpgjcghkaa
open Go Go.ChangeShapes Go.WideShapes Go.ChangeAt Go.RowKit Go.Abs Go.L23a Go.Inc
theorem own : ownKnob Try.prog.godebug = none := by kernel_rfl
theorem pre_mergeKeeps (x : S3.ta.den) (h : wfD S3.ta x = true) : S3.pre x = true := by
  have h1 := Bool.and_eq_true_iff.1 h
  have h2 := Bool.and_eq_true_iff.1 h1.2
  exact Bool.and_eq_true_iff.2 ⟨h1.1, h2.1⟩
set_option maxRecDepth 100000 in
theorem lifted_mergeKeeps (os : Os) (started : os.Started) (H : Type) (enc : TypeId × Value → H) :
    ReturnsInHanded {} Try.checked os 3 .any (Rows.mergeKeepsSpec.pre6 enc Try.prog Try.f3 Rows.mergeKeepsRow.domain false) (Rows.mergeKeepsSpec.post enc Try.prog Try.f3 false true false false) :=
  law_of (C := Try.checked) own started (by kernel_rfl) Try.func3
    (ChangeSpec.witness6 (enc := enc) (C := Try.checked) false ⟨#[], #[.slice none 0 0, .slice none 0 0], []⟩ 8 (by kernel_rfl) (by kernel_rfl) (by kernel_rfl) (by kernel_rfl))
    (by kernel_rfl) (by kernel_rfl) rfl (tb := 4) rfl (by kernel_rfl) (by kernel_rfl) ok3 (fun x h => pre_mergeKeeps x h) (fun x _ => rfl)
    (fun ds hd => by
      match ds, hd with
      | [d0, d1], _ => exact ⟨rfl, rfl, rfl⟩)
theorem mergeKeeps_holds : Rows.MergeKeepsSaid :=
  OpenClaim.holds_of_wide 3 Try.f3 rfl rfl rfl rfl rfl rfl rfl ⟨rfl, rfl, rfl, rfl, rfl⟩ rfl rfl rfl rfl rfl (by kernel_rfl) Try.func3 (by kernel_rfl)
    (of_decide_eq_true (by kernel_rfl)) (by unfold Func.isWrapper; first | (rw [if_pos (by decide +kernel)]; kernel_rfl) | (rw [if_neg (by decide +kernel)]; exact ⟨rfl, rfl⟩))
    (fun os started H enc _ => lifted_mergeKeeps os started H enc)
#print axioms mergeKeeps_holds
end Go.Proofs.Ytklcmhpgjcghkaa
