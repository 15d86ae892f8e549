/- What is proved: the statements PartObjects, PartOnce, for whatever is handed in; no condition of their own. -/
import Derived.Test.YtiodlajaecaoaaaOk
import Derived.Test.YtiodlajaecaoaaaRows
import Derived.WalkKit
import Derived.ProofKit
import Derived.OpenShut
set_option linter.unusedVariables false
set_option linter.unusedSimpArgs false
namespace Go.Proofs.Ytiodlajaecaoaaa
open Go Go.ChangeShapes Go.WideShapes Go.ChangeAt Go.RowKit Go.Abs Go.L19 Go.Inc
theorem own : ownKnob Try.prog.godebug = none := by kernel_rfl
theorem pre_partObjects (x : S3.ta.den) (h : wfD S3.ta x = true) : S3.pre x = true := by
  exact (Bool.and_eq_true_iff.1 h).1
set_option maxRecDepth 100000 in
theorem lifted_partObjects (os : Os) (started : os.Started) (H : Type) (enc : TypeId × Value → H) :
    ReturnsInHanded {} Try.checked os 3 .any (Rows.partObjectsSpec.pre6 enc Try.prog Try.f3 Rows.partObjectsRow.domain false) (Rows.partObjectsSpec.post enc Try.prog Try.f3 false true false false) :=
  law_of (C := Try.checked) own started (by kernel_rfl) Try.func3
    (ChangeSpec.witness6 (enc := enc) (C := Try.checked) false ⟨#[], #[.slice none 0 0], []⟩ 8 (by kernel_rfl) (by kernel_rfl) (by kernel_rfl) (by kernel_rfl))
    (by kernel_rfl) (by kernel_rfl) rfl (tb := 4) rfl (by kernel_rfl) (by kernel_rfl) ok3 (fun x h => pre_partObjects x h) (fun x _ => rfl)
    (fun ds hd => by
      match ds, hd with
      | [d0], _ => exact ⟨rfl, rfl, rfl⟩)
theorem partObjects_holds : Rows.PartObjectsSaid :=
  OpenClaim.holds_of_wide 3 Try.f3 rfl rfl rfl rfl rfl rfl rfl ⟨rfl, rfl, rfl, rfl, rfl⟩ rfl rfl rfl rfl rfl (by kernel_rfl) Try.func3 (by kernel_rfl)
    (of_decide_eq_true (by kernel_rfl)) (by unfold Func.isWrapper; first | (rw [if_pos (by decide +kernel)]; kernel_rfl) | (rw [if_neg (by decide +kernel)]; exact ⟨rfl, rfl⟩))
    (fun os started H enc _ => lifted_partObjects os started H enc)
#print axioms partObjects_holds
theorem pre_partOnce (x : S4.ta.den) (h : wfD S4.ta x = true) : S4.pre x = true := by
  exact (Bool.and_eq_true_iff.1 h).1
set_option maxRecDepth 100000 in
theorem lifted_partOnce (os : Os) (started : os.Started) (H : Type) (enc : TypeId × Value → H) :
    ReturnsInHanded {} Try.checked os 4 .any (Rows.partOnceSpec.pre6 enc Try.prog Try.f4 Rows.partOnceRow.domain false) (Rows.partOnceSpec.post enc Try.prog Try.f4 false true false false) :=
  law_of (C := Try.checked) own started (by kernel_rfl) Try.func4
    (ChangeSpec.witness6 (enc := enc) (C := Try.checked) false ⟨#[], #[.slice none 0 0], []⟩ 8 (by kernel_rfl) (by kernel_rfl) (by kernel_rfl) (by kernel_rfl))
    (by kernel_rfl) (by kernel_rfl) rfl (tb := 4) rfl (by kernel_rfl) (by kernel_rfl) ok4 (fun x h => pre_partOnce x h) (fun x _ => rfl)
    (fun ds hd => by
      match ds, hd with
      | [d0], _ => exact ⟨rfl, rfl, rfl⟩)
theorem partOnce_holds : Rows.PartOnceSaid :=
  OpenClaim.holds_of_wide 4 Try.f4 rfl rfl rfl rfl rfl rfl rfl ⟨rfl, rfl, rfl, rfl, rfl⟩ rfl rfl rfl rfl rfl (by kernel_rfl) Try.func4 (by kernel_rfl)
    (of_decide_eq_true (by kernel_rfl)) (by unfold Func.isWrapper; first | (rw [if_pos (by decide +kernel)]; kernel_rfl) | (rw [if_neg (by decide +kernel)]; exact ⟨rfl, rfl⟩))
    (fun os started H enc _ => lifted_partOnce os started H enc)
#print axioms partOnce_holds
end Go.Proofs.Ytiodlajaecaoaaa
