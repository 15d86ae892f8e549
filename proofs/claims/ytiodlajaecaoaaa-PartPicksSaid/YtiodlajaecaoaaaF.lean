/- What is proved: the statement PartPicks, for whatever is handed in; no condition of its own. -/
import Derived.Test.YtiodlajaecaoaaaM
import Derived.Test.YtiodlajaecaoaaaSized
import Derived.Test.YtiodlajaecaoaaaRows
import Derived.WalkKit
import Derived.ProofKit
import Derived.OpenShut
set_option linter.unusedVariables false
set_option linter.unusedSimpArgs false
namespace Go.Proofs.Ytiodlajaecaoaaa
open Go Go.ChangeShapes Go.WideShapes Go.ChangeAt Go.RowKit Go.Abs Go.L19 Go.Inc
theorem own : ownKnob Try.prog.godebug = none := by kernel_rfl
def S5 : Abs.Spec := { ta := .pr (.sl OPT) (.pr (.sl (.int .i64)) .un), tr := .pr .bool .un, multi := false, pre := fun x => okPicks x.1 x.2.1, val := fun x => (true, ()) }
theorem ok5 : SpecOK Try.prog [] 5 S5 := by
  intro V w x vs hpre hg hv hr
  obtain ⟨ops, pl, ⟨⟩⟩ := x
  obtain ⟨v, r, rfl, h1, v2, r2, rfl, h2, h3⟩ := hr
  obtain rfl : r2 = [] := h3
  refine (law_in ops pl hpre w hv v v2 h1.1 h2.1).mono ?_
  rintro e w' ⟨rfl, hb⟩
  refine ⟨_, V, rfl, fun b o u e => ?_, VLe.refl V, fun _ _ _ => rfl, ?_, hb⟩
  · have h4 := hv b o u e
    rw [← h4]
    exact hb.cell (p := ⟨b, o, none⟩) (World.block_lt_of_cell? w _ h4)
  · show RepV (bare V) (.b true) (.bool true)
    simp [RepV, RepV1, RepCs]
def bt (t : Ty) : Nat := if t = VT then 32 else 0
theorem pre_partPicks (x : S5.ta.den) (h : wfD S5.ta x = true) (hz : szD bt S5.ta x = true) : S5.pre x = true := by
  obtain ⟨ops, pl, ⟨⟩⟩ := x
  have h1 : szD bt (.sl OPT) ops = true := (Bool.and_eq_true_iff.1 hz).1
  have h2 : ops.all (szD bt OPT) = true := (Bool.and_eq_true_iff.1 h1).2
  show okPicks ops pl = true
  unfold okPicks
  rw [List.all_eq_true] at h2 ⊢
  intro o ho
  have h3 := h2 o ho
  have hb : bt VT = 32 := if_pos rfl
  have hR : reachBytes = 140737488351232 := rfl
  simp only [szD, Bool.and_eq_true, decide_eq_true_eq] at h3
  rw [Bool.and_eq_true, decide_eq_true_eq, decide_eq_true_eq]
  obtain ⟨_, _, _, _, ⟨h4, _⟩, ⟨h5, _⟩, _⟩ := h3
  rw [hb, hR] at h4 h5
  exact ⟨h4, h5⟩
set_option maxRecDepth 100000 in
theorem lifted_partPicks (os : Os) (started : os.Started) (H : Type) (enc : TypeId × Value → H) :
    ReturnsInHanded {} Try.checked os 5 .any (Rows.partPicksSpec.pre6 enc Try.prog Try.f5 Rows.partPicksRow.domain false) (Rows.partPicksSpec.post enc Try.prog Try.f5 false true false false) :=
  law_of_sz (C := Try.checked) (bt := bt) (by kernel_rfl) own started (by kernel_rfl) Try.func5
    (ChangeSpec.witness6 (enc := enc) (C := Try.checked) false ⟨#[], #[.slice none 0 0, .slice none 0 0], []⟩ 8 (by kernel_rfl) (by kernel_rfl) (by kernel_rfl) (by kernel_rfl))
    (by kernel_rfl) (by kernel_rfl) rfl (tb := 4) rfl (by kernel_rfl) (by kernel_rfl) ok5 (fun x h hz => pre_partPicks x h hz) (fun x _ => rfl)
    (fun ds hd => by
      match ds, hd with
      | [d0, d1], _ => exact ⟨rfl, rfl, rfl⟩)
theorem partPicks_holds : Rows.PartPicksSaid :=
  OpenClaim.holds_of_wide 5 Try.f5 rfl rfl rfl rfl rfl rfl rfl ⟨rfl, rfl, rfl, rfl, rfl⟩ rfl rfl rfl rfl rfl (by kernel_rfl) Try.func5 (by kernel_rfl)
    (of_decide_eq_true (by kernel_rfl)) (by unfold Func.isWrapper; first | (rw [if_pos (by decide +kernel)]; kernel_rfl) | (rw [if_neg (by decide +kernel)]; exact ⟨rfl, rfl⟩))
    (fun os started H enc _ => lifted_partPicks os started H enc)
#print axioms partPicks_holds
end Go.Proofs.Ytiodlajaecaoaaa
