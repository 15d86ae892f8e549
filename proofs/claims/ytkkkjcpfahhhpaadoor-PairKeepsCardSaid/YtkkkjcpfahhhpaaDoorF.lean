/- What is proved: the statements PairKeeps, for whatever is handed in; no condition of their own. -/
import Derived.Test.YtkkkjcpfahhhpaaDoorJ
import Derived.Test.YtkkkjcpfahhhpaaDoorRows
import Derived.Test.YtkkkjcpfahhhpaaDoorCards
import Derived.Test.YtkkkjcpfahhhpaaDoorTie
import Derived.LaidMore
import Derived.Stop.Joined
import Derived.SevenTiedAt
import Derived.MakeChecks
import Derived.WalkKit
import Derived.ProofKit
import Derived.OpenShut
set_option linter.unusedVariables false
set_option linter.unusedSimpArgs false
namespace Go.Proofs.YtkkkjcpfahhhpaaDoor
open Go Go.ChangeShapes Go.WideShapes Go.ChangeAt Go.RowKit Go.Abs Go.K12 Go.Inc
theorem own : ownKnob Tryd.prog.godebug = none := by kernel_rfl
theorem laid_pairKeeps {W : World} (h : laidMetH Tryd.prog Rows.pairKeepsRow.laid W) : GlobOk gl (allV W) := by
  rw [MakeChecks.laidMetH_plain _ _ _ (by kernel_rfl)] at h
  obtain ⟨ps, ⟨g0, t0, cs0, f0, p0, q0, hg0, ht0, hv0, hd0, ⟨g1, t1, cs1, f1, p1, q1, hg1, ht1, hv1, hd1, _, _⟩, _⟩, _, _⟩ := h
  obtain rfl := Option.some.inj ((show Tryd.prog.globalNamed "incognito/value.yes" = some 0 by kernel_rfl).symm.trans hg0)
  obtain rfl := Option.some.inj ((show (Tryd.prog.globals[0]?).map (·.type) = some 38 by kernel_rfl).symm.trans ht0)
  have c0 := trod_val Tryd.underlying38 rfl rfl rfl rfl (by kernel_rfl) (by kernel_rfl) (by kernel_rfl) (by kernel_rfl) (by kernel_rfl) (by kernel_rfl) (by kernel_rfl) hd0
  have r0 := var_reads hg0 hv0
  rw [c0] at r0
  obtain rfl := Option.some.inj ((show Tryd.prog.globalNamed "incognito/value.no" = some 1 by kernel_rfl).symm.trans hg1)
  obtain rfl := Option.some.inj ((show (Tryd.prog.globals[1]?).map (·.type) = some 38 by kernel_rfl).symm.trans ht1)
  have c1 := trod_val Tryd.underlying38 rfl rfl rfl rfl (by kernel_rfl) (by kernel_rfl) (by kernel_rfl) (by kernel_rfl) (by kernel_rfl) (by kernel_rfl) (by kernel_rfl) hd1
  have r1 := var_reads hg1 hv1
  rw [c1] at r1
  intro g A hg
  simp only [gl, Abs.look] at hg
  split at hg
  · rename_i hq; rw [Abs.beq_true] at hq; subst hq; cases hg
    exact ⟨_, _, _, rfl, ⟨[_], _, rfl, rfl, [_], _, rfl, rfl, [_], _, rfl, rfl, rfl⟩, r0⟩
  split at hg
  · rename_i hq; rw [Abs.beq_true] at hq; subst hq; cases hg
    exact ⟨_, _, _, rfl, ⟨[_], _, rfl, rfl, [_], _, rfl, rfl, [_], _, rfl, rfl, rfl⟩, r1⟩
  cases hg
theorem met_pairKeeps (os : Os) (args : Array Value) : laidMetH Tryd.prog Rows.pairKeepsRow.laid ((World.doorLaid Tryd.prog 400 os).forCall (fun _ _ => 0) ⟨#[], args, []⟩).memory :=
  laidMetH_of_parts3 (fuel := 8) (laidMet_of_run' 8 (by kernel_rfl) (by kernel_rfl)) (by kernel_rfl) (by kernel_rfl)
set_option maxRecDepth 100000 in
theorem lifted_pairKeeps (os : Os) (started : os.Started) (H : Type) (enc : TypeId × Value → H) :
    ReturnsInHanded {} Tryd.checked os 7 .any (fun w args => (Rows.pairKeepsSpec.pre enc Tryd.prog Tryd.f7 [] false w args ∧ laidMetH Tryd.prog Rows.pairKeepsRow.laid w) ∧ sizedMet enc Tryd.prog Tryd.f7 (OpenSpec.ofChange Rows.pairKeepsSpec) false w args)
      (Rows.pairKeepsSpec.post enc Tryd.prog Tryd.f7 false true false false) :=
  law_ofD_sz (C := Tryd.checked) (laid := Rows.pairKeepsRow.laid) (bt := bt) (by kernel_rfl) own started (by kernel_rfl) Tryd.func7
    (ChangeSpec.witness_shaped (enc := enc) (C := Tryd.checked) (os := os) (X := fun w _ => laidMetH Tryd.prog Rows.pairKeepsRow.laid w) false (World.doorLaid Tryd.prog 400 os) #[.slice none 0 0] 8 rfl (World.shaped_of_RefB (by kernel_rfl) (by kernel_rfl)) (by kernel_rfl) (by kernel_rfl) (by kernel_rfl) (met_pairKeeps os _))
    (by kernel_rfl) (by kernel_rfl) rfl (tb := 4) rfl (by kernel_rfl) (by kernel_rfl) ok7 (fun W h => laid_pairKeeps h) (fun x h hz => pre_sz x h hz) (fun x _ => rfl)
    (fun ds hd => by
      match ds, hd with
      | [d0], _ => exact ⟨rfl, rfl, rfl⟩)
theorem said_pairKeeps : Rows.PairKeepsSaid :=
  OpenClaim.holds_of_wide 7 Tryd.f7 rfl rfl rfl rfl rfl rfl rfl ⟨rfl, rfl, rfl, rfl, rfl⟩ rfl rfl rfl rfl rfl (by kernel_rfl) Tryd.func7 (by kernel_rfl)
    (of_decide_eq_true (by kernel_rfl)) (by unfold Func.isWrapper; first | (rw [if_pos (by decide +kernel)]; kernel_rfl) | (rw [if_neg (by decide +kernel)]; exact ⟨rfl, rfl⟩))
    (fun os started H enc _ => lifted_pairKeeps os started H enc)
theorem plain_pairKeeps (f : FuncId) (fn : Func) (hf : Tryd.pinned.checked.prog.funcNamed Rows.pairKeepsRow.func = some f) (hfn : Tryd.pinned.checked.prog.funcs[f]? = some fn) :
    false = Tryd.pinned.checked.prog.looks [] ∧ ∀ (j : Nat) t, fn.params[j]? = some t → Tryd.pinned.checked.prog.wantsStandIn t = false := by
  obtain rfl : f = 7 := Option.some.inj ((show Tryd.prog.funcNamed Rows.pairKeepsRow.func = some 7 by kernel_rfl).symm.trans hf) |>.symm
  obtain rfl : fn = Tryd.f7 := (Option.some.inj (Tryd.func7.symm.trans hfn)).symm
  refine ⟨by kernel_rfl, fun j t ht => ?_⟩
  have hall : (Tryd.f7.params.toList.all fun u => !Tryd.prog.wantsStandIn u) = true := by kernel_rfl
  exact (show Tryd.prog.wantsStandIn t = false by simpa using List.all_eq_true.1 hall t (Array.mem_toList_iff.2 (Array.mem_of_getElem? ht)))
theorem pairKeeps_card : Rows.PairKeepsCardSaid :=
  Claim7.holds_tied_plain_at .later [] _ _ _ _ said_pairKeeps (fun _ h => by cases h) (by kernel_rfl) (fun _ h => by cases h) pairKeeps_row_tie rfl ⟨rfl, rfl⟩ (by kernel_rfl) rfl plain_pairKeeps (by kernel_rfl)
#print axioms pairKeeps_card
end Go.Proofs.YtkkkjcpfahhhpaaDoor
