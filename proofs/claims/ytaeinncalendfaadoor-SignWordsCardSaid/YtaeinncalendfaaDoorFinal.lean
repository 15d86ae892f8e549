/- What is proved: the statements SignWords, for whatever is handed in; no condition of their own. -/
import Derived.Test.YtaeinncalendfaaDoorOk
import Derived.Test.YtaeinncalendfaaDoorRows
import Derived.Test.YtaeinncalendfaaDoorCards
import Derived.Test.YtaeinncalendfaaDoorTie
import Derived.LaidMore
import Derived.Stop.Joined
import Derived.SevenTiedAt
import Derived.MakeChecks
import Derived.WalkKit
import Derived.ProofKit
import Derived.OpenShut
set_option linter.unusedVariables false
set_option linter.unusedSimpArgs false
namespace Go.Proofs.YtaeinncalendfaaDoor
open Go Go.ChangeShapes Go.WideShapes Go.ChangeAt Go.RowKit Go.Abs Go.L09 Go.Inc
theorem own : ownKnob Tryd.prog.godebug = none := by kernel_rfl
theorem pre_signWords (x : S7.ta.den) (h : wfD S7.ta x = true) : S7.pre x = true := by
  exact (Bool.and_eq_true_iff.1 h).1
theorem laid_signWords {W : World} (h : laidMetH Tryd.prog Rows.signWordsRow.laid W) : GlobOk gl (allV W) := by
  rw [MakeChecks.laidMetH_plain _ _ _ (by kernel_rfl)] at h
  obtain ⟨ps, ⟨g0, t0, cs0, f0, p0, q0, hg0, ht0, hv0, hd0, ⟨g1, t1, cs1, f1, p1, q1, hg1, ht1, hv1, hd1, ⟨g2, t2, cs2, f2, p2, q2, hg2, ht2, hv2, hd2, ⟨g3, t3, cs3, f3, p3, q3, hg3, ht3, hv3, hd3, _, _⟩, _⟩, _⟩, _⟩, _, _⟩ := h
  obtain rfl := Option.some.inj ((show Tryd.prog.globalNamed "incognito/value.yes" = some 2 by kernel_rfl).symm.trans hg0)
  obtain rfl := Option.some.inj ((show (Tryd.prog.globals[2]?).map (·.type) = some 23 by kernel_rfl).symm.trans ht0)
  have c0 := trod_val Tryd.underlying23 rfl rfl rfl rfl (by kernel_rfl) (by kernel_rfl) (by kernel_rfl) (by kernel_rfl) (by kernel_rfl) (by kernel_rfl) (by kernel_rfl) hd0
  have r0 := var_reads hg0 hv0
  rw [c0] at r0
  obtain rfl := Option.some.inj ((show Tryd.prog.globalNamed "incognito/value.no" = some 3 by kernel_rfl).symm.trans hg1)
  obtain rfl := Option.some.inj ((show (Tryd.prog.globals[3]?).map (·.type) = some 23 by kernel_rfl).symm.trans ht1)
  have c1 := trod_val Tryd.underlying23 rfl rfl rfl rfl (by kernel_rfl) (by kernel_rfl) (by kernel_rfl) (by kernel_rfl) (by kernel_rfl) (by kernel_rfl) (by kernel_rfl) hd1
  have r1 := var_reads hg1 hv1
  rw [c1] at r1
  obtain rfl := Option.some.inj ((show Tryd.prog.globalNamed "incognito/sign.models" = some 0 by kernel_rfl).symm.trans hg2)
  obtain rfl := Option.some.inj ((show (Tryd.prog.globals[0]?).map (·.type) = some 56 by kernel_rfl).symm.trans ht2)
  have c2 := trod_strs (ls := (arrL .str 11 modelsA).map fun s => s.data.toList) Tryd.underlying56 Tryd.underlying9 (by kernel_rfl) (by kernel_rfl) hd2
  have r2 := var_reads hg2 hv2
  rw [c2, str_back] at r2
  obtain rfl := Option.some.inj ((show Tryd.prog.globalNamed "incognito/sign.ops" = some 1 by kernel_rfl).symm.trans hg3)
  obtain rfl := Option.some.inj ((show (Tryd.prog.globals[1]?).map (·.type) = some 57 by kernel_rfl).symm.trans ht3)
  have c3 := trod_strs (ls := (arrL .str 14 opsA).map fun s => s.data.toList) Tryd.underlying57 Tryd.underlying9 (by kernel_rfl) (by kernel_rfl) hd3
  have r3 := var_reads hg3 hv3
  rw [c3, str_back] at r3
  intro g A hg
  simp only [gl, Abs.look] at hg
  split at hg
  · rename_i hq; rw [Abs.beq_true] at hq; subst hq; cases hg
    exact ⟨_, _, _, rfl, rep_strs, r2⟩
  split at hg
  · rename_i hq; rw [Abs.beq_true] at hq; subst hq; cases hg
    exact ⟨_, _, _, rfl, rep_strs, r3⟩
  split at hg
  · rename_i hq; rw [Abs.beq_true] at hq; subst hq; cases hg
    exact ⟨_, _, _, rfl, ⟨[_], _, rfl, rfl, [_], _, rfl, rfl, [_], _, rfl, rfl, rfl⟩, r0⟩
  split at hg
  · rename_i hq; rw [Abs.beq_true] at hq; subst hq; cases hg
    exact ⟨_, _, _, rfl, ⟨[_], _, rfl, rfl, [_], _, rfl, rfl, [_], _, rfl, rfl, rfl⟩, r1⟩
  cases hg
theorem met_signWords (os : Os) (args : Array Value) : laidMetH Tryd.prog Rows.signWordsRow.laid ((World.doorLaid Tryd.prog 400 os).forCall (fun _ _ => 0) ⟨#[], args, []⟩).memory :=
  laidMetH_of_parts3 (fuel := 8) (laidMet_of_run' 8 (by kernel_rfl) (by kernel_rfl)) (by kernel_rfl) (by kernel_rfl)
set_option maxRecDepth 100000 in
theorem lifted_signWords (os : Os) (started : os.Started) (H : Type) (enc : TypeId × Value → H) :
    ReturnsInHanded {} Tryd.checked os 7 .any (fun w args => (Rows.signWordsSpec.pre enc Tryd.prog Tryd.f7 [] false w args ∧ laidMetH Tryd.prog Rows.signWordsRow.laid w) ∧ sizedMet enc Tryd.prog Tryd.f7 (OpenSpec.ofChange Rows.signWordsSpec) false w args)
      (Rows.signWordsSpec.post enc Tryd.prog Tryd.f7 false true false false) :=
  law_ofD (C := Tryd.checked) (laid := Rows.signWordsRow.laid) own started (by kernel_rfl) Tryd.func7
    (ChangeSpec.witness_shaped (enc := enc) (C := Tryd.checked) (os := os) (X := fun w _ => laidMetH Tryd.prog Rows.signWordsRow.laid w) false (World.doorLaid Tryd.prog 400 os) #[.string ⟨#[]⟩, .int .i64 0] 8 rfl (World.shaped_of_RefB (by kernel_rfl) (by kernel_rfl)) (by kernel_rfl) (by kernel_rfl) (by kernel_rfl) (met_signWords os _))
    (by kernel_rfl) (by kernel_rfl) rfl (tb := 4) rfl (by kernel_rfl) (by kernel_rfl) ok7 (fun W h => laid_signWords h) (fun x h => pre_signWords x h) (fun x _ => rfl)
    (fun ds hd => by
      match ds, hd with
      | [d0, d1], _ => exact ⟨rfl, rfl, rfl⟩)
theorem said_signWords : Rows.SignWordsSaid :=
  OpenClaim.holds_of_wide 7 Tryd.f7 rfl rfl rfl rfl rfl rfl rfl ⟨rfl, rfl, rfl, rfl, rfl⟩ rfl rfl rfl rfl rfl (by kernel_rfl) Tryd.func7 (by kernel_rfl)
    (of_decide_eq_true (by kernel_rfl)) (by unfold Func.isWrapper; first | (rw [if_pos (by decide +kernel)]; kernel_rfl) | (rw [if_neg (by decide +kernel)]; exact ⟨rfl, rfl⟩))
    (fun os started H enc _ => lifted_signWords os started H enc)
theorem plain_signWords (f : FuncId) (fn : Func) (hf : Tryd.pinned.checked.prog.funcNamed Rows.signWordsRow.func = some f) (hfn : Tryd.pinned.checked.prog.funcs[f]? = some fn) :
    false = Tryd.pinned.checked.prog.looks [] ∧ ∀ (j : Nat) t, fn.params[j]? = some t → Tryd.pinned.checked.prog.wantsStandIn t = false := by
  obtain rfl : f = 7 := Option.some.inj ((show Tryd.prog.funcNamed Rows.signWordsRow.func = some 7 by kernel_rfl).symm.trans hf) |>.symm
  obtain rfl : fn = Tryd.f7 := (Option.some.inj (Tryd.func7.symm.trans hfn)).symm
  refine ⟨by kernel_rfl, fun j t ht => ?_⟩
  have hall : (Tryd.f7.params.toList.all fun u => !Tryd.prog.wantsStandIn u) = true := by kernel_rfl
  exact (show Tryd.prog.wantsStandIn t = false by simpa using List.all_eq_true.1 hall t (Array.mem_toList_iff.2 (Array.mem_of_getElem? ht)))
theorem signWords_card : Rows.SignWordsCardSaid :=
  Claim7.holds_tied_plain_at .later [] _ _ _ _ said_signWords (fun _ h => by cases h) (by kernel_rfl) (fun _ h => by cases h) signWords_row_tie rfl ⟨rfl, rfl⟩ (by kernel_rfl) rfl plain_signWords (by kernel_rfl)
#print axioms signWords_card
end Go.Proofs.YtaeinncalendfaaDoor
