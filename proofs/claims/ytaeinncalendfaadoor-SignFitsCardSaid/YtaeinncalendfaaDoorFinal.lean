/- What is proved: the statements SignTakes, SignArgs, SignOuts, SignFits, for whatever is handed in; no condition of their own. -/
import Derived.Test.YtaeinncalendfaaDoorOk
import Derived.Test.YtaeinncalendfaaDoorRows
import Derived.Test.YtaeinncalendfaaDoorCards
import Derived.Test.YtaeinncalendfaaDoorTie
import Derived.LaidMore
import Derived.Stop.Joined
import Derived.SevenTiedAt
import Derived.MakeChecks
import Derived.WalkKit
import Derived.ProofKit
import Derived.OpenShut
set_option linter.unusedVariables false
set_option linter.unusedSimpArgs false
namespace Go.Proofs.YtaeinncalendfaaDoor
open Go Go.ChangeShapes Go.WideShapes Go.ChangeAt Go.RowKit Go.Abs Go.L09 Go.Inc
theorem own : ownKnob Tryd.prog.godebug = none := by kernel_rfl
theorem pre_signTakes (x : S3.ta.den) (h : wfD S3.ta x = true) : S3.pre x = true := by
  exact (Bool.and_eq_true_iff.1 (Bool.and_eq_true_iff.1 h).2).1
theorem laid_signTakes {W : World} (h : laidMetH Tryd.prog Rows.signTakesRow.laid W) : GlobOk gl (allV W) := by
  rw [MakeChecks.laidMetH_plain _ _ _ (by kernel_rfl)] at h
  obtain ⟨ps, ⟨g0, t0, cs0, f0, p0, q0, hg0, ht0, hv0, hd0, ⟨g1, t1, cs1, f1, p1, q1, hg1, ht1, hv1, hd1, _, _⟩, _⟩, _, _⟩ := h
  obtain rfl := Option.some.inj ((show Tryd.prog.globalNamed "incognito/value.yes" = some 2 by kernel_rfl).symm.trans hg0)
  obtain rfl := Option.some.inj ((show (Tryd.prog.globals[2]?).map (·.type) = some 23 by kernel_rfl).symm.trans ht0)
  have c0 := trod_val Tryd.underlying23 rfl rfl rfl rfl (by kernel_rfl) (by kernel_rfl) (by kernel_rfl) (by kernel_rfl) (by kernel_rfl) (by kernel_rfl) (by kernel_rfl) hd0
  have r0 := var_reads hg0 hv0
  rw [c0] at r0
  obtain rfl := Option.some.inj ((show Tryd.prog.globalNamed "incognito/value.no" = some 3 by kernel_rfl).symm.trans hg1)
  obtain rfl := Option.some.inj ((show (Tryd.prog.globals[3]?).map (·.type) = some 23 by kernel_rfl).symm.trans ht1)
  have c1 := trod_val Tryd.underlying23 rfl rfl rfl rfl (by kernel_rfl) (by kernel_rfl) (by kernel_rfl) (by kernel_rfl) (by kernel_rfl) (by kernel_rfl) (by kernel_rfl) hd1
  have r1 := var_reads hg1 hv1
  rw [c1] at r1
  intro g A hg
  simp only [gl, Abs.look] at hg
  split at hg
  · rename_i hq; rw [Abs.beq_true] at hq; subst hq; cases hg
    exact ⟨_, _, _, rfl, ⟨[_], _, rfl, rfl, [_], _, rfl, rfl, [_], _, rfl, rfl, rfl⟩, r0⟩
  split at hg
  · rename_i hq; rw [Abs.beq_true] at hq; subst hq; cases hg
    exact ⟨_, _, _, rfl, ⟨[_], _, rfl, rfl, [_], _, rfl, rfl, [_], _, rfl, rfl, rfl⟩, r1⟩
  cases hg
theorem met_signTakes (os : Os) (args : Array Value) : laidMetH Tryd.prog Rows.signTakesRow.laid ((World.doorLaid Tryd.prog 400 os).forCall (fun _ _ => 0) ⟨#[], args, []⟩).memory :=
  laidMetH_of_parts3 (fuel := 8) (laidMet_of_run' 8 (by kernel_rfl) (by kernel_rfl)) (by kernel_rfl) (by kernel_rfl)
set_option maxRecDepth 100000 in
theorem lifted_signTakes (os : Os) (started : os.Started) (H : Type) (enc : TypeId × Value → H) :
    ReturnsInHanded {} Tryd.checked os 3 .any (fun w args => (Rows.signTakesSpec.pre enc Tryd.prog Tryd.f3 [] false w args ∧ laidMetH Tryd.prog Rows.signTakesRow.laid w) ∧ sizedMet enc Tryd.prog Tryd.f3 (OpenSpec.ofChange Rows.signTakesSpec) false w args)
      (Rows.signTakesSpec.post enc Tryd.prog Tryd.f3 false true false false) :=
  law_ofD (C := Tryd.checked) (laid := Rows.signTakesRow.laid) own started (by kernel_rfl) Tryd.func3
    (ChangeSpec.witness_shaped (enc := enc) (C := Tryd.checked) (os := os) (X := fun w _ => laidMetH Tryd.prog Rows.signTakesRow.laid w) false (World.doorLaid Tryd.prog 400 os) #[.int .i64 0, .agg #[.int .i64 0, .int .i64 0, .string ⟨#[]⟩]] 8 rfl (World.shaped_of_RefB (by kernel_rfl) (by kernel_rfl)) (by kernel_rfl) (by kernel_rfl) (by kernel_rfl) (met_signTakes os _))
    (by kernel_rfl) (by kernel_rfl) rfl (tb := 4) rfl (by kernel_rfl) (by kernel_rfl) ok3 (fun W h => laid_signTakes h) (fun x h => pre_signTakes x h) (fun x _ => rfl)
    (fun ds hd => by
      match ds, hd with
      | [d0, d1], _ => exact ⟨rfl, rfl, rfl⟩)
theorem said_signTakes : Rows.SignTakesSaid :=
  OpenClaim.holds_of_wide 3 Tryd.f3 rfl rfl rfl rfl rfl rfl rfl ⟨rfl, rfl, rfl, rfl, rfl⟩ rfl rfl rfl rfl rfl (by kernel_rfl) Tryd.func3 (by kernel_rfl)
    (of_decide_eq_true (by kernel_rfl)) (by unfold Func.isWrapper; first | (rw [if_pos (by decide +kernel)]; kernel_rfl) | (rw [if_neg (by decide +kernel)]; exact ⟨rfl, rfl⟩))
    (fun os started H enc _ => lifted_signTakes os started H enc)
theorem plain_signTakes (f : FuncId) (fn : Func) (hf : Tryd.pinned.checked.prog.funcNamed Rows.signTakesRow.func = some f) (hfn : Tryd.pinned.checked.prog.funcs[f]? = some fn) :
    false = Tryd.pinned.checked.prog.looks [] ∧ ∀ (j : Nat) t, fn.params[j]? = some t → Tryd.pinned.checked.prog.wantsStandIn t = false := by
  obtain rfl : f = 3 := Option.some.inj ((show Tryd.prog.funcNamed Rows.signTakesRow.func = some 3 by kernel_rfl).symm.trans hf) |>.symm
  obtain rfl : fn = Tryd.f3 := (Option.some.inj (Tryd.func3.symm.trans hfn)).symm
  refine ⟨by kernel_rfl, fun j t ht => ?_⟩
  have hall : (Tryd.f3.params.toList.all fun u => !Tryd.prog.wantsStandIn u) = true := by kernel_rfl
  exact (show Tryd.prog.wantsStandIn t = false by simpa using List.all_eq_true.1 hall t (Array.mem_toList_iff.2 (Array.mem_of_getElem? ht)))
theorem signTakes_card : Rows.SignTakesCardSaid :=
  Claim7.holds_tied_plain_at .later [] _ _ _ _ said_signTakes (fun _ h => by cases h) (by kernel_rfl) (fun _ h => by cases h) signTakes_row_tie rfl ⟨rfl, rfl⟩ (by kernel_rfl) rfl plain_signTakes (by kernel_rfl)
#print axioms signTakes_card
theorem laid_signArgs {W : World} (h : laidMetH Tryd.prog Rows.signArgsRow.laid W) : GlobOk gl (allV W) := by
  rw [MakeChecks.laidMetH_plain _ _ _ (by kernel_rfl)] at h
  obtain ⟨ps, ⟨g0, t0, cs0, f0, p0, q0, hg0, ht0, hv0, hd0, ⟨g1, t1, cs1, f1, p1, q1, hg1, ht1, hv1, hd1, _, _⟩, _⟩, _, _⟩ := h
  obtain rfl := Option.some.inj ((show Tryd.prog.globalNamed "incognito/value.yes" = some 2 by kernel_rfl).symm.trans hg0)
  obtain rfl := Option.some.inj ((show (Tryd.prog.globals[2]?).map (·.type) = some 23 by kernel_rfl).symm.trans ht0)
  have c0 := trod_val Tryd.underlying23 rfl rfl rfl rfl (by kernel_rfl) (by kernel_rfl) (by kernel_rfl) (by kernel_rfl) (by kernel_rfl) (by kernel_rfl) (by kernel_rfl) hd0
  have r0 := var_reads hg0 hv0
  rw [c0] at r0
  obtain rfl := Option.some.inj ((show Tryd.prog.globalNamed "incognito/value.no" = some 3 by kernel_rfl).symm.trans hg1)
  obtain rfl := Option.some.inj ((show (Tryd.prog.globals[3]?).map (·.type) = some 23 by kernel_rfl).symm.trans ht1)
  have c1 := trod_val Tryd.underlying23 rfl rfl rfl rfl (by kernel_rfl) (by kernel_rfl) (by kernel_rfl) (by kernel_rfl) (by kernel_rfl) (by kernel_rfl) (by kernel_rfl) hd1
  have r1 := var_reads hg1 hv1
  rw [c1] at r1
  intro g A hg
  simp only [gl, Abs.look] at hg
  split at hg
  · rename_i hq; rw [Abs.beq_true] at hq; subst hq; cases hg
    exact ⟨_, _, _, rfl, ⟨[_], _, rfl, rfl, [_], _, rfl, rfl, [_], _, rfl, rfl, rfl⟩, r0⟩
  split at hg
  · rename_i hq; rw [Abs.beq_true] at hq; subst hq; cases hg
    exact ⟨_, _, _, rfl, ⟨[_], _, rfl, rfl, [_], _, rfl, rfl, [_], _, rfl, rfl, rfl⟩, r1⟩
  cases hg
theorem met_signArgs (os : Os) (args : Array Value) : laidMetH Tryd.prog Rows.signArgsRow.laid ((World.doorLaid Tryd.prog 400 os).forCall (fun _ _ => 0) ⟨#[], args, []⟩).memory :=
  laidMetH_of_parts3 (fuel := 8) (laidMet_of_run' 8 (by kernel_rfl) (by kernel_rfl)) (by kernel_rfl) (by kernel_rfl)
set_option maxRecDepth 100000 in
theorem lifted_signArgs (os : Os) (started : os.Started) (H : Type) (enc : TypeId × Value → H) :
    ReturnsInHanded {} Tryd.checked os 4 .any (fun w args => (Rows.signArgsSpec.pre enc Tryd.prog Tryd.f4 [] false w args ∧ laidMetH Tryd.prog Rows.signArgsRow.laid w) ∧ sizedMet enc Tryd.prog Tryd.f4 (OpenSpec.ofChange Rows.signArgsSpec) false w args)
      (Rows.signArgsSpec.post enc Tryd.prog Tryd.f4 false true false false) :=
  law_ofD (C := Tryd.checked) (laid := Rows.signArgsRow.laid) own started (by kernel_rfl) Tryd.func4
    (ChangeSpec.witness_shaped (enc := enc) (C := Tryd.checked) (os := os) (X := fun w _ => laidMetH Tryd.prog Rows.signArgsRow.laid w) false (World.doorLaid Tryd.prog 400 os) #[.int .i64 0, .int .i64 0] 8 rfl (World.shaped_of_RefB (by kernel_rfl) (by kernel_rfl)) (by kernel_rfl) (by kernel_rfl) (by kernel_rfl) (met_signArgs os _))
    (by kernel_rfl) (by kernel_rfl) rfl (tb := 4) rfl (by kernel_rfl) (by kernel_rfl) ok4 (fun W h => laid_signArgs h) (fun x h => rfl) (fun x _ => rfl)
    (fun ds hd => by
      match ds, hd with
      | [d0, d1], _ => exact ⟨rfl, rfl, rfl⟩)
theorem said_signArgs : Rows.SignArgsSaid :=
  OpenClaim.holds_of_wide 4 Tryd.f4 rfl rfl rfl rfl rfl rfl rfl ⟨rfl, rfl, rfl, rfl, rfl⟩ rfl rfl rfl rfl rfl (by kernel_rfl) Tryd.func4 (by kernel_rfl)
    (of_decide_eq_true (by kernel_rfl)) (by unfold Func.isWrapper; first | (rw [if_pos (by decide +kernel)]; kernel_rfl) | (rw [if_neg (by decide +kernel)]; exact ⟨rfl, rfl⟩))
    (fun os started H enc _ => lifted_signArgs os started H enc)
theorem plain_signArgs (f : FuncId) (fn : Func) (hf : Tryd.pinned.checked.prog.funcNamed Rows.signArgsRow.func = some f) (hfn : Tryd.pinned.checked.prog.funcs[f]? = some fn) :
    false = Tryd.pinned.checked.prog.looks [] ∧ ∀ (j : Nat) t, fn.params[j]? = some t → Tryd.pinned.checked.prog.wantsStandIn t = false := by
  obtain rfl : f = 4 := Option.some.inj ((show Tryd.prog.funcNamed Rows.signArgsRow.func = some 4 by kernel_rfl).symm.trans hf) |>.symm
  obtain rfl : fn = Tryd.f4 := (Option.some.inj (Tryd.func4.symm.trans hfn)).symm
  refine ⟨by kernel_rfl, fun j t ht => ?_⟩
  have hall : (Tryd.f4.params.toList.all fun u => !Tryd.prog.wantsStandIn u) = true := by kernel_rfl
  exact (show Tryd.prog.wantsStandIn t = false by simpa using List.all_eq_true.1 hall t (Array.mem_toList_iff.2 (Array.mem_of_getElem? ht)))
theorem signArgs_card : Rows.SignArgsCardSaid :=
  Claim7.holds_tied_plain_at .later [] _ _ _ _ said_signArgs (fun _ h => by cases h) (by kernel_rfl) (fun _ h => by cases h) signArgs_row_tie rfl ⟨rfl, rfl⟩ (by kernel_rfl) rfl plain_signArgs (by kernel_rfl)
#print axioms signArgs_card
theorem pre_signOuts (x : S5.ta.den) (h : wfD S5.ta x = true) : S5.pre x = true := by
  exact (Bool.and_eq_true_iff.1 (Bool.and_eq_true_iff.1 (Bool.and_eq_true_iff.1 (Bool.and_eq_true_iff.1 h).1).2).2).1
theorem laid_signOuts {W : World} (h : laidMetH Tryd.prog Rows.signOutsRow.laid W) : GlobOk gl (allV W) := by
  rw [MakeChecks.laidMetH_plain _ _ _ (by kernel_rfl)] at h
  obtain ⟨ps, ⟨g0, t0, cs0, f0, p0, q0, hg0, ht0, hv0, hd0, ⟨g1, t1, cs1, f1, p1, q1, hg1, ht1, hv1, hd1, _, _⟩, _⟩, _, _⟩ := h
  obtain rfl := Option.some.inj ((show Tryd.prog.globalNamed "incognito/value.yes" = some 2 by kernel_rfl).symm.trans hg0)
  obtain rfl := Option.some.inj ((show (Tryd.prog.globals[2]?).map (·.type) = some 23 by kernel_rfl).symm.trans ht0)
  have c0 := trod_val Tryd.underlying23 rfl rfl rfl rfl (by kernel_rfl) (by kernel_rfl) (by kernel_rfl) (by kernel_rfl) (by kernel_rfl) (by kernel_rfl) (by kernel_rfl) hd0
  have r0 := var_reads hg0 hv0
  rw [c0] at r0
  obtain rfl := Option.some.inj ((show Tryd.prog.globalNamed "incognito/value.no" = some 3 by kernel_rfl).symm.trans hg1)
  obtain rfl := Option.some.inj ((show (Tryd.prog.globals[3]?).map (·.type) = some 23 by kernel_rfl).symm.trans ht1)
  have c1 := trod_val Tryd.underlying23 rfl rfl rfl rfl (by kernel_rfl) (by kernel_rfl) (by kernel_rfl) (by kernel_rfl) (by kernel_rfl) (by kernel_rfl) (by kernel_rfl) hd1
  have r1 := var_reads hg1 hv1
  rw [c1] at r1
  intro g A hg
  simp only [gl, Abs.look] at hg
  split at hg
  · rename_i hq; rw [Abs.beq_true] at hq; subst hq; cases hg
    exact ⟨_, _, _, rfl, ⟨[_], _, rfl, rfl, [_], _, rfl, rfl, [_], _, rfl, rfl, rfl⟩, r0⟩
  split at hg
  · rename_i hq; rw [Abs.beq_true] at hq; subst hq; cases hg
    exact ⟨_, _, _, rfl, ⟨[_], _, rfl, rfl, [_], _, rfl, rfl, [_], _, rfl, rfl, rfl⟩, r1⟩
  cases hg
theorem met_signOuts (os : Os) (args : Array Value) : laidMetH Tryd.prog Rows.signOutsRow.laid ((World.doorLaid Tryd.prog 400 os).forCall (fun _ _ => 0) ⟨#[], args, []⟩).memory :=
  laidMetH_of_parts3 (fuel := 8) (laidMet_of_run' 8 (by kernel_rfl) (by kernel_rfl)) (by kernel_rfl) (by kernel_rfl)
set_option maxRecDepth 100000 in
theorem lifted_signOuts (os : Os) (started : os.Started) (H : Type) (enc : TypeId × Value → H) :
    ReturnsInHanded {} Tryd.checked os 5 .any (fun w args => (Rows.signOutsSpec.pre enc Tryd.prog Tryd.f5 [] false w args ∧ laidMetH Tryd.prog Rows.signOutsRow.laid w) ∧ sizedMet enc Tryd.prog Tryd.f5 (OpenSpec.ofChange Rows.signOutsSpec) false w args)
      (Rows.signOutsSpec.post enc Tryd.prog Tryd.f5 false true false false) :=
  law_ofD (C := Tryd.checked) (laid := Rows.signOutsRow.laid) own started (by kernel_rfl) Tryd.func5
    (ChangeSpec.witness_shaped (enc := enc) (C := Tryd.checked) (os := os) (X := fun w _ => laidMetH Tryd.prog Rows.signOutsRow.laid w) false (World.doorLaid Tryd.prog 400 os) #[.agg #[.int .i64 0, .int .i64 0, .slice none 0 0]] 8 rfl (World.shaped_of_RefB (by kernel_rfl) (by kernel_rfl)) (by kernel_rfl) (by kernel_rfl) (by kernel_rfl) (met_signOuts os _))
    (by kernel_rfl) (by kernel_rfl) rfl (tb := 4) rfl (by kernel_rfl) (by kernel_rfl) ok5 (fun W h => laid_signOuts h) (fun x h => pre_signOuts x h) (fun x _ => rfl)
    (fun ds hd => by
      match ds, hd with
      | [d0], _ => exact ⟨rfl, rfl, rfl⟩)
theorem said_signOuts : Rows.SignOutsSaid :=
  OpenClaim.holds_of_wide 5 Tryd.f5 rfl rfl rfl rfl rfl rfl rfl ⟨rfl, rfl, rfl, rfl, rfl⟩ rfl rfl rfl rfl rfl (by kernel_rfl) Tryd.func5 (by kernel_rfl)
    (of_decide_eq_true (by kernel_rfl)) (by unfold Func.isWrapper; first | (rw [if_pos (by decide +kernel)]; kernel_rfl) | (rw [if_neg (by decide +kernel)]; exact ⟨rfl, rfl⟩))
    (fun os started H enc _ => lifted_signOuts os started H enc)
theorem plain_signOuts (f : FuncId) (fn : Func) (hf : Tryd.pinned.checked.prog.funcNamed Rows.signOutsRow.func = some f) (hfn : Tryd.pinned.checked.prog.funcs[f]? = some fn) :
    false = Tryd.pinned.checked.prog.looks [] ∧ ∀ (j : Nat) t, fn.params[j]? = some t → Tryd.pinned.checked.prog.wantsStandIn t = false := by
  obtain rfl : f = 5 := Option.some.inj ((show Tryd.prog.funcNamed Rows.signOutsRow.func = some 5 by kernel_rfl).symm.trans hf) |>.symm
  obtain rfl : fn = Tryd.f5 := (Option.some.inj (Tryd.func5.symm.trans hfn)).symm
  refine ⟨by kernel_rfl, fun j t ht => ?_⟩
  have hall : (Tryd.f5.params.toList.all fun u => !Tryd.prog.wantsStandIn u) = true := by kernel_rfl
  exact (show Tryd.prog.wantsStandIn t = false by simpa using List.all_eq_true.1 hall t (Array.mem_toList_iff.2 (Array.mem_of_getElem? ht)))
theorem signOuts_card : Rows.SignOutsCardSaid :=
  Claim7.holds_tied_plain_at .later [] _ _ _ _ said_signOuts (fun _ h => by cases h) (by kernel_rfl) (fun _ h => by cases h) signOuts_row_tie rfl ⟨rfl, rfl⟩ (by kernel_rfl) rfl plain_signOuts (by kernel_rfl)
#print axioms signOuts_card
theorem pre_signFits (x : S6.ta.den) (h : wfD S6.ta x = true) : S6.pre x = true := by
  exact (Bool.and_eq_true_iff.1 (Bool.and_eq_true_iff.1 (Bool.and_eq_true_iff.1 (Bool.and_eq_true_iff.1 h).1).2).2).1
theorem laid_signFits {W : World} (h : laidMetH Tryd.prog Rows.signFitsRow.laid W) : GlobOk gl (allV W) := by
  rw [MakeChecks.laidMetH_plain _ _ _ (by kernel_rfl)] at h
  obtain ⟨ps, ⟨g0, t0, cs0, f0, p0, q0, hg0, ht0, hv0, hd0, ⟨g1, t1, cs1, f1, p1, q1, hg1, ht1, hv1, hd1, _, _⟩, _⟩, _, _⟩ := h
  obtain rfl := Option.some.inj ((show Tryd.prog.globalNamed "incognito/value.yes" = some 2 by kernel_rfl).symm.trans hg0)
  obtain rfl := Option.some.inj ((show (Tryd.prog.globals[2]?).map (·.type) = some 23 by kernel_rfl).symm.trans ht0)
  have c0 := trod_val Tryd.underlying23 rfl rfl rfl rfl (by kernel_rfl) (by kernel_rfl) (by kernel_rfl) (by kernel_rfl) (by kernel_rfl) (by kernel_rfl) (by kernel_rfl) hd0
  have r0 := var_reads hg0 hv0
  rw [c0] at r0
  obtain rfl := Option.some.inj ((show Tryd.prog.globalNamed "incognito/value.no" = some 3 by kernel_rfl).symm.trans hg1)
  obtain rfl := Option.some.inj ((show (Tryd.prog.globals[3]?).map (·.type) = some 23 by kernel_rfl).symm.trans ht1)
  have c1 := trod_val Tryd.underlying23 rfl rfl rfl rfl (by kernel_rfl) (by kernel_rfl) (by kernel_rfl) (by kernel_rfl) (by kernel_rfl) (by kernel_rfl) (by kernel_rfl) hd1
  have r1 := var_reads hg1 hv1
  rw [c1] at r1
  intro g A hg
  simp only [gl, Abs.look] at hg
  split at hg
  · rename_i hq; rw [Abs.beq_true] at hq; subst hq; cases hg
    exact ⟨_, _, _, rfl, ⟨[_], _, rfl, rfl, [_], _, rfl, rfl, [_], _, rfl, rfl, rfl⟩, r0⟩
  split at hg
  · rename_i hq; rw [Abs.beq_true] at hq; subst hq; cases hg
    exact ⟨_, _, _, rfl, ⟨[_], _, rfl, rfl, [_], _, rfl, rfl, [_], _, rfl, rfl, rfl⟩, r1⟩
  cases hg
theorem met_signFits (os : Os) (args : Array Value) : laidMetH Tryd.prog Rows.signFitsRow.laid ((World.doorLaid Tryd.prog 400 os).forCall (fun _ _ => 0) ⟨#[], args, []⟩).memory :=
  laidMetH_of_parts3 (fuel := 8) (laidMet_of_run' 8 (by kernel_rfl) (by kernel_rfl)) (by kernel_rfl) (by kernel_rfl)
set_option maxRecDepth 100000 in
theorem lifted_signFits (os : Os) (started : os.Started) (H : Type) (enc : TypeId × Value → H) :
    ReturnsInHanded {} Tryd.checked os 6 .any (fun w args => (Rows.signFitsSpec.pre enc Tryd.prog Tryd.f6 [] false w args ∧ laidMetH Tryd.prog Rows.signFitsRow.laid w) ∧ sizedMet enc Tryd.prog Tryd.f6 (OpenSpec.ofChange Rows.signFitsSpec) false w args)
      (Rows.signFitsSpec.post enc Tryd.prog Tryd.f6 false true false false) :=
  law_ofD (C := Tryd.checked) (laid := Rows.signFitsRow.laid) own started (by kernel_rfl) Tryd.func6
    (ChangeSpec.witness_shaped (enc := enc) (C := Tryd.checked) (os := os) (X := fun w _ => laidMetH Tryd.prog Rows.signFitsRow.laid w) false (World.doorLaid Tryd.prog 400 os) #[.agg #[.int .i64 0, .int .i64 0, .slice none 0 0]] 8 rfl (World.shaped_of_RefB (by kernel_rfl) (by kernel_rfl)) (by kernel_rfl) (by kernel_rfl) (by kernel_rfl) (met_signFits os _))
    (by kernel_rfl) (by kernel_rfl) rfl (tb := 4) rfl (by kernel_rfl) (by kernel_rfl) ok6 (fun W h => laid_signFits h) (fun x h => pre_signFits x h) (fun x _ => rfl)
    (fun ds hd => by
      match ds, hd with
      | [d0], _ => exact ⟨rfl, rfl, rfl⟩)
theorem said_signFits : Rows.SignFitsSaid :=
  OpenClaim.holds_of_wide 6 Tryd.f6 rfl rfl rfl rfl rfl rfl rfl ⟨rfl, rfl, rfl, rfl, rfl⟩ rfl rfl rfl rfl rfl (by kernel_rfl) Tryd.func6 (by kernel_rfl)
    (of_decide_eq_true (by kernel_rfl)) (by unfold Func.isWrapper; first | (rw [if_pos (by decide +kernel)]; kernel_rfl) | (rw [if_neg (by decide +kernel)]; exact ⟨rfl, rfl⟩))
    (fun os started H enc _ => lifted_signFits os started H enc)
theorem plain_signFits (f : FuncId) (fn : Func) (hf : Tryd.pinned.checked.prog.funcNamed Rows.signFitsRow.func = some f) (hfn : Tryd.pinned.checked.prog.funcs[f]? = some fn) :
    false = Tryd.pinned.checked.prog.looks [] ∧ ∀ (j : Nat) t, fn.params[j]? = some t → Tryd.pinned.checked.prog.wantsStandIn t = false := by
  obtain rfl : f = 6 := Option.some.inj ((show Tryd.prog.funcNamed Rows.signFitsRow.func = some 6 by kernel_rfl).symm.trans hf) |>.symm
  obtain rfl : fn = Tryd.f6 := (Option.some.inj (Tryd.func6.symm.trans hfn)).symm
  refine ⟨by kernel_rfl, fun j t ht => ?_⟩
  have hall : (Tryd.f6.params.toList.all fun u => !Tryd.prog.wantsStandIn u) = true := by kernel_rfl
  exact (show Tryd.prog.wantsStandIn t = false by simpa using List.all_eq_true.1 hall t (Array.mem_toList_iff.2 (Array.mem_of_getElem? ht)))
theorem signFits_card : Rows.SignFitsCardSaid :=
  Claim7.holds_tied_plain_at .later [] _ _ _ _ said_signFits (fun _ h => by cases h) (by kernel_rfl) (fun _ h => by cases h) signFits_row_tie rfl ⟨rfl, rfl⟩ (by kernel_rfl) rfl plain_signFits (by kernel_rfl)
#print axioms signFits_card
end Go.Proofs.YtaeinncalendfaaDoor
