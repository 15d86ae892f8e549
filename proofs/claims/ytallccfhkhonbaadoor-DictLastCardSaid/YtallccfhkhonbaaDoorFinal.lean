/- What is proved: the statements DictPlays, DictParts, DictLast, for whatever is handed in; no condition of their own. -/
import Derived.Test.YtallccfhkhonbaaDoorOk
import Derived.Test.YtallccfhkhonbaaDoorRows
import Derived.Test.YtallccfhkhonbaaDoorCards
import Derived.Test.YtallccfhkhonbaaDoorTie
import Derived.LaidMore
import Derived.Stop.Joined
import Derived.SevenTiedAt
import Derived.MakeChecks
import Derived.WalkKit
import Derived.ProofKit
import Derived.OpenShut
set_option linter.unusedVariables false
set_option linter.unusedSimpArgs false
namespace Go.Proofs.YtallccfhkhonbaaDoor
open Go Go.ChangeShapes Go.WideShapes Go.ChangeAt Go.RowKit Go.Abs Go.L17 Go.Inc
theorem own : ownKnob Tryd.prog.godebug = none := by kernel_rfl
theorem pre_dictPlays (x : S3.ta.den) (h : wfD S3.ta x = true) : S3.pre x = true := by
  exact (Bool.and_eq_true_iff.1 (Bool.and_eq_true_iff.1 h).2).1
theorem laid_dictPlays {W : World} (h : laidMetH Tryd.prog Rows.dictPlaysRow.laid W) : GlobOk gl (allV W) := by
  rw [MakeChecks.laidMetH_plain _ _ _ (by kernel_rfl)] at h
  obtain ⟨ps, ⟨g0, t0, cs0, f0, p0, q0, hg0, ht0, hv0, hd0, ⟨g1, t1, cs1, f1, p1, q1, hg1, ht1, hv1, hd1, _, _⟩, _⟩, _, _⟩ := h
  obtain rfl := Option.some.inj ((show Tryd.prog.globalNamed "incognito/value.yes" = some 0 by kernel_rfl).symm.trans hg0)
  obtain rfl := Option.some.inj ((show (Tryd.prog.globals[0]?).map (·.type) = some 25 by kernel_rfl).symm.trans ht0)
  have c0 := trod_val Tryd.underlying25 rfl rfl rfl rfl (by kernel_rfl) (by kernel_rfl) (by kernel_rfl) (by kernel_rfl) (by kernel_rfl) (by kernel_rfl) (by kernel_rfl) hd0
  have r0 := var_reads hg0 hv0
  rw [c0] at r0
  obtain rfl := Option.some.inj ((show Tryd.prog.globalNamed "incognito/value.no" = some 1 by kernel_rfl).symm.trans hg1)
  obtain rfl := Option.some.inj ((show (Tryd.prog.globals[1]?).map (·.type) = some 25 by kernel_rfl).symm.trans ht1)
  have c1 := trod_val Tryd.underlying25 rfl rfl rfl rfl (by kernel_rfl) (by kernel_rfl) (by kernel_rfl) (by kernel_rfl) (by kernel_rfl) (by kernel_rfl) (by kernel_rfl) hd1
  have r1 := var_reads hg1 hv1
  rw [c1] at r1
  intro g A hg
  simp only [gl, Abs.look] at hg
  split at hg
  · rename_i hq; rw [Abs.beq_true] at hq; subst hq; cases hg
    exact ⟨_, _, _, rfl, ⟨[_], _, rfl, rfl, [_], _, rfl, rfl, [_], _, rfl, rfl, rfl⟩, r0⟩
  split at hg
  · rename_i hq; rw [Abs.beq_true] at hq; subst hq; cases hg
    exact ⟨_, _, _, rfl, ⟨[_], _, rfl, rfl, [_], _, rfl, rfl, [_], _, rfl, rfl, rfl⟩, r1⟩
  cases hg
theorem met_dictPlays (os : Os) (args : Array Value) : laidMetH Tryd.prog Rows.dictPlaysRow.laid ((World.doorLaid Tryd.prog 400 os).forCall (fun _ _ => 0) ⟨#[], args, []⟩).memory :=
  laidMetH_of_parts3 (fuel := 8) (laidMet_of_run' 8 (by kernel_rfl) (by kernel_rfl)) (by kernel_rfl) (by kernel_rfl)
set_option maxRecDepth 100000 in
theorem lifted_dictPlays (os : Os) (started : os.Started) (H : Type) (enc : TypeId × Value → H) :
    ReturnsInHanded {} Tryd.checked os 3 .any (fun w args => (Rows.dictPlaysSpec.pre enc Tryd.prog Tryd.f3 [] false w args ∧ laidMetH Tryd.prog Rows.dictPlaysRow.laid w) ∧ sizedMet enc Tryd.prog Tryd.f3 (OpenSpec.ofChange Rows.dictPlaysSpec) false w args)
      (Rows.dictPlaysSpec.post enc Tryd.prog Tryd.f3 false true false false) :=
  law_ofD (C := Tryd.checked) (laid := Rows.dictPlaysRow.laid) own started (by kernel_rfl) Tryd.func3
    (ChangeSpec.witness_shaped (enc := enc) (C := Tryd.checked) (os := os) (X := fun w _ => laidMetH Tryd.prog Rows.dictPlaysRow.laid w) false (World.doorLaid Tryd.prog 400 os) #[.int .i64 0, .slice none 0 0] 8 rfl (World.shaped_of_RefB (by kernel_rfl) (by kernel_rfl)) (by kernel_rfl) (by kernel_rfl) (by kernel_rfl) (met_dictPlays os _))
    (by kernel_rfl) (by kernel_rfl) rfl (tb := 4) rfl (by kernel_rfl) (by kernel_rfl) ok3 (fun W h => laid_dictPlays h) (fun x h => pre_dictPlays x h) (fun x _ => rfl)
    (fun ds hd => by
      match ds, hd with
      | [d0, d1], _ => exact ⟨rfl, rfl, rfl⟩)
theorem said_dictPlays : Rows.DictPlaysSaid :=
  OpenClaim.holds_of_wide 3 Tryd.f3 rfl rfl rfl rfl rfl rfl rfl ⟨rfl, rfl, rfl, rfl, rfl⟩ rfl rfl rfl rfl rfl (by kernel_rfl) Tryd.func3 (by kernel_rfl)
    (of_decide_eq_true (by kernel_rfl)) (by unfold Func.isWrapper; first | (rw [if_pos (by decide +kernel)]; kernel_rfl) | (rw [if_neg (by decide +kernel)]; exact ⟨rfl, rfl⟩))
    (fun os started H enc _ => lifted_dictPlays os started H enc)
theorem plain_dictPlays (f : FuncId) (fn : Func) (hf : Tryd.pinned.checked.prog.funcNamed Rows.dictPlaysRow.func = some f) (hfn : Tryd.pinned.checked.prog.funcs[f]? = some fn) :
    false = Tryd.pinned.checked.prog.looks [] ∧ ∀ (j : Nat) t, fn.params[j]? = some t → Tryd.pinned.checked.prog.wantsStandIn t = false := by
  obtain rfl : f = 3 := Option.some.inj ((show Tryd.prog.funcNamed Rows.dictPlaysRow.func = some 3 by kernel_rfl).symm.trans hf) |>.symm
  obtain rfl : fn = Tryd.f3 := (Option.some.inj (Tryd.func3.symm.trans hfn)).symm
  refine ⟨by kernel_rfl, fun j t ht => ?_⟩
  have hall : (Tryd.f3.params.toList.all fun u => !Tryd.prog.wantsStandIn u) = true := by kernel_rfl
  exact (show Tryd.prog.wantsStandIn t = false by simpa using List.all_eq_true.1 hall t (Array.mem_toList_iff.2 (Array.mem_of_getElem? ht)))
theorem dictPlays_card : Rows.DictPlaysCardSaid :=
  Claim7.holds_tied_plain_at .later [] _ _ _ _ said_dictPlays (fun _ h => by cases h) (by kernel_rfl) (fun _ h => by cases h) dictPlays_row_tie rfl ⟨rfl, rfl⟩ (by kernel_rfl) rfl plain_dictPlays (by kernel_rfl)
#print axioms dictPlays_card
theorem pre_dictParts (x : S4.ta.den) (h : wfD S4.ta x = true) : S4.pre x = true := by
  obtain ⟨h1, h2⟩ := Bool.and_eq_true_iff.1 h
  obtain ⟨h3, h4⟩ := Bool.and_eq_true_iff.1 h2
  exact Bool.and_eq_true_iff.2 ⟨h1, Bool.and_eq_true_iff.2 ⟨h3, (Bool.and_eq_true_iff.1 h4).1⟩⟩
theorem laid_dictParts {W : World} (h : laidMetH Tryd.prog Rows.dictPartsRow.laid W) : GlobOk gl (allV W) := by
  rw [MakeChecks.laidMetH_plain _ _ _ (by kernel_rfl)] at h
  obtain ⟨ps, ⟨g0, t0, cs0, f0, p0, q0, hg0, ht0, hv0, hd0, ⟨g1, t1, cs1, f1, p1, q1, hg1, ht1, hv1, hd1, _, _⟩, _⟩, _, _⟩ := h
  obtain rfl := Option.some.inj ((show Tryd.prog.globalNamed "incognito/value.yes" = some 0 by kernel_rfl).symm.trans hg0)
  obtain rfl := Option.some.inj ((show (Tryd.prog.globals[0]?).map (·.type) = some 25 by kernel_rfl).symm.trans ht0)
  have c0 := trod_val Tryd.underlying25 rfl rfl rfl rfl (by kernel_rfl) (by kernel_rfl) (by kernel_rfl) (by kernel_rfl) (by kernel_rfl) (by kernel_rfl) (by kernel_rfl) hd0
  have r0 := var_reads hg0 hv0
  rw [c0] at r0
  obtain rfl := Option.some.inj ((show Tryd.prog.globalNamed "incognito/value.no" = some 1 by kernel_rfl).symm.trans hg1)
  obtain rfl := Option.some.inj ((show (Tryd.prog.globals[1]?).map (·.type) = some 25 by kernel_rfl).symm.trans ht1)
  have c1 := trod_val Tryd.underlying25 rfl rfl rfl rfl (by kernel_rfl) (by kernel_rfl) (by kernel_rfl) (by kernel_rfl) (by kernel_rfl) (by kernel_rfl) (by kernel_rfl) hd1
  have r1 := var_reads hg1 hv1
  rw [c1] at r1
  intro g A hg
  simp only [gl, Abs.look] at hg
  split at hg
  · rename_i hq; rw [Abs.beq_true] at hq; subst hq; cases hg
    exact ⟨_, _, _, rfl, ⟨[_], _, rfl, rfl, [_], _, rfl, rfl, [_], _, rfl, rfl, rfl⟩, r0⟩
  split at hg
  · rename_i hq; rw [Abs.beq_true] at hq; subst hq; cases hg
    exact ⟨_, _, _, rfl, ⟨[_], _, rfl, rfl, [_], _, rfl, rfl, [_], _, rfl, rfl, rfl⟩, r1⟩
  cases hg
theorem met_dictParts (os : Os) (args : Array Value) : laidMetH Tryd.prog Rows.dictPartsRow.laid ((World.doorLaid Tryd.prog 400 os).forCall (fun _ _ => 0) ⟨#[], args, []⟩).memory :=
  laidMetH_of_parts3 (fuel := 8) (laidMet_of_run' 8 (by kernel_rfl) (by kernel_rfl)) (by kernel_rfl) (by kernel_rfl)
set_option maxRecDepth 100000 in
theorem lifted_dictParts (os : Os) (started : os.Started) (H : Type) (enc : TypeId × Value → H) :
    ReturnsInHanded {} Tryd.checked os 4 .any (fun w args => (Rows.dictPartsSpec.pre enc Tryd.prog Tryd.f4 [] false w args ∧ laidMetH Tryd.prog Rows.dictPartsRow.laid w) ∧ sizedMet enc Tryd.prog Tryd.f4 (OpenSpec.ofChange Rows.dictPartsSpec) false w args)
      (Rows.dictPartsSpec.post enc Tryd.prog Tryd.f4 false true false false) :=
  law_ofD (C := Tryd.checked) (laid := Rows.dictPartsRow.laid) own started (by kernel_rfl) Tryd.func4
    (ChangeSpec.witness_shaped (enc := enc) (C := Tryd.checked) (os := os) (X := fun w _ => laidMetH Tryd.prog Rows.dictPartsRow.laid w) false (World.doorLaid Tryd.prog 400 os) #[.slice none 0 0, .agg #[.int .i64 0, .int .i64 0, .string ⟨#[]⟩], .agg #[.int .i64 0, .int .i64 0, .string ⟨#[]⟩]] 8 rfl (World.shaped_of_RefB (by kernel_rfl) (by kernel_rfl)) (by kernel_rfl) (by kernel_rfl) (by kernel_rfl) (met_dictParts os _))
    (by kernel_rfl) (by kernel_rfl) rfl (tb := 4) rfl (by kernel_rfl) (by kernel_rfl) ok4 (fun W h => laid_dictParts h) (fun x h => pre_dictParts x h) (fun x _ => rfl)
    (fun ds hd => by
      match ds, hd with
      | [d0, d1, d2], _ => exact ⟨rfl, rfl, rfl⟩)
theorem said_dictParts : Rows.DictPartsSaid :=
  OpenClaim.holds_of_wide 4 Tryd.f4 rfl rfl rfl rfl rfl rfl rfl ⟨rfl, rfl, rfl, rfl, rfl⟩ rfl rfl rfl rfl rfl (by kernel_rfl) Tryd.func4 (by kernel_rfl)
    (of_decide_eq_true (by kernel_rfl)) (by unfold Func.isWrapper; first | (rw [if_pos (by decide +kernel)]; kernel_rfl) | (rw [if_neg (by decide +kernel)]; exact ⟨rfl, rfl⟩))
    (fun os started H enc _ => lifted_dictParts os started H enc)
theorem plain_dictParts (f : FuncId) (fn : Func) (hf : Tryd.pinned.checked.prog.funcNamed Rows.dictPartsRow.func = some f) (hfn : Tryd.pinned.checked.prog.funcs[f]? = some fn) :
    false = Tryd.pinned.checked.prog.looks [] ∧ ∀ (j : Nat) t, fn.params[j]? = some t → Tryd.pinned.checked.prog.wantsStandIn t = false := by
  obtain rfl : f = 4 := Option.some.inj ((show Tryd.prog.funcNamed Rows.dictPartsRow.func = some 4 by kernel_rfl).symm.trans hf) |>.symm
  obtain rfl : fn = Tryd.f4 := (Option.some.inj (Tryd.func4.symm.trans hfn)).symm
  refine ⟨by kernel_rfl, fun j t ht => ?_⟩
  have hall : (Tryd.f4.params.toList.all fun u => !Tryd.prog.wantsStandIn u) = true := by kernel_rfl
  exact (show Tryd.prog.wantsStandIn t = false by simpa using List.all_eq_true.1 hall t (Array.mem_toList_iff.2 (Array.mem_of_getElem? ht)))
theorem dictParts_card : Rows.DictPartsCardSaid :=
  Claim7.holds_tied_plain_at .later [] _ _ _ _ said_dictParts (fun _ h => by cases h) (by kernel_rfl) (fun _ h => by cases h) dictParts_row_tie rfl ⟨rfl, rfl⟩ (by kernel_rfl) rfl plain_dictParts (by kernel_rfl)
#print axioms dictParts_card
theorem pre_dictLast (x : S5.ta.den) (h : wfD S5.ta x = true) : S5.pre x = true := by
  obtain ⟨h1, h2⟩ := Bool.and_eq_true_iff.1 h
  obtain ⟨h3, h4⟩ := Bool.and_eq_true_iff.1 h2
  exact Bool.and_eq_true_iff.2 ⟨h1, Bool.and_eq_true_iff.2 ⟨h3, (Bool.and_eq_true_iff.1 h4).1⟩⟩
theorem laid_dictLast {W : World} (h : laidMetH Tryd.prog Rows.dictLastRow.laid W) : GlobOk gl (allV W) := by
  rw [MakeChecks.laidMetH_plain _ _ _ (by kernel_rfl)] at h
  obtain ⟨ps, ⟨g0, t0, cs0, f0, p0, q0, hg0, ht0, hv0, hd0, ⟨g1, t1, cs1, f1, p1, q1, hg1, ht1, hv1, hd1, _, _⟩, _⟩, _, _⟩ := h
  obtain rfl := Option.some.inj ((show Tryd.prog.globalNamed "incognito/value.yes" = some 0 by kernel_rfl).symm.trans hg0)
  obtain rfl := Option.some.inj ((show (Tryd.prog.globals[0]?).map (·.type) = some 25 by kernel_rfl).symm.trans ht0)
  have c0 := trod_val Tryd.underlying25 rfl rfl rfl rfl (by kernel_rfl) (by kernel_rfl) (by kernel_rfl) (by kernel_rfl) (by kernel_rfl) (by kernel_rfl) (by kernel_rfl) hd0
  have r0 := var_reads hg0 hv0
  rw [c0] at r0
  obtain rfl := Option.some.inj ((show Tryd.prog.globalNamed "incognito/value.no" = some 1 by kernel_rfl).symm.trans hg1)
  obtain rfl := Option.some.inj ((show (Tryd.prog.globals[1]?).map (·.type) = some 25 by kernel_rfl).symm.trans ht1)
  have c1 := trod_val Tryd.underlying25 rfl rfl rfl rfl (by kernel_rfl) (by kernel_rfl) (by kernel_rfl) (by kernel_rfl) (by kernel_rfl) (by kernel_rfl) (by kernel_rfl) hd1
  have r1 := var_reads hg1 hv1
  rw [c1] at r1
  intro g A hg
  simp only [gl, Abs.look] at hg
  split at hg
  · rename_i hq; rw [Abs.beq_true] at hq; subst hq; cases hg
    exact ⟨_, _, _, rfl, ⟨[_], _, rfl, rfl, [_], _, rfl, rfl, [_], _, rfl, rfl, rfl⟩, r0⟩
  split at hg
  · rename_i hq; rw [Abs.beq_true] at hq; subst hq; cases hg
    exact ⟨_, _, _, rfl, ⟨[_], _, rfl, rfl, [_], _, rfl, rfl, [_], _, rfl, rfl, rfl⟩, r1⟩
  cases hg
theorem met_dictLast (os : Os) (args : Array Value) : laidMetH Tryd.prog Rows.dictLastRow.laid ((World.doorLaid Tryd.prog 400 os).forCall (fun _ _ => 0) ⟨#[], args, []⟩).memory :=
  laidMetH_of_parts3 (fuel := 8) (laidMet_of_run' 8 (by kernel_rfl) (by kernel_rfl)) (by kernel_rfl) (by kernel_rfl)
set_option maxRecDepth 100000 in
theorem lifted_dictLast (os : Os) (started : os.Started) (H : Type) (enc : TypeId × Value → H) :
    ReturnsInHanded {} Tryd.checked os 5 .any (fun w args => (Rows.dictLastSpec.pre enc Tryd.prog Tryd.f5 [] false w args ∧ laidMetH Tryd.prog Rows.dictLastRow.laid w) ∧ sizedMet enc Tryd.prog Tryd.f5 (OpenSpec.ofChange Rows.dictLastSpec) false w args)
      (Rows.dictLastSpec.post enc Tryd.prog Tryd.f5 false true false false) :=
  law_ofD (C := Tryd.checked) (laid := Rows.dictLastRow.laid) own started (by kernel_rfl) Tryd.func5
    (ChangeSpec.witness_shaped (enc := enc) (C := Tryd.checked) (os := os) (X := fun w _ => laidMetH Tryd.prog Rows.dictLastRow.laid w) false (World.doorLaid Tryd.prog 400 os) #[.slice none 0 0, .agg #[.int .i64 0, .int .i64 0, .string ⟨#[]⟩], .agg #[.int .i64 0, .int .i64 0, .string ⟨#[]⟩]] 8 rfl (World.shaped_of_RefB (by kernel_rfl) (by kernel_rfl)) (by kernel_rfl) (by kernel_rfl) (by kernel_rfl) (met_dictLast os _))
    (by kernel_rfl) (by kernel_rfl) rfl (tb := 4) rfl (by kernel_rfl) (by kernel_rfl) ok5 (fun W h => laid_dictLast h) (fun x h => pre_dictLast x h) (fun x _ => rfl)
    (fun ds hd => by
      match ds, hd with
      | [d0, d1, d2], _ => exact ⟨rfl, rfl, rfl⟩)
theorem said_dictLast : Rows.DictLastSaid :=
  OpenClaim.holds_of_wide 5 Tryd.f5 rfl rfl rfl rfl rfl rfl rfl ⟨rfl, rfl, rfl, rfl, rfl⟩ rfl rfl rfl rfl rfl (by kernel_rfl) Tryd.func5 (by kernel_rfl)
    (of_decide_eq_true (by kernel_rfl)) (by unfold Func.isWrapper; first | (rw [if_pos (by decide +kernel)]; kernel_rfl) | (rw [if_neg (by decide +kernel)]; exact ⟨rfl, rfl⟩))
    (fun os started H enc _ => lifted_dictLast os started H enc)
theorem plain_dictLast (f : FuncId) (fn : Func) (hf : Tryd.pinned.checked.prog.funcNamed Rows.dictLastRow.func = some f) (hfn : Tryd.pinned.checked.prog.funcs[f]? = some fn) :
    false = Tryd.pinned.checked.prog.looks [] ∧ ∀ (j : Nat) t, fn.params[j]? = some t → Tryd.pinned.checked.prog.wantsStandIn t = false := by
  obtain rfl : f = 5 := Option.some.inj ((show Tryd.prog.funcNamed Rows.dictLastRow.func = some 5 by kernel_rfl).symm.trans hf) |>.symm
  obtain rfl : fn = Tryd.f5 := (Option.some.inj (Tryd.func5.symm.trans hfn)).symm
  refine ⟨by kernel_rfl, fun j t ht => ?_⟩
  have hall : (Tryd.f5.params.toList.all fun u => !Tryd.prog.wantsStandIn u) = true := by kernel_rfl
  exact (show Tryd.prog.wantsStandIn t = false by simpa using List.all_eq_true.1 hall t (Array.mem_toList_iff.2 (Array.mem_of_getElem? ht)))
theorem dictLast_card : Rows.DictLastCardSaid :=
  Claim7.holds_tied_plain_at .later [] _ _ _ _ said_dictLast (fun _ h => by cases h) (by kernel_rfl) (fun _ h => by cases h) dictLast_row_tie rfl ⟨rfl, rfl⟩ (by kernel_rfl) rfl plain_dictLast (by kernel_rfl)
#print axioms dictLast_card
end Go.Proofs.YtallccfhkhonbaaDoor
