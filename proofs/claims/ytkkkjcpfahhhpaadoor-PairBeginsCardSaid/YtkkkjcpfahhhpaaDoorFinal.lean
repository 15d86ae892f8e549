/- What is proved: the statements PairChecks, PairOpers, PairTurns, PairBegins, for whatever is handed in; no condition of their own. -/
import Derived.Test.YtkkkjcpfahhhpaaDoorOk
import Derived.Test.YtkkkjcpfahhhpaaDoorRows
import Derived.Test.YtkkkjcpfahhhpaaDoorCards
import Derived.Test.YtkkkjcpfahhhpaaDoorTie
import Derived.LaidMore
import Derived.Stop.Joined
import Derived.SevenTiedAt
import Derived.MakeChecks
import Derived.WalkKit
import Derived.ProofKit
import Derived.OpenShut
set_option linter.unusedVariables false
set_option linter.unusedSimpArgs false
namespace Go.Proofs.YtkkkjcpfahhhpaaDoor
open Go Go.ChangeShapes Go.WideShapes Go.ChangeAt Go.RowKit Go.Abs Go.L12 Go.Inc
theorem own : ownKnob Tryd.prog.godebug = none := by kernel_rfl
theorem pre_pairChecks (x : S3.ta.den) (h : wfD S3.ta x = true) : S3.pre x = true := by
  exact (Bool.and_eq_true_iff.1 h).1
theorem laid_pairChecks {W : World} (h : laidMetH Tryd.prog Rows.pairChecksRow.laid W) : GlobOk gl (allV W) := by
  rw [MakeChecks.laidMetH_plain _ _ _ (by kernel_rfl)] at h
  obtain ⟨ps, ⟨g0, t0, cs0, f0, p0, q0, hg0, ht0, hv0, hd0, ⟨g1, t1, cs1, f1, p1, q1, hg1, ht1, hv1, hd1, _, _⟩, _⟩, _, _⟩ := h
  obtain rfl := Option.some.inj ((show Tryd.prog.globalNamed "incognito/value.yes" = some 0 by kernel_rfl).symm.trans hg0)
  obtain rfl := Option.some.inj ((show (Tryd.prog.globals[0]?).map (·.type) = some 38 by kernel_rfl).symm.trans ht0)
  have c0 := trod_val Tryd.underlying38 rfl rfl rfl rfl (by kernel_rfl) (by kernel_rfl) (by kernel_rfl) (by kernel_rfl) (by kernel_rfl) (by kernel_rfl) (by kernel_rfl) hd0
  have r0 := var_reads hg0 hv0
  rw [c0] at r0
  obtain rfl := Option.some.inj ((show Tryd.prog.globalNamed "incognito/value.no" = some 1 by kernel_rfl).symm.trans hg1)
  obtain rfl := Option.some.inj ((show (Tryd.prog.globals[1]?).map (·.type) = some 38 by kernel_rfl).symm.trans ht1)
  have c1 := trod_val Tryd.underlying38 rfl rfl rfl rfl (by kernel_rfl) (by kernel_rfl) (by kernel_rfl) (by kernel_rfl) (by kernel_rfl) (by kernel_rfl) (by kernel_rfl) hd1
  have r1 := var_reads hg1 hv1
  rw [c1] at r1
  intro g A hg
  simp only [gl, Abs.look] at hg
  split at hg
  · rename_i hq; rw [Abs.beq_true] at hq; subst hq; cases hg
    exact ⟨_, _, _, rfl, ⟨[_], _, rfl, rfl, [_], _, rfl, rfl, [_], _, rfl, rfl, rfl⟩, r0⟩
  split at hg
  · rename_i hq; rw [Abs.beq_true] at hq; subst hq; cases hg
    exact ⟨_, _, _, rfl, ⟨[_], _, rfl, rfl, [_], _, rfl, rfl, [_], _, rfl, rfl, rfl⟩, r1⟩
  cases hg
theorem met_pairChecks (os : Os) (args : Array Value) : laidMetH Tryd.prog Rows.pairChecksRow.laid ((World.doorLaid Tryd.prog 400 os).forCall (fun _ _ => 0) ⟨#[], args, []⟩).memory :=
  laidMetH_of_parts3 (fuel := 8) (laidMet_of_run' 8 (by kernel_rfl) (by kernel_rfl)) (by kernel_rfl) (by kernel_rfl)
set_option maxRecDepth 100000 in
theorem lifted_pairChecks (os : Os) (started : os.Started) (H : Type) (enc : TypeId × Value → H) :
    ReturnsInHanded {} Tryd.checked os 3 .any (fun w args => (Rows.pairChecksSpec.pre enc Tryd.prog Tryd.f3 [] false w args ∧ laidMetH Tryd.prog Rows.pairChecksRow.laid w) ∧ sizedMet enc Tryd.prog Tryd.f3 (OpenSpec.ofChange Rows.pairChecksSpec) false w args)
      (Rows.pairChecksSpec.post enc Tryd.prog Tryd.f3 false true false false) :=
  law_ofD (C := Tryd.checked) (laid := Rows.pairChecksRow.laid) own started (by kernel_rfl) Tryd.func3
    (ChangeSpec.witness_shaped (enc := enc) (C := Tryd.checked) (os := os) (X := fun w _ => laidMetH Tryd.prog Rows.pairChecksRow.laid w) false (World.doorLaid Tryd.prog 400 os) #[.slice none 0 0] 8 rfl (World.shaped_of_RefB (by kernel_rfl) (by kernel_rfl)) (by kernel_rfl) (by kernel_rfl) (by kernel_rfl) (met_pairChecks os _))
    (by kernel_rfl) (by kernel_rfl) rfl (tb := 4) rfl (by kernel_rfl) (by kernel_rfl) ok3 (fun W h => laid_pairChecks h) (fun x h => pre_pairChecks x h) (fun x _ => rfl)
    (fun ds hd => by
      match ds, hd with
      | [d0], _ => exact ⟨rfl, rfl, rfl⟩)
theorem said_pairChecks : Rows.PairChecksSaid :=
  OpenClaim.holds_of_wide 3 Tryd.f3 rfl rfl rfl rfl rfl rfl rfl ⟨rfl, rfl, rfl, rfl, rfl⟩ rfl rfl rfl rfl rfl (by kernel_rfl) Tryd.func3 (by kernel_rfl)
    (of_decide_eq_true (by kernel_rfl)) (by unfold Func.isWrapper; first | (rw [if_pos (by decide +kernel)]; kernel_rfl) | (rw [if_neg (by decide +kernel)]; exact ⟨rfl, rfl⟩))
    (fun os started H enc _ => lifted_pairChecks os started H enc)
theorem plain_pairChecks (f : FuncId) (fn : Func) (hf : Tryd.pinned.checked.prog.funcNamed Rows.pairChecksRow.func = some f) (hfn : Tryd.pinned.checked.prog.funcs[f]? = some fn) :
    false = Tryd.pinned.checked.prog.looks [] ∧ ∀ (j : Nat) t, fn.params[j]? = some t → Tryd.pinned.checked.prog.wantsStandIn t = false := by
  obtain rfl : f = 3 := Option.some.inj ((show Tryd.prog.funcNamed Rows.pairChecksRow.func = some 3 by kernel_rfl).symm.trans hf) |>.symm
  obtain rfl : fn = Tryd.f3 := (Option.some.inj (Tryd.func3.symm.trans hfn)).symm
  refine ⟨by kernel_rfl, fun j t ht => ?_⟩
  have hall : (Tryd.f3.params.toList.all fun u => !Tryd.prog.wantsStandIn u) = true := by kernel_rfl
  exact (show Tryd.prog.wantsStandIn t = false by simpa using List.all_eq_true.1 hall t (Array.mem_toList_iff.2 (Array.mem_of_getElem? ht)))
theorem pairChecks_card : Rows.PairChecksCardSaid :=
  Claim7.holds_tied_plain_at .later [] _ _ _ _ said_pairChecks (fun _ h => by cases h) (by kernel_rfl) (fun _ h => by cases h) pairChecks_row_tie rfl ⟨rfl, rfl⟩ (by kernel_rfl) rfl plain_pairChecks (by kernel_rfl)
#print axioms pairChecks_card
theorem pre_pairOpers (x : S4.ta.den) (h : wfD S4.ta x = true) : S4.pre x = true := by
  exact (Bool.and_eq_true_iff.1 h).1
theorem laid_pairOpers {W : World} (h : laidMetH Tryd.prog Rows.pairOpersRow.laid W) : GlobOk gl (allV W) := by
  rw [MakeChecks.laidMetH_plain _ _ _ (by kernel_rfl)] at h
  obtain ⟨ps, ⟨g0, t0, cs0, f0, p0, q0, hg0, ht0, hv0, hd0, ⟨g1, t1, cs1, f1, p1, q1, hg1, ht1, hv1, hd1, _, _⟩, _⟩, _, _⟩ := h
  obtain rfl := Option.some.inj ((show Tryd.prog.globalNamed "incognito/value.yes" = some 0 by kernel_rfl).symm.trans hg0)
  obtain rfl := Option.some.inj ((show (Tryd.prog.globals[0]?).map (·.type) = some 38 by kernel_rfl).symm.trans ht0)
  have c0 := trod_val Tryd.underlying38 rfl rfl rfl rfl (by kernel_rfl) (by kernel_rfl) (by kernel_rfl) (by kernel_rfl) (by kernel_rfl) (by kernel_rfl) (by kernel_rfl) hd0
  have r0 := var_reads hg0 hv0
  rw [c0] at r0
  obtain rfl := Option.some.inj ((show Tryd.prog.globalNamed "incognito/value.no" = some 1 by kernel_rfl).symm.trans hg1)
  obtain rfl := Option.some.inj ((show (Tryd.prog.globals[1]?).map (·.type) = some 38 by kernel_rfl).symm.trans ht1)
  have c1 := trod_val Tryd.underlying38 rfl rfl rfl rfl (by kernel_rfl) (by kernel_rfl) (by kernel_rfl) (by kernel_rfl) (by kernel_rfl) (by kernel_rfl) (by kernel_rfl) hd1
  have r1 := var_reads hg1 hv1
  rw [c1] at r1
  intro g A hg
  simp only [gl, Abs.look] at hg
  split at hg
  · rename_i hq; rw [Abs.beq_true] at hq; subst hq; cases hg
    exact ⟨_, _, _, rfl, ⟨[_], _, rfl, rfl, [_], _, rfl, rfl, [_], _, rfl, rfl, rfl⟩, r0⟩
  split at hg
  · rename_i hq; rw [Abs.beq_true] at hq; subst hq; cases hg
    exact ⟨_, _, _, rfl, ⟨[_], _, rfl, rfl, [_], _, rfl, rfl, [_], _, rfl, rfl, rfl⟩, r1⟩
  cases hg
theorem met_pairOpers (os : Os) (args : Array Value) : laidMetH Tryd.prog Rows.pairOpersRow.laid ((World.doorLaid Tryd.prog 400 os).forCall (fun _ _ => 0) ⟨#[], args, []⟩).memory :=
  laidMetH_of_parts3 (fuel := 8) (laidMet_of_run' 8 (by kernel_rfl) (by kernel_rfl)) (by kernel_rfl) (by kernel_rfl)
set_option maxRecDepth 100000 in
theorem lifted_pairOpers (os : Os) (started : os.Started) (H : Type) (enc : TypeId × Value → H) :
    ReturnsInHanded {} Tryd.checked os 4 .any (fun w args => (Rows.pairOpersSpec.pre enc Tryd.prog Tryd.f4 [] false w args ∧ laidMetH Tryd.prog Rows.pairOpersRow.laid w) ∧ sizedMet enc Tryd.prog Tryd.f4 (OpenSpec.ofChange Rows.pairOpersSpec) false w args)
      (Rows.pairOpersSpec.post enc Tryd.prog Tryd.f4 false true false false) :=
  law_ofD (C := Tryd.checked) (laid := Rows.pairOpersRow.laid) own started (by kernel_rfl) Tryd.func4
    (ChangeSpec.witness_shaped (enc := enc) (C := Tryd.checked) (os := os) (X := fun w _ => laidMetH Tryd.prog Rows.pairOpersRow.laid w) false (World.doorLaid Tryd.prog 400 os) #[.slice none 0 0] 8 rfl (World.shaped_of_RefB (by kernel_rfl) (by kernel_rfl)) (by kernel_rfl) (by kernel_rfl) (by kernel_rfl) (met_pairOpers os _))
    (by kernel_rfl) (by kernel_rfl) rfl (tb := 4) rfl (by kernel_rfl) (by kernel_rfl) ok4 (fun W h => laid_pairOpers h) (fun x h => pre_pairOpers x h) (fun x _ => rfl)
    (fun ds hd => by
      match ds, hd with
      | [d0], _ => exact ⟨rfl, rfl, rfl⟩)
theorem said_pairOpers : Rows.PairOpersSaid :=
  OpenClaim.holds_of_wide 4 Tryd.f4 rfl rfl rfl rfl rfl rfl rfl ⟨rfl, rfl, rfl, rfl, rfl⟩ rfl rfl rfl rfl rfl (by kernel_rfl) Tryd.func4 (by kernel_rfl)
    (of_decide_eq_true (by kernel_rfl)) (by unfold Func.isWrapper; first | (rw [if_pos (by decide +kernel)]; kernel_rfl) | (rw [if_neg (by decide +kernel)]; exact ⟨rfl, rfl⟩))
    (fun os started H enc _ => lifted_pairOpers os started H enc)
theorem plain_pairOpers (f : FuncId) (fn : Func) (hf : Tryd.pinned.checked.prog.funcNamed Rows.pairOpersRow.func = some f) (hfn : Tryd.pinned.checked.prog.funcs[f]? = some fn) :
    false = Tryd.pinned.checked.prog.looks [] ∧ ∀ (j : Nat) t, fn.params[j]? = some t → Tryd.pinned.checked.prog.wantsStandIn t = false := by
  obtain rfl : f = 4 := Option.some.inj ((show Tryd.prog.funcNamed Rows.pairOpersRow.func = some 4 by kernel_rfl).symm.trans hf) |>.symm
  obtain rfl : fn = Tryd.f4 := (Option.some.inj (Tryd.func4.symm.trans hfn)).symm
  refine ⟨by kernel_rfl, fun j t ht => ?_⟩
  have hall : (Tryd.f4.params.toList.all fun u => !Tryd.prog.wantsStandIn u) = true := by kernel_rfl
  exact (show Tryd.prog.wantsStandIn t = false by simpa using List.all_eq_true.1 hall t (Array.mem_toList_iff.2 (Array.mem_of_getElem? ht)))
theorem pairOpers_card : Rows.PairOpersCardSaid :=
  Claim7.holds_tied_plain_at .later [] _ _ _ _ said_pairOpers (fun _ h => by cases h) (by kernel_rfl) (fun _ h => by cases h) pairOpers_row_tie rfl ⟨rfl, rfl⟩ (by kernel_rfl) rfl plain_pairOpers (by kernel_rfl)
#print axioms pairOpers_card
theorem pre_pairTurns (x : S5.ta.den) (h : wfD S5.ta x = true) : S5.pre x = true := by
  exact (Bool.and_eq_true_iff.1 h).1
theorem laid_pairTurns {W : World} (h : laidMetH Tryd.prog Rows.pairTurnsRow.laid W) : GlobOk gl (allV W) := by
  rw [MakeChecks.laidMetH_plain _ _ _ (by kernel_rfl)] at h
  obtain ⟨ps, ⟨g0, t0, cs0, f0, p0, q0, hg0, ht0, hv0, hd0, ⟨g1, t1, cs1, f1, p1, q1, hg1, ht1, hv1, hd1, _, _⟩, _⟩, _, _⟩ := h
  obtain rfl := Option.some.inj ((show Tryd.prog.globalNamed "incognito/value.yes" = some 0 by kernel_rfl).symm.trans hg0)
  obtain rfl := Option.some.inj ((show (Tryd.prog.globals[0]?).map (·.type) = some 38 by kernel_rfl).symm.trans ht0)
  have c0 := trod_val Tryd.underlying38 rfl rfl rfl rfl (by kernel_rfl) (by kernel_rfl) (by kernel_rfl) (by kernel_rfl) (by kernel_rfl) (by kernel_rfl) (by kernel_rfl) hd0
  have r0 := var_reads hg0 hv0
  rw [c0] at r0
  obtain rfl := Option.some.inj ((show Tryd.prog.globalNamed "incognito/value.no" = some 1 by kernel_rfl).symm.trans hg1)
  obtain rfl := Option.some.inj ((show (Tryd.prog.globals[1]?).map (·.type) = some 38 by kernel_rfl).symm.trans ht1)
  have c1 := trod_val Tryd.underlying38 rfl rfl rfl rfl (by kernel_rfl) (by kernel_rfl) (by kernel_rfl) (by kernel_rfl) (by kernel_rfl) (by kernel_rfl) (by kernel_rfl) hd1
  have r1 := var_reads hg1 hv1
  rw [c1] at r1
  intro g A hg
  simp only [gl, Abs.look] at hg
  split at hg
  · rename_i hq; rw [Abs.beq_true] at hq; subst hq; cases hg
    exact ⟨_, _, _, rfl, ⟨[_], _, rfl, rfl, [_], _, rfl, rfl, [_], _, rfl, rfl, rfl⟩, r0⟩
  split at hg
  · rename_i hq; rw [Abs.beq_true] at hq; subst hq; cases hg
    exact ⟨_, _, _, rfl, ⟨[_], _, rfl, rfl, [_], _, rfl, rfl, [_], _, rfl, rfl, rfl⟩, r1⟩
  cases hg
theorem met_pairTurns (os : Os) (args : Array Value) : laidMetH Tryd.prog Rows.pairTurnsRow.laid ((World.doorLaid Tryd.prog 400 os).forCall (fun _ _ => 0) ⟨#[], args, []⟩).memory :=
  laidMetH_of_parts3 (fuel := 8) (laidMet_of_run' 8 (by kernel_rfl) (by kernel_rfl)) (by kernel_rfl) (by kernel_rfl)
set_option maxRecDepth 100000 in
theorem lifted_pairTurns (os : Os) (started : os.Started) (H : Type) (enc : TypeId × Value → H) :
    ReturnsInHanded {} Tryd.checked os 5 .any (fun w args => (Rows.pairTurnsSpec.pre enc Tryd.prog Tryd.f5 [] false w args ∧ laidMetH Tryd.prog Rows.pairTurnsRow.laid w) ∧ sizedMet enc Tryd.prog Tryd.f5 (OpenSpec.ofChange Rows.pairTurnsSpec) false w args)
      (Rows.pairTurnsSpec.post enc Tryd.prog Tryd.f5 false true false false) :=
  law_ofD (C := Tryd.checked) (laid := Rows.pairTurnsRow.laid) own started (by kernel_rfl) Tryd.func5
    (ChangeSpec.witness_shaped (enc := enc) (C := Tryd.checked) (os := os) (X := fun w _ => laidMetH Tryd.prog Rows.pairTurnsRow.laid w) false (World.doorLaid Tryd.prog 400 os) #[.slice none 0 0] 8 rfl (World.shaped_of_RefB (by kernel_rfl) (by kernel_rfl)) (by kernel_rfl) (by kernel_rfl) (by kernel_rfl) (met_pairTurns os _))
    (by kernel_rfl) (by kernel_rfl) rfl (tb := 4) rfl (by kernel_rfl) (by kernel_rfl) ok5 (fun W h => laid_pairTurns h) (fun x h => pre_pairTurns x h) (fun x _ => rfl)
    (fun ds hd => by
      match ds, hd with
      | [d0], _ => exact ⟨rfl, rfl, rfl⟩)
theorem said_pairTurns : Rows.PairTurnsSaid :=
  OpenClaim.holds_of_wide 5 Tryd.f5 rfl rfl rfl rfl rfl rfl rfl ⟨rfl, rfl, rfl, rfl, rfl⟩ rfl rfl rfl rfl rfl (by kernel_rfl) Tryd.func5 (by kernel_rfl)
    (of_decide_eq_true (by kernel_rfl)) (by unfold Func.isWrapper; first | (rw [if_pos (by decide +kernel)]; kernel_rfl) | (rw [if_neg (by decide +kernel)]; exact ⟨rfl, rfl⟩))
    (fun os started H enc _ => lifted_pairTurns os started H enc)
theorem plain_pairTurns (f : FuncId) (fn : Func) (hf : Tryd.pinned.checked.prog.funcNamed Rows.pairTurnsRow.func = some f) (hfn : Tryd.pinned.checked.prog.funcs[f]? = some fn) :
    false = Tryd.pinned.checked.prog.looks [] ∧ ∀ (j : Nat) t, fn.params[j]? = some t → Tryd.pinned.checked.prog.wantsStandIn t = false := by
  obtain rfl : f = 5 := Option.some.inj ((show Tryd.prog.funcNamed Rows.pairTurnsRow.func = some 5 by kernel_rfl).symm.trans hf) |>.symm
  obtain rfl : fn = Tryd.f5 := (Option.some.inj (Tryd.func5.symm.trans hfn)).symm
  refine ⟨by kernel_rfl, fun j t ht => ?_⟩
  have hall : (Tryd.f5.params.toList.all fun u => !Tryd.prog.wantsStandIn u) = true := by kernel_rfl
  exact (show Tryd.prog.wantsStandIn t = false by simpa using List.all_eq_true.1 hall t (Array.mem_toList_iff.2 (Array.mem_of_getElem? ht)))
theorem pairTurns_card : Rows.PairTurnsCardSaid :=
  Claim7.holds_tied_plain_at .later [] _ _ _ _ said_pairTurns (fun _ h => by cases h) (by kernel_rfl) (fun _ h => by cases h) pairTurns_row_tie rfl ⟨rfl, rfl⟩ (by kernel_rfl) rfl plain_pairTurns (by kernel_rfl)
#print axioms pairTurns_card
theorem pre_pairBegins (x : S6.ta.den) (h : wfD S6.ta x = true) : S6.pre x = true := by
  have h1 := Bool.and_eq_true_iff.1 h
  have h2 := Bool.and_eq_true_iff.1 h1.2
  exact Bool.and_eq_true_iff.2 ⟨h1.1, h2.1⟩
theorem laid_pairBegins {W : World} (h : laidMetH Tryd.prog Rows.pairBeginsRow.laid W) : GlobOk gl (allV W) := by
  rw [MakeChecks.laidMetH_plain _ _ _ (by kernel_rfl)] at h
  obtain ⟨ps, ⟨g0, t0, cs0, f0, p0, q0, hg0, ht0, hv0, hd0, ⟨g1, t1, cs1, f1, p1, q1, hg1, ht1, hv1, hd1, _, _⟩, _⟩, _, _⟩ := h
  obtain rfl := Option.some.inj ((show Tryd.prog.globalNamed "incognito/value.yes" = some 0 by kernel_rfl).symm.trans hg0)
  obtain rfl := Option.some.inj ((show (Tryd.prog.globals[0]?).map (·.type) = some 38 by kernel_rfl).symm.trans ht0)
  have c0 := trod_val Tryd.underlying38 rfl rfl rfl rfl (by kernel_rfl) (by kernel_rfl) (by kernel_rfl) (by kernel_rfl) (by kernel_rfl) (by kernel_rfl) (by kernel_rfl) hd0
  have r0 := var_reads hg0 hv0
  rw [c0] at r0
  obtain rfl := Option.some.inj ((show Tryd.prog.globalNamed "incognito/value.no" = some 1 by kernel_rfl).symm.trans hg1)
  obtain rfl := Option.some.inj ((show (Tryd.prog.globals[1]?).map (·.type) = some 38 by kernel_rfl).symm.trans ht1)
  have c1 := trod_val Tryd.underlying38 rfl rfl rfl rfl (by kernel_rfl) (by kernel_rfl) (by kernel_rfl) (by kernel_rfl) (by kernel_rfl) (by kernel_rfl) (by kernel_rfl) hd1
  have r1 := var_reads hg1 hv1
  rw [c1] at r1
  intro g A hg
  simp only [gl, Abs.look] at hg
  split at hg
  · rename_i hq; rw [Abs.beq_true] at hq; subst hq; cases hg
    exact ⟨_, _, _, rfl, ⟨[_], _, rfl, rfl, [_], _, rfl, rfl, [_], _, rfl, rfl, rfl⟩, r0⟩
  split at hg
  · rename_i hq; rw [Abs.beq_true] at hq; subst hq; cases hg
    exact ⟨_, _, _, rfl, ⟨[_], _, rfl, rfl, [_], _, rfl, rfl, [_], _, rfl, rfl, rfl⟩, r1⟩
  cases hg
theorem met_pairBegins (os : Os) (args : Array Value) : laidMetH Tryd.prog Rows.pairBeginsRow.laid ((World.doorLaid Tryd.prog 400 os).forCall (fun _ _ => 0) ⟨#[], args, []⟩).memory :=
  laidMetH_of_parts3 (fuel := 8) (laidMet_of_run' 8 (by kernel_rfl) (by kernel_rfl)) (by kernel_rfl) (by kernel_rfl)
set_option maxRecDepth 100000 in
theorem lifted_pairBegins (os : Os) (started : os.Started) (H : Type) (enc : TypeId × Value → H) :
    ReturnsInHanded {} Tryd.checked os 6 .any (fun w args => (Rows.pairBeginsSpec.pre enc Tryd.prog Tryd.f6 [] false w args ∧ laidMetH Tryd.prog Rows.pairBeginsRow.laid w) ∧ sizedMet enc Tryd.prog Tryd.f6 (OpenSpec.ofChange Rows.pairBeginsSpec) false w args)
      (Rows.pairBeginsSpec.post enc Tryd.prog Tryd.f6 false true false false) :=
  law_ofD (C := Tryd.checked) (laid := Rows.pairBeginsRow.laid) own started (by kernel_rfl) Tryd.func6
    (ChangeSpec.witness_shaped (enc := enc) (C := Tryd.checked) (os := os) (X := fun w _ => laidMetH Tryd.prog Rows.pairBeginsRow.laid w) false (World.doorLaid Tryd.prog 400 os) #[.slice none 0 0, .int .u8 0] 8 rfl (World.shaped_of_RefB (by kernel_rfl) (by kernel_rfl)) (by kernel_rfl) (by kernel_rfl) (by kernel_rfl) (met_pairBegins os _))
    (by kernel_rfl) (by kernel_rfl) rfl (tb := 4) rfl (by kernel_rfl) (by kernel_rfl) ok6 (fun W h => laid_pairBegins h) (fun x h => pre_pairBegins x h) (fun x _ => rfl)
    (fun ds hd => by
      match ds, hd with
      | [d0, d1], _ => exact ⟨rfl, rfl, rfl⟩)
theorem said_pairBegins : Rows.PairBeginsSaid :=
  OpenClaim.holds_of_wide 6 Tryd.f6 rfl rfl rfl rfl rfl rfl rfl ⟨rfl, rfl, rfl, rfl, rfl⟩ rfl rfl rfl rfl rfl (by kernel_rfl) Tryd.func6 (by kernel_rfl)
    (of_decide_eq_true (by kernel_rfl)) (by unfold Func.isWrapper; first | (rw [if_pos (by decide +kernel)]; kernel_rfl) | (rw [if_neg (by decide +kernel)]; exact ⟨rfl, rfl⟩))
    (fun os started H enc _ => lifted_pairBegins os started H enc)
theorem plain_pairBegins (f : FuncId) (fn : Func) (hf : Tryd.pinned.checked.prog.funcNamed Rows.pairBeginsRow.func = some f) (hfn : Tryd.pinned.checked.prog.funcs[f]? = some fn) :
    false = Tryd.pinned.checked.prog.looks [] ∧ ∀ (j : Nat) t, fn.params[j]? = some t → Tryd.pinned.checked.prog.wantsStandIn t = false := by
  obtain rfl : f = 6 := Option.some.inj ((show Tryd.prog.funcNamed Rows.pairBeginsRow.func = some 6 by kernel_rfl).symm.trans hf) |>.symm
  obtain rfl : fn = Tryd.f6 := (Option.some.inj (Tryd.func6.symm.trans hfn)).symm
  refine ⟨by kernel_rfl, fun j t ht => ?_⟩
  have hall : (Tryd.f6.params.toList.all fun u => !Tryd.prog.wantsStandIn u) = true := by kernel_rfl
  exact (show Tryd.prog.wantsStandIn t = false by simpa using List.all_eq_true.1 hall t (Array.mem_toList_iff.2 (Array.mem_of_getElem? ht)))
theorem pairBegins_card : Rows.PairBeginsCardSaid :=
  Claim7.holds_tied_plain_at .later [] _ _ _ _ said_pairBegins (fun _ h => by cases h) (by kernel_rfl) (fun _ h => by cases h) pairBegins_row_tie rfl ⟨rfl, rfl⟩ (by kernel_rfl) rfl plain_pairBegins (by kernel_rfl)
#print axioms pairBegins_card
end Go.Proofs.YtkkkjcpfahhhpaaDoor
