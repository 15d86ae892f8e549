/- The abstract machine, part 26: laws over package variables whose data the statement lists. Own text of this session. -/
import Derived.Test.YtkkkjcpfahhhpaaDoorAbs25
import Derived.Stop.Joined
import Derived.LaidMore
import Derived.FnData
set_option linter.unusedVariables false
set_option linter.unusedSimpArgs false
namespace Go.Abs
open Go Go.RowKit

section
variable {H : Type} {enc : TypeId × Value → H} {P : Program} {w : World} {base : Nat} {held : Bool} {sp : Nat → Bool}

/-- A variable of two integers and a text. -/
theorem trod_val {T n : Nat} {fs : Array Field} {f1 f2 f3 : Field} {cs : List Value} {p : List MemPlace} {a b : Int} {s : List UInt8} (ht : P.underlying T = some (.struct fs)) (hf : fs.toList = [f1, f2, f3])
    (o1 : f1.offset = 0) (o2 : f2.offset = 1) (o3 : f3.offset = 2) (c1 : P.cellsOf f1.type = 1) (c2 : P.cellsOf f2.type = 1) (c3 : P.cellsOf f3.type = 1) (cT : P.cellsOf T = 3)
    (u1 : P.underlying f1.type = some (.int .i64)) (u2 : P.underlying f2.type = some (.int .i64)) (u3 : P.underlying f3.type = some .string)
    (h : DataW.trod enc P w base sp held n T cs = some (.agg [.lit (.int .i64 a), .lit (.int .i64 b), .lit (.string s)], p)) : cs = [.int .i64 a, .int .i64 b, .string ⟨s.toArray⟩] := by
  cases n with
  | zero => simp [DataW.trod] at h
  | succ n =>
    unfold DataW.trod at h
    rw [ht] at h
    simp only [hf, List.mapM_cons, List.mapM_nil, o1, o2, o3, c1, c2, c3, cT] at h
    split at h
    case isFalse => cases h
    rename_i hl
    obtain ⟨v1, v2, v3, rfl⟩ : ∃ v1 v2 v3, cs = [v1, v2, v3] := by
      match cs, hl with
      | [v1, v2, v3], _ => exact ⟨v1, v2, v3, rfl⟩
    simp only [List.drop_zero, List.take_succ_cons, List.take_zero, List.drop_succ_cons] at h
    rw [Option.map_eq_some_iff] at h
    obtain ⟨xs, h1, h2⟩ := h
    simp only [Option.bind_eq_bind, Option.bind_eq_some_iff, Option.pure_def, Option.some.injEq] at h1
    obtain ⟨y1, g1, r, ⟨y2, g2, r', ⟨y3, g3, r'', hr'', hr'⟩, hr⟩, hxs⟩ := h1
    subst hxs; subst hr; subst hr'; subst hr''
    simp only [List.map_cons, List.map_nil, Prod.mk.injEq, DataW.agg.injEq, List.cons.injEq, and_true] at h2
    obtain ⟨⟨e1, e2, e3⟩, _⟩ := h2
    obtain ⟨i, q1, _⟩ := trod_int u1 g1
    obtain ⟨j, q2, _⟩ := trod_int u2 g2
    obtain ⟨t, q3, _⟩ := trod_str u3 g3
    simp only [List.cons.injEq, and_true] at q1 q2 q3
    subst q1; subst q2; subst q3
    cases n with
    | zero => simp [DataW.trod] at g1
    | succ n =>
      unfold DataW.trod at g1 g2 g3
      rw [u1] at g1; rw [u2] at g2; rw [u3] at g3
      simp only at g1 g2 g3
      split at g1
      case isFalse => cases g1
      split at g2
      case isFalse => cases g2
      have g3' : y3 = (.lit (.string t.data.toList), []) := by
        revert g3
        split
        · intro g3; first | exact (Option.some.inj g3).symm | cases g3
        · intro g3; first | exact (Option.some.inj g3).symm | cases g3
      cases g1; cases g2; subst g3'
      simp only [DataW.lit.injEq, Lit.int.injEq, Lit.string.injEq, true_and] at e1 e2 e3
      subst e1; subst e2; subst e3
      rfl

/-- What all that the world holds tells of such a variable. -/
theorem var_reads {name : String} {g : Nat} {cs : Array Value} (hg : P.globalNamed name = some g) (h : w.var? P name = some cs) : Reads (allV w) (some ⟨g, 0, none⟩) cs.toList := fun j v e =>
  ⟨g, 0, rfl, by
    have := World.var?_cell hg h j
    show w.cell? ⟨g, 0 + j, none⟩ = some v
    rw [Nat.zero_add, this, ← Array.getElem?_toList]; exact e⟩

/-- **A statement over package variables**: a function whose contract says that it answers true, whatever fits is handed in. -/
theorem law_ofD {a : Assume} {C : Checked} {os : Os} {f : FuncId} {fn : Func} {s : ChangeSpec} {conds : List PathCond} {apart fresh handsOn again : Bool} {S : Abs.Spec} {tb : Nat} {laid : List (String × DataW Unit)} {gl : List (Nat × AVal)}
    (own : ownKnob C.prog.godebug = none) (started : os.Started) (noInit : C.prog.inits.idxOf? f = none) (hfn : C.prog.funcs[f]? = some fn)
    (witness : ∃ (w : World) (tape : Tape) (i : Input), w.os = os ∧ (w.forCall tape i).Shaped C.prog ∧ i.vars = [] ∧ Input.okWide C.prog (w.forCall tape i) .any w.heap.size f i ∧
      ((s.pre enc C.prog fn conds apart (w.forCall tape i).memory i.args ∧ laidMetH C.prog laid (w.forCall tape i).memory) ∧ sizedMet enc C.prog fn (OpenSpec.ofChange s) apart (w.forCall tape i).memory i.args) ∧ a.holds C.prog (lone (Frame.enter C.prog f i.args .normal) [] (w.forCall tape i)))
    (hl : laidOutB C.prog = true) (hr : rowsOk C.prog fn.params.toList = true) (hvs : s.vars = []) (hrt : fn.resultTypes = #[tb]) (htb : C.prog.underlying tb = some .bool)
    (hargs : chkArgs C.prog S.ta fn.params.toList = true) (hS : SpecOK C.prog gl f S) (hgl : ∀ W, laidMetH C.prog laid W → GlobOk gl (allV W)) (hpre : ∀ x, wfD S.ta x = true → S.pre x = true) (hval : ∀ x, wfD S.ta x = true → resA S (S.val x) = .b true)
    (e1 : ∀ ds : List (DataW H), ds.length = fn.params.toList.length → (s.fn H ds).results = [.lit (.bool true)] ∧ (s.fn H ds).args = ds ∧ (s.fn H ds).vars = []) :
    ReturnsInHanded a C os f .any (fun w args => (s.pre enc C.prog fn conds apart w args ∧ laidMetH C.prog laid w) ∧ sizedMet enc C.prog fn (OpenSpec.ofChange s) apart w args) (s.post enc C.prog fn apart fresh handsOn again) := by
  refine returnsInHanded_of_change_and (X := fun w _ => laidMetH C.prog laid w) (fun _ _ _ hh h => h.of_heap hh) own started noInit hfn witness ?_
  intro W base args ds gs before hok hW _ _ hL _
  have hW0 := hW
  obtain ⟨p, q, hA, hV, _, _, _⟩ := hW0
  have hgs : gs = [] := by
    rw [hvs] at hV
    cases gs with
    | nil => rfl
    | cons => cases hV
  subst hgs
  obtain ⟨x, hx, wx⟩ := args_rep (b := base) hargs hA (fun j t v ht hv => hok j t v (by simpa using ht) (by simpa using hv))
  have hdl : ds.length = fn.params.toList.length   := (trodAll_length hA).2
  have hc := hS (allV W) W x args.toList (hpre x wx) (hgl W hL) (allV_ok W) hx
  rw [Array.toArray_toList] at hc
  refine Calls.mono hc fun e W' hh => ?_
  obtain ⟨v, V', he, h1, h2, h3, h4, h5⟩ := hh
  rw [hval x wx] at h4
  have hv : v = .bool true := by simpa [RepV, RepV1, RepCs] using h4
  subst hv
  obtain ⟨q1, q2, q3⟩ := e1 ds hdl
  exact ⟨_, he, law_post hl hr hvs hrt htb hW h5 (by simpa using q1) (by simpa using q2) (by simpa using q3)⟩
end
end Go.Abs
