/- The abstract machine, part 18: laws: from what is handed in, as the statements read it, to plain data; and back. Own text of this session. -/
import Derived.Test.YtkkkjcpfahhhpaaDoorAbs17
import Derived.Handed
import Derived.Carry
import Derived.WideKeyArgs
import Derived.ChangeSame
import Derived.ProofKit
import Derived.Deep.Slices
import Derived.WideShapes
import Derived.ChangeCalls
set_option linter.unusedVariables false
set_option linter.unusedSimpArgs false
namespace Go.Abs
open Go Go.RowKit

/-- What fits: integers in their range, nothing longer than memory is. -/
def wfD : (t : Ty) → t.den → Bool
  | .int k, n => (Lit.int k n).wf
  | .bool, _ => true
  | .str, s => decide (s.size ≤ maxLen)
  | .sl t, xs => decide (xs.length ≤ maxLen) && List.all xs (wfD t)
  | .un, _ => true
  | .pr a b, x => wfD a x.1 && wfD b x.2
  | .o1, _ => true

/-- No pointers, no maps. -/
def noO1 : Ty → Bool
  | .sl t => noO1 t
  | .pr a b => noO1 a && noO1 b
  | .o1 => false
  | _ => true

/-- All that the world holds. -/
def allV (w : World) : Vis := fun b o => w.cell? ⟨b, o, none⟩

theorem allV_ok (w : World) : VisOk (allV w) w := fun _ _ _ h => h

section
variable {H : Type} {enc : TypeId × Value → H} {P : Program} {w : World} {base : Nat} {held : Bool} {sp : Nat → Bool}

theorem trod_int {t k : _} {n : Nat} {cs : List Value} {x : DataW H × List MemPlace} (ht : P.underlying t = some (.int k)) (h : DataW.trod enc P w base sp held n t cs = some x) : ∃ i, cs = [.int k i] ∧ (Lit.int k i).wf = true := by
  cases n with
  | zero => simp [DataW.trod] at h
  | succ n =>
    unfold DataW.trod at h
    rw [ht] at h
    split at h <;> simp_all

theorem trod_bool {t : _} {n : Nat} {cs : List Value} {x : DataW H × List MemPlace} (ht : P.underlying t = some .bool) (h : DataW.trod enc P w base sp held n t cs = some x) : ∃ b, cs = [.bool b] := by
  cases n with
  | zero => simp [DataW.trod] at h
  | succ n =>
    unfold DataW.trod at h
    rw [ht] at h
    split at h <;> simp_all

theorem trod_str {t : _} {n : Nat} {cs : List Value} {x : DataW H × List MemPlace} (ht : P.underlying t = some .string) (h : DataW.trod enc P w base sp held n t cs = some x) : ∃ s, cs = [.string s] ∧ s.size ≤ maxLen := by
  cases n with
  | zero => simp [DataW.trod] at h
  | succ n =>
    unfold DataW.trod at h
    rw [ht] at h
    split at h <;> simp_all

theorem trod_struct {t fs : _} {n : Nat} {cs : List Value} {x : DataW H × List MemPlace} (ht : P.underlying t = some (.struct fs)) (h : DataW.trod enc P w base sp held n t cs = some x) :
    ∃ m xs, cs.length = P.cellsOf t ∧ (fs.toList.mapM fun f => DataW.trod enc P w base sp held m f.type ((cs.drop f.offset).take (P.cellsOf f.type))) = some xs := by
  cases n with
  | zero => simp [DataW.trod] at h
  | succ n =>
    unfold DataW.trod at h
    rw [ht] at h
    split at h <;> simp_all
    obtain ⟨h1, xs, h2, _⟩ := h
    exact ⟨n, xs, h2⟩

theorem add_add (a : Addr) (m n : Nat) : (a.add m).add n = a.add (m + n) := by
  unfold Addr.add
  by_cases h1 : m = 0 <;> by_cases h2 : n = 0 <;> simp [h1, h2, Nat.add_assoc]

theorem chk_cells {t : Ty} {T : Nat} (h : chk P t (.inl T) = true) : P.cellsOf T = t.size := by
  obtain ⟨i, hi, hs, _⟩ := chk_info h
  simp [Program.cellsOf, hi, hs]

/-- What a statement reads of a value is plain data. -/
theorem trod_rep : ∀ t : Ty, noO1 t = true →
    (∀ (T n : Nat) (cs : List Value) (x : DataW H × List MemPlace), chk P t (.inl T) = true → DataW.trod enc P w base sp held n T cs = some x → ∃ d : t.den, RepT (allV w) t d cs ∧ wfD t d = true) ∧
    (∀ (fs : List Field) (off n : Nat) (cs : List Value) (xs : List (DataW H × List MemPlace)), chk P t (.inr (fs, off)) = true → (fs.mapM fun f => DataW.trod enc P w base sp held n f.type ((cs.drop f.offset).take (P.cellsOf f.type))) = some xs → off + t.size = cs.length →
      ∃ d : t.den, RepT (allV w) t d (cs.drop off) ∧ wfD t d = true) := by
  intro t
  induction t with
  | int k =>
    intro _
    refine ⟨fun T n cs x hc h => ?_, fun fs off n cs xs hc => ?_⟩
    · obtain ⟨d, hu, _⟩ := chk_und hc
      have hk : P.underlying T = some (.int k) := by
        simp only [chk, Bool.and_eq_true] at hc
        obtain ⟨_, hc⟩ := hc
        split at hc
        · rename_i j hj; simp at hc; subst hc; exact hj
        · cases hc
      obtain ⟨i, rfl, hw⟩ := trod_int hk h
      exact ⟨i, rfl, hw⟩
    · cases fs <;> simp [chk] at hc
  | bool =>
    intro _
    refine ⟨fun T n cs x hc h => ?_, fun fs off n cs xs hc => ?_⟩
    · have hk : P.underlying T = some .bool := by
        simp only [chk, Bool.and_eq_true] at hc
        obtain ⟨_, hc⟩ := hc
        split at hc
        · assumption
        · cases hc
      obtain ⟨i, rfl⟩ := trod_bool hk h
      exact ⟨i, rfl, rfl⟩
    · cases fs <;> simp [chk] at hc
  | str =>
    intro _
    refine ⟨fun T n cs x hc h => ?_, fun fs off n cs xs hc => ?_⟩
    · have hk : P.underlying T = some .string := by
        simp only [chk, Bool.and_eq_true] at hc
        obtain ⟨_, hc⟩ := hc
        split at hc
        · assumption
        · cases hc
      obtain ⟨i, rfl, hw⟩ := trod_str hk h
      exact ⟨i, rfl, by simpa [wfD] using hw⟩
    · cases fs <;> simp [chk] at hc
  | sl u ih =>
    intro hn
    refine ⟨fun T n cs x hc h => ?_, fun fs off n cs xs hc => ?_⟩
    · simp only [chk, Bool.and_eq_true] at hc
      obtain ⟨_, hc⟩ := hc
      split at hc
      case h_2 => cases hc
      rename_i E hE
      have ih1 := (ih hn).1
      rcases Go.Deep.open_slice hE h with ⟨rfl, _⟩ | ⟨a, len, cap, m, n', D, Pl, rfl, hb, hl, hm, hmm, _, hx⟩
      · exact ⟨[], ⟨none, 0, [], rfl, Nat.le_refl _, rfl, fun j v hj => by simp at hj⟩, by simp [wfD]⟩
      have hlm : len ≤ m := by rw [hmm]; split <;> omega
      rw [chk_cells hc] at hx
      have key : ∀ k, k ≤ len → ∃ (ds : List u.den) (es : List Value), ds.length = k ∧ RepArr (RepT (allV w) u) ds es ∧ (∀ j v, es[j]? = some v → w.cell? (a.add j) = some v) ∧ ds.all (wfD u) = true := by
        intro k
        induction k with
        | zero => intro _; exact ⟨[], [], rfl, rfl, (fun j v hj => by simp at hj), rfl⟩
        | succ k ihk =>
          intro hk
          obtain ⟨ds, es, h1, h2, h3, h4⟩ := ihk (by omega)
          obtain ⟨c, hcc, hct⟩ := hx k (by omega)
          obtain ⟨d, hr, hw⟩ := ih1 _ _ _ _ hc hct
          obtain ⟨_, hcl, hcg⟩ := World.cells?_some hcc
          refine ⟨ds ++ [d], es ++ c, by simp [h1], h2.append ⟨c, [], by simp, hr, rfl⟩, fun j v hj => ?_, by simp [h4, hw]⟩
          have hel := RepArr.len (fun x cs h => RepT.len h) h2
          rw [List.getElem?_append] at hj
          split at hj
          · exact h3 j v hj
          · rename_i hge
            have hlt := (List.getElem?_eq_some_iff.1 hj).1
            have := hcg (j - es.length) (by omega)
            rw [hj, add_add] at this
            rw [← this]; congr 2
            rw [hel, h1] at hge ⊢; omega
      obtain ⟨ds, es, h1, h2, h3, h4⟩ := key len (Nat.le_refl _)
      refine ⟨ds, ⟨some a, cap, es, by rw [h1], by omega, h2, fun j v hj => ?_⟩, by simp only [wfD, Bool.and_eq_true, decide_eq_true_eq]; exact ⟨by omega, h4⟩⟩
      have hcell := h3 j v hj
      have h0 : 0 < es.length := by have := (List.getElem?_eq_some_iff.1 hj).1; omega
      have hsp := World.cell?_spot (h3 0 es[0] (by rw [List.getElem?_eq_getElem h0]))
      obtain ⟨bl, off, spt⟩ := a
      simp only [Addr.add, if_pos] at hsp
      subst hsp
      refine ⟨bl, off, rfl, ?_⟩
      by_cases hj0 : j = 0
      · subst hj0; simpa [Addr.add, allV] using hcell
      · simpa [Addr.add, hj0, allV] using hcell
    · cases fs <;> simp [chk] at hc
  | un =>
    intro _
    refine ⟨fun T n cs x hc h => ?_, fun fs off n cs xs hc h hl => ?_⟩
    · have hce := chk_cells hc
      simp only [chk, Bool.and_eq_true] at hc
      obtain ⟨_, _, hc⟩ := hc
      split at hc
      case h_2 => cases hc
      rename_i fs hfs
      obtain ⟨m, xs, h1, h2⟩ := trod_struct hfs h
      rw [hce] at h1
      exact ⟨(), List.length_eq_zero_iff.1 h1, rfl⟩
    · refine ⟨(), ?_, rfl⟩
      show cs.drop off = []
      rw [List.drop_eq_nil_iff]
      simp [Ty.size] at hl; omega
  | pr a b iha ihb =>
    intro hn
    simp only [noO1, Bool.and_eq_true] at hn
    refine ⟨fun T n cs x hc h => ?_, fun fs off n cs xs hc h hl => ?_⟩
    · have hce := chk_cells hc
      simp only [chk, Bool.and_eq_true] at hc
      obtain ⟨_, _, hc⟩ := hc
      split at hc
      case h_2 => cases hc
      rename_i fs hfs
      split at hc
      case h_2 => cases hc
      rename_i f r hfr
      simp only [Bool.and_eq_true, beq_iff_eq] at hc
      obtain ⟨ho, _, _, hca, hcb⟩ := hc
      obtain ⟨m, xs, h1, h2⟩ := trod_struct hfs h
      rw [hfr, List.mapM_cons] at h2
      simp only [Option.bind_eq_bind, Option.bind_eq_some_iff] at h2
      obtain ⟨y, hy, ys, hys, _⟩ := h2
      rw [ho, List.drop_zero, chk_cells hca] at hy
      rw [hce] at h1
      simp only [Ty.size] at h1
      obtain ⟨d1, r1, w1⟩ := (iha hn.1).1 _ _ _ _ hca hy
      obtain ⟨d2, r2, w2⟩ := (ihb hn.2).2 _ _ _ cs _ hcb hys (by omega)
      exact ⟨(d1, d2), ⟨cs.take a.size, cs.drop a.size, (List.take_append_drop _ _).symm, r1, r2⟩, by simp [wfD, w1, w2]⟩
    · cases fs with
      | nil => simp [chk] at hc
      | cons f r =>
        simp only [chk, Bool.and_eq_true, beq_iff_eq] at hc
        obtain ⟨ho, _, _, hca, hcb⟩ := hc
        rw [List.mapM_cons] at h
        simp only [Option.bind_eq_bind, Option.bind_eq_some_iff] at h
        obtain ⟨y, hy, ys, hys, _⟩ := h
        rw [ho, chk_cells hca] at hy
        simp only [Ty.size] at hl
        obtain ⟨d1, r1, w1⟩ := (iha hn.1).1 _ _ _ _ hca hy
        obtain ⟨d2, r2, w2⟩ := (ihb hn.2).2 _ _ _ cs _ hcb hys (by omega)
        refine ⟨(d1, d2), ⟨(cs.drop off).take a.size, cs.drop (off + a.size), ?_, r1, r2⟩, by simp [wfD, w1, w2]⟩
        rw [← List.drop_drop, List.take_append_drop]
  | o1 => intro h; cases h

/-- A value and its cells. -/
theorem rep_value {V : Vis} {t : Ty} {d : t.den} {T b : Nat} {v : Value} (hn : noO1 t = true) (hc : chk P t (.inl T) = true) (hv : Value.okWide P w .any b T v) (h : RepT V t d v.cells.toList) : RepV1 (bare V) (Abs.enc t d) v := by
  obtain ⟨k, hk, hs⟩ := chk_und hc
  have hcs := repCs_enc (x := bare V) h
  cases t with
  | pr p q =>
    cases k <;> (try (cases hs; done))
    obtain ⟨cs, rfl, _⟩ := Go.WideShapes.okWide_struct hk hv
    exact ⟨cs.toList, by simp, hcs⟩
  | un =>
    cases k <;> (try (cases hs; done))
    obtain ⟨cs, rfl, _⟩ := Go.WideShapes.okWide_struct hk hv
    have : cs.toList = [] := h
    show Value.agg cs = .agg #[]
    rw [← Array.toList_eq_nil_iff.1 this]
  | o1 => cases hn
  | int i =>
    simp only [chk, Bool.and_eq_true] at hc
    obtain ⟨_, hc⟩ := hc
    split at hc
    case h_2 => cases hc
    rename_i j hj
    obtain ⟨n, rfl⟩ := Go.WideShapes.okWide_int hj hv
    exact hcs
  | bool =>
    simp only [chk, Bool.and_eq_true] at hc
    obtain ⟨_, hc⟩ := hc
    split at hc
    case h_2 => cases hc
    rename_i hj
    obtain ⟨n, rfl⟩ := Go.WideShapes.okWide_bool hj hv
    exact hcs
  | str =>
    simp only [chk, Bool.and_eq_true] at hc
    obtain ⟨_, hc⟩ := hc
    split at hc
    case h_2 => cases hc
    rename_i hj
    obtain ⟨n, rfl⟩ := Go.WideShapes.okWide_string hj hv
    exact hcs
  | sl u =>
    simp only [chk, Bool.and_eq_true] at hc
    obtain ⟨_, hc⟩ := hc
    split at hc
    case h_2 => cases hc
    rename_i hj
    obtain ⟨a, l, c, rfl⟩ := Go.WideShapes.okWide_slice hj hv
    exact hcs

/-- The types of what is handed in. -/
def chkArgs (P : Program) : Ty → List Nat → Bool
  | .un, [] => true
  | .pr a b, t :: ts => noO1 a && (chk P a (.inl t) && chkArgs P b ts)
  | _, _ => false

theorem args_rep {b : Nat} : ∀ {ta : Ty} {ts : List Nat} {vs : List Value} {ds : List (DataW H)} {ps : List MemPlace}, chkArgs P ta ts = true → DataW.TrodAll enc P w 0 (fun _ => true) true ts vs ds ps →
    (∀ (j : Nat) (t : Nat) (v : Value), ts[j]? = some t → vs[j]? = some v → Value.okWide P w .any b t v) → ∃ x : ta.den, RepTup (bare (allV w)) (Abs.enc ta x) vs ∧ wfD ta x = true
  | .un, [], [], [], _, _, _, _ => ⟨(), rfl, rfl⟩
  | .pr p q, t :: ts, v :: vs, d :: ds, ps, hc, ⟨p1, p2, h1, h2, _⟩, hv => by
    simp only [chkArgs, Bool.and_eq_true] at hc
    obtain ⟨n, hn⟩ := h1
    obtain ⟨x, hx, wx⟩ := (trod_rep p hc.1).1 _ _ _ _ hc.2.1 hn
    obtain ⟨y, hy, wy⟩ := args_rep hc.2.2 h2 (fun j t v ht hvj => hv (j + 1) t v (by simpa using ht) (by simpa using hvj))
    exact ⟨(x, y), ⟨v, vs, rfl, rep_value hc.1 hc.2.1 (hv 0 t v rfl rfl) hx, hy⟩, by simp [wfD, wx, wy]⟩
  | .un, [], _ :: _, _, _, _, h, _ => by cases h
  | .un, [], [], _ :: _, _, _, h, _ => by cases h
  | .un, _ :: _, _, _, _, h, _, _ => by cases h
  | .pr _ _, [], _, _, _, h, _, _ => by cases h
  | .pr _ _, _ :: _, [], _, _, _, h, _ => by cases h
  | .pr _ _, _ :: _, _ :: _, [], _, _, h, _ => by cases h
  | .int _, l, _, _, _, h, _, _ => by cases l <;> cases h
  | .bool, l, _, _, _, h, _, _ => by cases l <;> cases h
  | .str, l, _, _, _, h, _, _ => by cases l <;> cases h
  | .sl _, l, _, _, _, h, _, _ => by cases l <;> cases h
  | .o1, l, _, _, _, h, _, _ => by cases l <;> cases h

/-! ### Behind the call -/
def rowsOk (P : Program) : List Nat → Bool
  | [] => true
  | t :: ts => P.readableRec t && (decide (t < P.types.size) && rowsOk P ts)

theorem trodAll_stays {W W' : World} {sp' : Nat → Bool} (hl : laidOutB P = true) : ∀ {ts : List Nat} {vs : List Value} {ds : List (DataW H)} {ps : List MemPlace}, rowsOk P ts = true →
    DataW.TrodAll enc P W 0 (fun _ => true) true ts vs ds ps → (∀ p ∈ ps, W.sameAt W' p) → (∀ p ∈ ps, sp' p.block = true) → DataW.TrodAll enc P W' 0 sp' true ts vs ds ps
  | [], [], [], _, _, h, _, _ => h
  | t :: ts, v :: vs, d :: ds, ps, hr, ⟨p, q, h1, h2, e⟩, hs, hp => by
    simp only [rowsOk, Bool.and_eq_true, decide_eq_true_eq] at hr
    subst e
    exact ⟨p, q, WideElems.Trod_stays hl hr.1 hr.2.1 h1 (fun x hx => hs x (List.mem_append_left _ hx)) (fun x hx => hp x (List.mem_append_left _ hx)),
      trodAll_stays hl hr.2.2 h2 (fun x hx => hs x (List.mem_append_right _ hx)) (fun x hx => hp x (List.mem_append_right _ hx)), rfl⟩

/-- What a statement that came true leaves. -/
theorem law_post {f : Func} {s : ChangeSpec} {apart fresh handsOn again : Bool} {W W' : World} {args : Array Value} {ds gs : List (DataW H)} {before : List MemPlace} {tb : Nat}
    (hl : laidOutB P = true) (hr : rowsOk P f.params.toList = true) (hvs : s.vars = []) (hrt : f.resultTypes = #[tb]) (htb : P.underlying tb = some .bool)
    (hW : DataW.Whole enc P f.params.toList s.vars apart W args.toList ds gs before) (hb : Below W.heap.size W W')
    (e1 : (s.fn H (ds ++ gs)).results = [.lit (.bool true)]) (e2 : (s.fn H (ds ++ gs)).args = ds) (e3 : (s.fn H (ds ++ gs)).vars = []) :
    s.post enc P f apart fresh handsOn again W args (.bool true) W' := by
  have hlt := hW.lt
  have hW0 := hW
  obtain ⟨p, q, hA, hV, rfl, hfz, hnd⟩ := hW0
  have hq : gs = [] ∧ q = [] := by
    rw [hvs] at hV
    cases gs with
    | nil => exact ⟨rfl, hV⟩
    | cons => cases hV
  obtain ⟨rfl, rfl⟩ := hq
  rw [List.append_nil] at hlt hfz hnd
  have hsame : ∀ x ∈ p, W.sameAt W' x := fun x hx => hb.same (hlt x hx)
  have hres : ∀ (b : Nat) (sp : Nat → Bool) (hd : Bool), DataW.TrodAll enc P W' b sp hd f.resultTypes.toList ((Value.bool true).resultList f.resultTypes.size) (s.fn H (ds ++ [])).results [] := by
    intro b sp hd
    rw [e1, hrt]
    exact ⟨[], [], ⟨1, by unfold DataW.trod; simp [htb, Value.cells]⟩, rfl, rfl⟩
  have hargs : ∀ sp : Nat → Bool, (∀ x ∈ p, sp x.block = true) → DataW.TrodAll enc P W' 0 sp true f.params.toList args.toList (s.fn H (ds ++ [])).args p := by
    intro sp hsp
    rw [e2]
    exact trodAll_stays hl hr hA hsame hsp
  have hvars : ∀ sp : Nat → Bool, DataW.TrodVars enc P W' sp s.vars (s.fn H (ds ++ [])).vars [] := by
    intro sp
    rw [e3, hvs]; rfl
  refine ⟨ds, [], p ++ [], [], p, [], hW, hres _ _ _, hargs _ (fun x hx => by simpa using hlt x hx), hvars _, hb.frame _, fun _ => ⟨?_, ?_⟩⟩
  · intro j t r hj hr'
    rw [hrt] at hj hr'
    cases j with
    | zero =>
      simp at hj
      subst hj
      simp [Value.resultList] at hr'
      subst hr'
      unfold Value.okWide
      rw [htb]
      unfold Cell.okWide
      rw [htb]
      unfold Cell.ok
      rw [htb]
      trivial
    | succ j => simp at hj
  · refine ⟨(s.fn H (ds ++ [])).results ++ (s.fn H (ds ++ [])).args, (s.fn H (ds ++ [])).vars, p ++ [], ⟨p, [], ?_, hvars _, rfl, ?_, ?_⟩, fun x hx _ => hx⟩
    · exact Go.ChangeShapes.trodAll_append (hargs (fun _ => true) (fun _ _ => rfl)) (hres 0 (fun _ => true) true)
    · intro b off hp
      rw [List.append_nil] at hp
      rw [hb.frozen (p := ⟨b, off, none⟩) (hlt _ hp)]
      exact hfz b off hp
    · intro ha; rw [List.append_nil]; exact hnd ha
end

/-- **A statement**: a function whose contract says that it answers true, whatever fits is handed in. -/
theorem law_of {H : Type} {enc : TypeId × Value → H} {a : Assume} {C : Checked} {os : Os} {f : FuncId} {fn : Func} {s : ChangeSpec} {conds : List PathCond} {apart fresh handsOn again : Bool} {S : Abs.Spec} {tb : Nat}
    (own : ownKnob C.prog.godebug = none) (started : os.Started) (noInit : C.prog.inits.idxOf? f = none) (hfn : C.prog.funcs[f]? = some fn)
    (witness : ∃ (w : World) (tape : Tape) (i : Input), w.os = os ∧ (w.forCall tape i).Shaped C.prog ∧ i.vars = [] ∧ Input.okWide C.prog (w.forCall tape i) .any w.heap.size f i ∧
      s.pre6 enc C.prog fn conds apart (w.forCall tape i).memory i.args ∧ a.holds C.prog (lone (Frame.enter C.prog f i.args .normal) [] (w.forCall tape i)))
    (hl : laidOutB C.prog = true) (hr : rowsOk C.prog fn.params.toList = true) (hvs : s.vars = []) (hrt : fn.resultTypes = #[tb]) (htb : C.prog.underlying tb = some .bool)
    (hargs : chkArgs C.prog S.ta fn.params.toList = true) (hS : SpecOK C.prog [] f S) (hpre : ∀ x, wfD S.ta x = true → S.pre x = true) (hval : ∀ x, wfD S.ta x = true → resA S (S.val x) = .b true)
    (e1 : ∀ ds : List (DataW H), ds.length = fn.params.toList.length → (s.fn H ds).results = [.lit (.bool true)] ∧ (s.fn H ds).args = ds ∧ (s.fn H ds).vars = []) :
    ReturnsInHanded a C os f .any (s.pre6 enc C.prog fn conds apart) (s.post enc C.prog fn apart fresh handsOn again) := by
  refine returnsInHanded_of_change own started noInit hfn witness ?_
  intro W base args ds gs before hok hW _ _
  have hW0 := hW
  obtain ⟨p, q, hA, hV, _, _, _⟩ := hW0
  have hgs : gs = [] := by
    rw [hvs] at hV
    cases gs with
    | nil => rfl
    | cons => cases hV
  subst hgs
  obtain ⟨x, hx, wx⟩ := args_rep (b := base) hargs hA (fun j t v ht hv => hok j t v (by simpa using ht) (by simpa using hv))
  have hdl : ds.length = fn.params.toList.length   := (trodAll_length hA).2
  have hc := hS (allV W) W x args.toList (hpre x wx) (fun g A h => by cases h) (allV_ok W) hx
  rw [Array.toArray_toList] at hc
  refine Calls.mono hc fun e W' hh => ?_
  obtain ⟨v, V', he, h1, h2, h3, h4, h5⟩ := hh
  rw [hval x wx] at h4
  have hv : v = .bool true := by simpa [RepV, RepV1, RepCs] using h4
  subst hv
  obtain ⟨q1, q2, q3⟩ := e1 ds hdl
  exact ⟨_, he, law_post hl hr hvs hrt htb hW h5 (by simpa using q1) (by simpa using q2) (by simpa using q3)⟩
end Go.Abs
