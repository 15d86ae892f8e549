/- Statements of whatever size: what is handed in keeps within the form's own reach. Own text of this session. -/
import Derived.Test.YtkkkjcpfahhhpaaDoorAbs26
import Derived.SizedLaws
set_option linter.unusedVariables false
set_option linter.unusedSimpArgs false
namespace Go.Abs
open Go Go.RowKit Go.ChangeShapes Go.WideShapes Go.ChangeAt

/-- The elements of its slices are at least so great. -/
def chkB (P : Program) (bt : Ty → Nat) : Ty → Nat ⊕ List Field → Bool
  | .sl u, .inl T => (match P.underlying T with | some (.slice E) => decide (bt u ≤ P.bytesOf E) && chkB P bt u (.inl E) | _ => false)
  | .sl _, .inr _ => false
  | .pr a b, .inl T => (match P.underlying T with | some (.struct fs) => (match fs.toList with | f :: r => chkB P bt a (.inl f.type) && chkB P bt b (.inr r) | [] => false) | _ => false)
  | .pr a b, .inr (f :: r) => chkB P bt a (.inl f.type) && chkB P bt b (.inr r)
  | .pr _ _, .inr [] => false
  | .int _, _ => true
  | .bool, _ => true
  | .str, _ => true
  | .un, _ => true
  | .o1, _ => true
def chkBArgs (P : Program) (bt : Ty → Nat) : Ty → List Nat → Bool
  | .un, [] => true
  | .pr a b, t :: ts => chkB P bt a (.inl t) && chkBArgs P bt b ts
  | _, _ => false
/-- No slice takes more bytes than the form reaches. -/
def szD (bt : Ty → Nat) : (t : Ty) → t.den → Bool
  | .sl t, xs => decide (List.length xs * bt t ≤ reachBytes) && List.all xs (szD bt t)
  | .pr a b, x => szD bt a x.1 && szD bt b x.2
  | .int _, _ => true
  | .bool, _ => true
  | .str, s => decide (s.size ≤ reachBytes)
  | .un, _ => true
  | .o1, _ => true
section
variable {H : Type} {enc : TypeId × Value → H} {P : Program} {w : World} {base : Nat} {held : Bool} {sp : Nat → Bool}
theorem weightsAll_mem {e : TypeId} : ∀ {l : List (DataW H)} {d : DataW H}, d ∈ l → ∀ {y : Nat}, y ∈ d.weights P e → y ∈ DataW.weightsAll P e l
  | d' :: l, d, hd, y, hy => by
    simp only [DataW.weightsAll, List.mem_append]
    rcases List.mem_cons.1 hd with rfl | hd
    · exact .inl hy
    · exact .inr (weightsAll_mem hd hy)
theorem trod_str' {t : _} {n : Nat} {cs : List Value} {x : DataW H × List MemPlace} (ht : P.underlying t = some .string) (h : DataW.trod enc P w base sp held n t cs = some x) : ∃ s, cs = [.string s] ∧ s.size ≤ maxLen ∧ x.1 = .lit (.string s.data.toList) := by
  cases n with
  | zero => simp [DataW.trod] at h
  | succ n =>
    unfold DataW.trod at h
    rw [ht] at h
    split at h <;> simp_all
    rw [← h.2]
theorem trod_struct' {t fs : _} {n : Nat} {cs : List Value} {x : DataW H × List MemPlace} (ht : P.underlying t = some (.struct fs)) (h : DataW.trod enc P w base sp held n t cs = some x) :
    ∃ m xs, cs.length = P.cellsOf t ∧ (fs.toList.mapM fun f => DataW.trod enc P w base sp held m f.type ((cs.drop f.offset).take (P.cellsOf f.type))) = some xs ∧ x.1 = .agg (xs.map (·.1)) := by
  cases n with
  | zero => simp [DataW.trod] at h
  | succ n =>
    unfold DataW.trod at h
    rw [ht] at h
    split at h <;> simp_all
    obtain ⟨h1, xs, h2, h3⟩ := h
    exact ⟨n, xs, h2, by rw [← h3]⟩

/-- What a statement reads of a value is plain data. -/
theorem trod_sz {bt : Ty → Nat} : ∀ t : Ty, noO1 t = true →
    (∀ (T n : Nat) (cs : List Value) (x : DataW H × List MemPlace), chk P t (.inl T) = true → chkB P bt t (.inl T) = true → DataW.trod enc P w base sp held n T cs = some x → (x.1.weights P T).all (· ≤ reachBytes) = true → ∃ d : t.den, RepT (allV w) t d cs ∧ wfD t d = true ∧ szD bt t d = true) ∧
    (∀ (fs : List Field) (off n : Nat) (cs : List Value) (xs : List (DataW H × List MemPlace)), chk P t (.inr (fs, off)) = true → (fs.mapM fun f => DataW.trod enc P w base sp held n f.type ((cs.drop f.offset).take (P.cellsOf f.type))) = some xs → chkB P bt t (.inr fs) = true → (DataW.weightsEach P (fs.map (·.type)) (xs.map (·.1))).all (· ≤ reachBytes) = true → off + t.size = cs.length →
      ∃ d : t.den, RepT (allV w) t d (cs.drop off) ∧ wfD t d = true ∧ szD bt t d = true) := by
  intro t
  induction t with
  | int k =>
    intro _
    refine ⟨fun T n cs x hc hcb h hz => ?_, fun fs off n cs xs hc => ?_⟩
    · obtain ⟨d, hu, _⟩ := chk_und hc
      have hk : P.underlying T = some (.int k) := by
        simp only [chk, Bool.and_eq_true] at hc
        obtain ⟨_, hc⟩ := hc
        split at hc
        · rename_i j hj; simp at hc; subst hc; exact hj
        · cases hc
      obtain ⟨i, rfl, hw⟩ := trod_int hk h
      exact ⟨i, rfl, hw, rfl⟩
    · cases fs <;> simp [chk] at hc
  | bool =>
    intro _
    refine ⟨fun T n cs x hc hcb h hz => ?_, fun fs off n cs xs hc => ?_⟩
    · have hk : P.underlying T = some .bool := by
        simp only [chk, Bool.and_eq_true] at hc
        obtain ⟨_, hc⟩ := hc
        split at hc
        · assumption
        · cases hc
      obtain ⟨i, rfl⟩ := trod_bool hk h
      exact ⟨i, rfl, rfl, rfl⟩
    · cases fs <;> simp [chk] at hc
  | str =>
    intro _
    refine ⟨fun T n cs x hc hcb h hz => ?_, fun fs off n cs xs hc => ?_⟩
    · have hk : P.underlying T = some .string := by
        simp only [chk, Bool.and_eq_true] at hc
        obtain ⟨_, hc⟩ := hc
        split at hc
        · assumption
        · cases hc
      obtain ⟨i, rfl, hw, hx⟩ := trod_str' hk h
      refine ⟨i, rfl, by simpa [wfD] using hw, ?_⟩
      rw [hx] at hz
      have := List.all_eq_true.1 hz (i.data.toList.length) (by simp [DataW.weights])
      simpa [szD] using this
    · cases fs <;> simp [chk] at hc
  | sl u ih =>
    intro hn
    refine ⟨fun T n cs x hc hcb h hz => ?_, fun fs off n cs xs hc => ?_⟩
    · simp only [chk, Bool.and_eq_true] at hc
      obtain ⟨_, hc⟩ := hc
      split at hc
      case h_2 => cases hc
      rename_i E hE
      have ih1 := (ih hn).1
      rcases Go.Deep.open_slice hE h with ⟨rfl, _⟩ | ⟨a, len, cap, m, n', D, Pl, rfl, hb, hl, hm, hmm, rfl, hx⟩
      · exact ⟨[], ⟨none, 0, [], rfl, Nat.le_refl _, rfl, fun j v hj => by simp at hj⟩, by simp [wfD], by simp [szD]⟩
      have hlm : len ≤ m := by rw [hmm]; split <;> omega
      rw [chk_cells hc] at hx
      simp only [chkB, hE, Bool.and_eq_true, decide_eq_true_eq] at hcb
      have hz0 : (len + (m - len)) * P.bytesOf E ≤ reachBytes := by
        have := List.all_eq_true.1 hz ((len + (m - len)) * P.bytesOf E) (by simp [DataW.weights, hE])
        simpa using this
      have hzi : ∀ i, i < len → ((D i).weights P E).all (· ≤ reachBytes) = true := fun i hi => by
        rw [List.all_eq_true]
        intro y hy
        refine List.all_eq_true.1 hz y ?_
        simp only [DataW.weights, hE, List.mem_cons, List.mem_append]
        exact .inr (.inl (weightsAll_mem (List.mem_map.2 ⟨i, List.mem_range.2 hi, rfl⟩) hy))
      have key : ∀ k, k ≤ len → ∃ (ds : List u.den) (es : List Value), ds.length = k ∧ RepArr (RepT (allV w) u) ds es ∧ (∀ j v, es[j]? = some v → w.cell? (a.add j) = some v) ∧ ds.all (wfD u) = true ∧ ds.all (szD bt u) = true := by
        intro k
        induction k with
        | zero => intro _; exact ⟨[], [], rfl, rfl, (fun j v hj => by simp at hj), rfl, rfl⟩
        | succ k ihk =>
          intro hk
          obtain ⟨ds, es, h1, h2, h3, h4, h5⟩ := ihk (by omega)
          obtain ⟨c, hcc, hct⟩ := hx k (by omega)
          obtain ⟨d, hr, hw, hs⟩ := ih1 _ _ _ _ hc hcb.2 hct (hzi k (by omega))
          obtain ⟨_, hcl, hcg⟩ := World.cells?_some hcc
          refine ⟨ds ++ [d], es ++ c, by simp [h1], h2.append ⟨c, [], by simp, hr, rfl⟩, fun j v hj => ?_, by simp [h4, hw], by simp [h5, hs]⟩
          have hel := RepArr.len (fun x cs h => RepT.len h) h2
          rw [List.getElem?_append] at hj
          split at hj
          · exact h3 j v hj
          · rename_i hge
            have hlt := (List.getElem?_eq_some_iff.1 hj).1
            have := hcg (j - es.length) (by omega)
            rw [hj, add_add] at this
            rw [← this]; congr 2
            rw [hel, h1] at hge ⊢; omega
      obtain ⟨ds, es, h1, h2, h3, h4, h5⟩ := key len (Nat.le_refl _)
      refine ⟨ds, ⟨some a, cap, es, by rw [h1], by omega, h2, fun j v hj => ?_⟩, by simp only [wfD, Bool.and_eq_true, decide_eq_true_eq]; exact ⟨by omega, h4⟩, by
        simp only [szD, Bool.and_eq_true, decide_eq_true_eq]
        refine ⟨Nat.le_trans ?_ hz0, h5⟩
        rw [h1]
        exact Nat.mul_le_mul (by omega) hcb.1⟩
      have hcell := h3 j v hj
      have h0 : 0 < es.length := by have := (List.getElem?_eq_some_iff.1 hj).1; omega
      have hsp := World.cell?_spot (h3 0 es[0] (by rw [List.getElem?_eq_getElem h0]))
      obtain ⟨bl, off, spt⟩ := a
      simp only [Addr.add, if_pos] at hsp
      subst hsp
      refine ⟨bl, off, rfl, ?_⟩
      by_cases hj0 : j = 0
      · subst hj0; simpa [Addr.add, allV] using hcell
      · simpa [Addr.add, hj0, allV] using hcell
    · cases fs <;> simp [chk] at hc
  | un =>
    intro _
    refine ⟨fun T n cs x hc hcb h hz => ?_, fun fs off n cs xs hc h hcb hz hl => ?_⟩
    · have hce := chk_cells hc
      simp only [chk, Bool.and_eq_true] at hc
      obtain ⟨_, _, hc⟩ := hc
      split at hc
      case h_2 => cases hc
      rename_i fs hfs
      obtain ⟨m, xs, h1, h2⟩ := trod_struct hfs h
      rw [hce] at h1
      exact ⟨(), List.length_eq_zero_iff.1 h1, rfl, rfl⟩
    · refine ⟨(), ?_, rfl, rfl⟩
      show cs.drop off = []
      rw [List.drop_eq_nil_iff]
      simp [Ty.size] at hl; omega
  | pr a b iha ihb =>
    intro hn
    simp only [noO1, Bool.and_eq_true] at hn
    refine ⟨fun T n cs x hc hcb h hz => ?_, fun fs off n cs xs hc h hcb hz hl => ?_⟩
    · have hce := chk_cells hc
      simp only [chk, Bool.and_eq_true] at hc
      obtain ⟨_, _, hc⟩ := hc
      split at hc
      case h_2 => cases hc
      rename_i fs hfs
      split at hc
      case h_2 => cases hc
      rename_i f r hfr
      simp only [Bool.and_eq_true, beq_iff_eq] at hc
      obtain ⟨ho, _, _, hca, hcb0⟩ := hc
      obtain ⟨m, xs, h1, h2, h3⟩ := trod_struct' hfs h
      rw [hfr, List.mapM_cons] at h2
      simp only [Option.bind_eq_bind, Option.bind_eq_some_iff] at h2
      obtain ⟨y, hy, ys, hys, hxy⟩ := h2
      have hxy' : xs = y :: ys := (Option.some.inj hxy).symm
      subst hxy'
      have hz1 : (DataW.weightsEach P (fs.toList.map (·.type)) ((y :: ys).map (·.1))).all (· ≤ reachBytes) = true := by
        rw [h3] at hz
        simpa only [DataW.weights, hfs] using hz
      rw [hfr, List.map_cons, List.map_cons] at hz1
      simp only [DataW.weightsEach, List.all_append, Bool.and_eq_true] at hz1
      simp only [chkB, hfs, hfr, Bool.and_eq_true] at hcb
      rw [ho, List.drop_zero, chk_cells hca] at hy
      rw [hce] at h1
      simp only [Ty.size] at h1
      obtain ⟨d1, r1, w1, z1⟩ := (iha hn.1).1 _ _ _ _ hca hcb.1 hy hz1.1
      obtain ⟨d2, r2, w2, z2⟩ := (ihb hn.2).2 _ _ _ cs _ hcb0 hys hcb.2 hz1.2 (by omega)
      exact ⟨(d1, d2), ⟨cs.take a.size, cs.drop a.size, (List.take_append_drop _ _).symm, r1, r2⟩, by simp [wfD, w1, w2], by simp [szD, z1, z2]⟩
    · cases fs with
      | nil => simp [chk] at hc
      | cons f r =>
        simp only [chk, Bool.and_eq_true, beq_iff_eq] at hc
        obtain ⟨ho, _, _, hca, hcb0⟩ := hc
        rw [List.mapM_cons] at h
        simp only [Option.bind_eq_bind, Option.bind_eq_some_iff] at h
        obtain ⟨y, hy, ys, hys, hxy⟩ := h
        have hxy' : xs = y :: ys := (Option.some.inj hxy).symm
        subst hxy'
        rw [List.map_cons, List.map_cons] at hz
        simp only [DataW.weightsEach, List.all_append, Bool.and_eq_true] at hz
        simp only [chkB, Bool.and_eq_true] at hcb
        rw [ho, chk_cells hca] at hy
        simp only [Ty.size] at hl
        obtain ⟨d1, r1, w1, z1⟩ := (iha hn.1).1 _ _ _ _ hca hcb.1 hy hz.1
        obtain ⟨d2, r2, w2, z2⟩ := (ihb hn.2).2 _ _ _ cs _ hcb0 hys hcb.2 hz.2 (by omega)
        refine ⟨(d1, d2), ⟨(cs.drop off).take a.size, cs.drop (off + a.size), ?_, r1, r2⟩, by simp [wfD, w1, w2], by simp [szD, z1, z2]⟩
        rw [← List.drop_drop, List.take_append_drop]
  | o1 => intro h; cases h


theorem args_sz {bt : Ty → Nat} {b : Nat} : ∀ {ta : Ty} {ts : List Nat} {vs : List Value} {ds : List (DataW H)} {ps : List MemPlace}, chkArgs P ta ts = true → chkBArgs P bt ta ts = true → DataW.TrodAll enc P w 0 (fun _ => true) true ts vs ds ps →
    (∀ (j : Nat) (t : Nat) (v : Value), ts[j]? = some t → vs[j]? = some v → Value.okWide P w .any b t v) → (DataW.weightsEach P ts ds).all (· ≤ reachBytes) = true → ∃ x : ta.den, RepTup (bare (allV w)) (Abs.enc ta x) vs ∧ wfD ta x = true ∧ szD bt ta x = true
  | .un, [], [], [], _, _, _, _, _, _ => ⟨(), rfl, rfl, rfl⟩
  | .pr p q, t :: ts, v :: vs, d :: ds, ps, hc, hcb, ⟨p1, p2, h1, h2, _⟩, hv, hz => by
    simp only [chkArgs, Bool.and_eq_true] at hc
    simp only [chkBArgs, Bool.and_eq_true] at hcb
    simp only [DataW.weightsEach, List.all_append, Bool.and_eq_true] at hz
    obtain ⟨n, hn⟩ := h1
    obtain ⟨x, hx, wx, zx⟩ := (trod_sz p hc.1).1 _ _ _ _ hc.2.1 hcb.1 hn hz.1
    obtain ⟨y, hy, wy, zy⟩ := args_sz hc.2.2 hcb.2 h2 (fun j t v ht hvj => hv (j + 1) t v (by simpa using ht) (by simpa using hvj)) hz.2
    exact ⟨(x, y), ⟨v, vs, rfl, rep_value hc.1 hc.2.1 (hv 0 t v rfl rfl) hx, hy⟩, by simp [wfD, wx, wy], by simp [szD, zx, zy]⟩
  | .un, [], _ :: _, _, _, _, _, h, _, _ => by cases h
  | .un, [], [], _ :: _, _, _, _, h, _, _ => by cases h
  | .un, _ :: _, _, _, _, h, _, _, _, _ => by cases h
  | .pr _ _, [], _, _, _, h, _, _, _, _ => by cases h
  | .pr _ _, _ :: _, [], _, _, _, _, h, _, _ => by cases h
  | .pr _ _, _ :: _, _ :: _, [], _, _, _, h, _, _ => by cases h
theorem weights_front {us : List TypeId} : ∀ {ts : List TypeId} {ds : List (DataW H)}, ds.length = ts.length → DataW.weightsEach P (ts ++ us) (ds ++ []) = DataW.weightsEach P ts ds
  | [], [], _ => by cases us <;> simp [DataW.weightsEach]
  | t :: ts, d :: ds, h => by
    simp only [List.cons_append, DataW.weightsEach]
    rw [weights_front (by simpa using h)]
  | [], _ :: _, h => by simp at h
  | _ :: _, [], h => by simp at h
end
section
variable {H : Type} {enc : TypeId × Value → H}
/-- **A statement**: a function whose contract says that it answers true, whatever fits is handed in. -/
theorem law_of_sz {a : Assume} {C : Checked} {os : Os} {f : FuncId} {fn : Func} {s : ChangeSpec} {conds : List PathCond} {apart fresh handsOn again : Bool} {S : Abs.Spec} {tb : Nat} {bt : Ty → Nat}
    (hcb : chkBArgs C.prog bt S.ta fn.params.toList = true) (own : ownKnob C.prog.godebug = none) (started : os.Started) (noInit : C.prog.inits.idxOf? f = none) (hfn : C.prog.funcs[f]? = some fn)
    (witness : ∃ (w : World) (tape : Tape) (i : Input), w.os = os ∧ (w.forCall tape i).Shaped C.prog ∧ i.vars = [] ∧ Input.okWide C.prog (w.forCall tape i) .any w.heap.size f i ∧
      s.pre6 enc C.prog fn conds apart (w.forCall tape i).memory i.args ∧ a.holds C.prog (lone (Frame.enter C.prog f i.args .normal) [] (w.forCall tape i)))
    (hl : laidOutB C.prog = true) (hr : rowsOk C.prog fn.params.toList = true) (hvs : s.vars = []) (hrt : fn.resultTypes = #[tb]) (htb : C.prog.underlying tb = some .bool)
    (hargs : chkArgs C.prog S.ta fn.params.toList = true) (hS : SpecOK C.prog [] f S) (hpre : ∀ x, wfD S.ta x = true → szD bt S.ta x = true → S.pre x = true) (hval : ∀ x, wfD S.ta x = true → resA S (S.val x) = .b true)
    (e1 : ∀ ds : List (DataW H), ds.length = fn.params.toList.length → (s.fn H ds).results = [.lit (.bool true)] ∧ (s.fn H ds).args = ds ∧ (s.fn H ds).vars = []) :
    ReturnsInHanded a C os f .any (s.pre6 enc C.prog fn conds apart) (s.post enc C.prog fn apart fresh handsOn again) := by
  refine returnsInHanded_of_change_sized own started noInit hfn witness ?_
  intro W base args ds gs before hok hW _ hz _
  have hW0 := hW
  obtain ⟨p, q, hA, hV, _, _, _⟩ := hW0
  have hgs : gs = [] := by
    rw [hvs] at hV
    cases gs with
    | nil => rfl
    | cons => cases hV
  subst hgs
  have hdl : ds.length = fn.params.toList.length   := (trodAll_length hA).2
  rw [weights_front hdl] at hz
  obtain ⟨x, hx, wx, zx⟩ := args_sz (b := base) hargs hcb hA (fun j t v ht hv => hok j t v (by simpa using ht) (by simpa using hv)) hz
  have hc := hS (allV W) W x args.toList (hpre x wx zx) (fun g A h => by cases h) (allV_ok W) hx
  rw [Array.toArray_toList] at hc
  refine Calls.mono hc fun e W' hh => ?_
  obtain ⟨v, V', he, h1, h2, h3, h4, h5⟩ := hh
  rw [hval x wx] at h4
  have hv : v = .bool true := by simpa [RepV, RepV1, RepCs] using h4
  subst hv
  obtain ⟨q1, q2, q3⟩ := e1 ds hdl
  exact ⟨_, he, law_post hl hr hvs hrt htb hW h5 (by simpa using q1) (by simpa using q2) (by simpa using q3)⟩
/-- **A statement over package variables**: a function whose contract says that it answers true, whatever fits is handed in. -/
theorem law_ofD_sz {a : Assume} {C : Checked} {os : Os} {f : FuncId} {fn : Func} {s : ChangeSpec} {conds : List PathCond} {apart fresh handsOn again : Bool} {S : Abs.Spec} {tb : Nat} {bt : Ty → Nat} {laid : List (String × DataW Unit)} {gl : List (Nat × AVal)}
    (hcb : chkBArgs C.prog bt S.ta fn.params.toList = true) (own : ownKnob C.prog.godebug = none) (started : os.Started) (noInit : C.prog.inits.idxOf? f = none) (hfn : C.prog.funcs[f]? = some fn)
    (witness : ∃ (w : World) (tape : Tape) (i : Input), w.os = os ∧ (w.forCall tape i).Shaped C.prog ∧ i.vars = [] ∧ Input.okWide C.prog (w.forCall tape i) .any w.heap.size f i ∧
      ((s.pre enc C.prog fn conds apart (w.forCall tape i).memory i.args ∧ laidMetH C.prog laid (w.forCall tape i).memory) ∧ sizedMet enc C.prog fn (OpenSpec.ofChange s) apart (w.forCall tape i).memory i.args) ∧ a.holds C.prog (lone (Frame.enter C.prog f i.args .normal) [] (w.forCall tape i)))
    (hl : laidOutB C.prog = true) (hr : rowsOk C.prog fn.params.toList = true) (hvs : s.vars = []) (hrt : fn.resultTypes = #[tb]) (htb : C.prog.underlying tb = some .bool)
    (hargs : chkArgs C.prog S.ta fn.params.toList = true) (hS : SpecOK C.prog gl f S) (hgl : ∀ W, laidMetH C.prog laid W → GlobOk gl (allV W)) (hpre : ∀ x, wfD S.ta x = true → szD bt S.ta x = true → S.pre x = true) (hval : ∀ x, wfD S.ta x = true → resA S (S.val x) = .b true)
    (e1 : ∀ ds : List (DataW H), ds.length = fn.params.toList.length → (s.fn H ds).results = [.lit (.bool true)] ∧ (s.fn H ds).args = ds ∧ (s.fn H ds).vars = []) :
    ReturnsInHanded a C os f .any (fun w args => (s.pre enc C.prog fn conds apart w args ∧ laidMetH C.prog laid w) ∧ sizedMet enc C.prog fn (OpenSpec.ofChange s) apart w args) (s.post enc C.prog fn apart fresh handsOn again) := by
  refine returnsInHanded_of_change_and (X := fun w _ => laidMetH C.prog laid w) (fun _ _ _ hh h => h.of_heap hh) own started noInit hfn witness ?_
  intro W base args ds gs before hok hW _ hz hL _
  have hW0 := hW
  obtain ⟨p, q, hA, hV, _, _, _⟩ := hW0
  have hgs : gs = [] := by
    rw [hvs] at hV
    cases gs with
    | nil => rfl
    | cons => cases hV
  subst hgs
  have hdl : ds.length = fn.params.toList.length   := (trodAll_length hA).2
  rw [weights_front hdl] at hz
  obtain ⟨x, hx, wx, zx⟩ := args_sz (b := base) hargs hcb hA (fun j t v ht hv => hok j t v (by simpa using ht) (by simpa using hv)) hz
  have hc := hS (allV W) W x args.toList (hpre x wx zx) (hgl W hL) (allV_ok W) hx
  rw [Array.toArray_toList] at hc
  refine Calls.mono hc fun e W' hh => ?_
  obtain ⟨v, V', he, h1, h2, h3, h4, h5⟩ := hh
  rw [hval x wx] at h4
  have hv : v = .bool true := by simpa [RepV, RepV1, RepCs] using h4
  subst hv
  obtain ⟨q1, q2, q3⟩ := e1 ds hdl
  exact ⟨_, he, law_post hl hr hvs hrt htb hW h5 (by simpa using q1) (by simpa using q2) (by simpa using q3)⟩
end
end Go.Abs
