/- The abstract machine, part 4: the relation between its states and the machine's; operations that only compute. Own text of this session. -/
import Derived.Test.YtkkkjcpfahhhpaaDoorAbs3
set_option linter.unusedVariables false
set_option linter.unusedSimpArgs false
namespace Go.Abs
open Go Go.RowKit

def VisOk (V : Vis) (w : World) : Prop := ∀ b o v, V b o = some v → w.cell? ⟨b, o, none⟩ = some v

def GlobOk (gl : List (Nat × AVal)) (V : Vis) : Prop := ∀ g A, look gl g = some A → ∃ t d es, A = .pt t d ∧ RepT V t d es ∧ Reads V (some ⟨g, 0, none⟩) es

def bare (V : Vis) : Ctx := { V := V, sg := fun _ => none, tg := fun _ => none }

def Ty.ht : Ty → Nat
  | .sl t => t.ht + 1
  | .pr a b => max (a.ht + 1) b.ht
  | _ => 1

/-- The contract of a function, in the machine's own words. -/
def SpecOK (P : Program) (gl : List (Nat × AVal)) (f : Nat) (S : Spec) : Prop :=
  ∀ (V : Vis) (w : World) (x : S.ta.den) (vs : List Value), S.pre x = true → GlobOk gl V → VisOk V w → RepTup (bare V) (enc S.ta x) vs →
    Calls P f vs.toArray w fun e w' => ∃ v V', e = .returned v ∧ VisOk V' w' ∧ VLe V V' ∧ (∀ b o, b < w.heap.size → V' b o = V b o) ∧
      RepV (bare V') (resA S (S.val x)) v ∧ Below w.heap.size w w'

/-- A function that copies a slice: what it answers is all new. -/
def CloneOK (P : Program) (gl : List (Nat × AVal)) (f : Nat) (t : Ty) (eb : Nat) : Prop :=
  ∀ (V : Vis) (w : World) (xs : t.sl.den) (v : Value), GlobOk gl V → VisOk V w → RepV (bare V) (.sl t xs .no) v → List.length xs * eb ≤ 140737488351232 →
    Calls P f #[v] w fun e w' => ∃ ad c V', e = .returned (.slice ad (List.length xs) c) ∧ Below w.heap.size w w' ∧ List.length xs ≤ c ∧ VisOk V' w' ∧ VLe V V' ∧ (∀ b o, b < w.heap.size → V' b o = V b o) ∧
      (c = 0 ∨ ∃ bl cs E, c ≠ 0 ∧ ad = some ⟨bl, 0, none⟩ ∧ w.heap.size ≤ bl ∧ w'.heap[bl]? = some (.cells cs E (0, 0)) ∧ RepCs (bare V') (.ar t xs) cs.toList ∧ cs.size = c * t.size ∧ ∀ o, V' bl o = none)

/-- Where a call began: the world, the older blocks that are the call's own, and which boxes keep their blocks. -/
structure Base where
  w : World
  D : Nat → Prop
  pin : Nat → Option (Nat × Nat × Nat)

def Base.own (B : Base) (bl : Nat) : Prop := B.w.heap.size ≤ bl ∨ B.D bl

/-- Nothing older has turned but what is the call's own. -/
structure Base.But (B : Base) (w : World) : Prop where
  os : w.os = B.w.os
  tape : w.tape = B.w.tape
  output : w.output = B.w.output
  size : B.w.heap.size ≤ w.heap.size
  block : ∀ k, ¬ B.own k → w.heap[k]? = B.w.heap[k]?

theorem Base.But.refl (B : Base) : B.But B.w := ⟨rfl, rfl, rfl, Nat.le_refl _, fun _ _ => rfl⟩
theorem Base.But.below {B : Base} {w w' : World} (h : B.But w) (k : Below w.heap.size w w') : B.But w' :=
  ⟨k.os.trans h.os, k.tape.trans h.tape, k.output.trans h.output, Nat.le_trans h.size k.size, fun i hi =>
    (k.block i (Nat.lt_of_lt_of_le (Nat.lt_of_not_le fun h => hi (.inl h)) h.size)).trans (h.block i hi)⟩
theorem Base.But.drew {B : Base} {w : World} (h : B.But w) : B.But w.drew := ⟨h.os, h.tape, h.output, h.size, h.block⟩
/-- A world that is new alone. -/
def Base.at (w : World) : Base := ⟨w, fun _ => False, fun _ => none⟩
theorem Base.own_at {w : World} {bl : Nat} : (Base.at w).own bl ↔ w.heap.size ≤ bl := ⟨fun h => h.elim id False.elim, .inl⟩
theorem Base.But.to {w w' : World} (h : (Base.at w).But w') : Below w.heap.size w w' :=
  ⟨h.os, h.tape, h.output, h.size, fun k hk => h.block k (fun h => by have := Base.own_at.1 h; omega)⟩

structure Good (gl : List (Nat × AVal)) (V0 : Vis) (w0 : Base) (w : World) (x : Ctx) (ρ : St) : Prop where
  vis : VisOk x.V w
  grow : VLe V0 x.V
  old : ∀ b o, b < w0.w.heap.size → ¬ w0.D b → x.V b o = V0 b o
  box : ∀ k A, get ρ (br k) = some A → ∃ bl sz, x.sg k = some (bl, sz) ∧ ((sz.2 = 0 ∧ ∃ t, A = .ar t [] ∧ sz.1 = t.size) ∨ (sz.2 ≠ 0 ∧ ∃ cs E, w.heap[bl]? = some (.cells cs E (0, 0)) ∧ RepCs x A cs.toList ∧
    (∀ t xs, A = .ar t xs → sz.1 = t.size ∧ cs.size = sz.2 * t.size)))
  sgs : ∀ k bl sz, x.sg k = some (bl, sz) → sz.2 ≠ 0 → w0.own bl ∧ bl < w.heap.size ∧ ∀ o, x.V bl o = none
  inj : ∀ k k' bl sz sz', x.sg k = some (bl, sz) → x.sg k' = some (bl, sz') → sz.2 ≠ 0 → sz'.2 ≠ 0 → k = k'
  tag : ∀ g v s, x.tg g = some (v, s) → ∃ a n c, v = .slice a n c ∧ n ≤ c ∧ (n = c ∨ ∃ bl cur E, a = some ⟨bl, 0, none⟩ ∧ w0.w.heap.size ≤ bl ∧
    w.heap[bl]? = some (.cells cur E (0, 0)) ∧ cur.size = c * s ∧ (∀ o, n * s ≤ o → x.V bl o = none) ∧ (∀ k sz, sz.2 ≠ 0 → x.sg k ≠ some (bl, sz)))
  tinj : ∀ g g' bl n c s n' c' s', x.tg g = some (.slice (some ⟨bl, 0, none⟩) n c, s) → x.tg g' = some (.slice (some ⟨bl, 0, none⟩) n' c', s') → n ≠ c → n' ≠ c' → g = g'
  bel : w0.But w
  clo : ∀ r A k, get ρ r = some A → mentions k A = true → ∃ A', get ρ (br k) = some A'
  gok : GlobOk gl V0
  pin : ∀ k p, w0.pin k = some p → x.sg k = some p

/-- A box that has a block. -/
theorem Good.at {gl : List (Nat × AVal)} {V0 : Vis} {w0 : Base} {w : World} {x : Ctx} {ρ : St} {k bl : Nat} {sz : Nat × Nat} {A : AVal} (h : Good gl V0 w0 w x ρ) (hk : get ρ (br k) = some A) (hs : x.sg k = some (bl, sz)) (hz : sz.2 ≠ 0) :
    ∃ cs E, w.heap[bl]? = some (.cells cs E (0, 0)) ∧ RepCs x A cs.toList ∧ (∀ t xs, A = .ar t xs → sz.1 = t.size ∧ cs.size = sz.2 * t.size) := by
  obtain ⟨bl', sz', h1, h2⟩ := h.box k A hk
  rw [hs] at h1; cases h1
  rcases h2 with ⟨h0, _⟩ | ⟨_, h2⟩
  · exact absurd h0 hz
  · exact h2

structure R (gl : List (Nat × AVal)) (V0 : Vis) (w0 : Base) (nt : Nat) (x : Ctx) (ρ : St) (a : Act) (w : World) : Prop where
  good : Good gl V0 w0 w x ρ
  slots : ∀ t A, get ρ (tr t) = some A → RepV x A (a.tmps.getD t undef)
  defs : a.defers = []
  size : a.tmps.size = nt
  pk : ∀ k p, w0.pin k = some p → nt ≤ k

def retV (rs : List Value) : Value := if h : rs.toArray.size = 1 then rs.toArray[0] else .tuple rs.toArray

/-- The contract of a function that may write into what it is handed, in the machine's own words. -/
def XOK (P : Program) (gl : List (Nat × AVal)) (f : Nat) (X : XSpec) : Prop :=
  ∀ (V : Vis) (w : World) (D : Nat → Prop) (pin : Nat → Option (Nat × Nat × Nat)) (x : Ctx) (v : HS.den X.hin) (vs : List Value), X.pre v = true → vs.length = X.np → (∀ k p, pin k = some p → k ∈ X.pins) →
    R gl V ⟨w, D, pin⟩ vs.length x (encH X.hin v) { tmps := vs.toArray, defers := [] } w →
    Calls P f vs.toArray w fun e w' => ∃ x' rs, e = .returned (retV rs) ∧ rs.length = X.nr ∧ R gl V ⟨w, D, pin⟩ rs.length x' (encH X.hout (X.val v)) { tmps := rs.toArray, defers := [] } w'

structure CfgOk (P : Program) (gl : List (Nat × AVal)) (C : Cfg) : Prop where
  tab : ∀ T t, look C.tab T = some t → chk P t (.inl T) = true
  ht : ∀ T t, look C.tab T = some t → t.ht < 9999
  eb : ∀ T b, look C.eb T = some b → ∃ E i, P.underlying T = some (.slice E) ∧ P.info? E = some i ∧ i.bytes = b
  specs : ∀ f S, look C.specs f = some S → SpecOK P gl f S ∧ ∃ fn, P.funcs[f]? = some fn ∧ fn.body.isSome = true ∧ (fn.name == "runtime.NumGoroutine") = false
  clones : ∀ f te, look C.clones f = some te → CloneOK P gl f te.1 te.2 ∧ ∃ fn, P.funcs[f]? = some fn ∧ fn.body.isSome = true ∧ (fn.name == "runtime.NumGoroutine") = false
  calls : ∀ d xc, (d, xc) ∈ C.calls → XOK P gl xc.f xc.X ∧ ∃ fn, P.funcs[xc.f]? = some fn ∧ fn.body.isSome = true ∧ (fn.name == "runtime.NumGoroutine") = false
  glob : C.glob = gl
  arrs : ∀ T t n, look C.arrs T = some (t, n) → ∃ E, P.underlying T = some (.array n E) ∧ chk P t (.inl E) = true ∧ 1 ≤ t.size

/-! ### Lookups -/
theorem beq_true {a b : Nat} : Nat.beq a b = true ↔ a = b := by
  constructor
  · exact Nat.eq_of_beq_eq_true
  · rintro rfl; exact Nat.beq_refl a
theorem pickX_mem {d f : Nat} {xc : XCall} : ∀ {l : List (Nat × XCall)}, pickX d f l = some xc → (d, xc) ∈ l ∧ xc.f = f
  | [], h => by cases h
  | (r, v) :: l, h => by
    simp only [pickX] at h
    split at h
    · rename_i h1 h2; rw [beq_true] at h1 h2; subst h1; cases h; exact ⟨List.mem_cons_self, h2⟩
    · obtain ⟨h1, h2⟩ := pickX_mem h; exact ⟨List.mem_cons_of_mem _ h1, h2⟩

theorem beq_false {a b : Nat} : Nat.beq a b = false ↔ a ≠ b := by
  rw [← Bool.not_eq_true, beq_true]

theorem get_put (q : Nat) (v : AVal) : ∀ (ρ : St) (r : Nat), get (put q v ρ) r = if q = r then some v else get ρ r
  | [], r => by
    by_cases h : q = r
    · simp [put, get, h, Nat.beq_refl]
    · rw [if_neg h]; simp [put, get, beq_false.2 h]
  | (p, u) :: l, r => by
    simp only [put]
    split
    · rename_i e
      rw [beq_true] at e; subst e
      simp only [get]
      split
      · rename_i e; rw [beq_true] at e; simp [e]
      · rename_i e; rw [beq_false] at e; simp [e]
    · rename_i e
      simp only [get]
      split
      · rename_i e'; rw [beq_true] at e'; subst e'; rw [beq_false] at e; rw [if_neg (fun h => e h.symm)]
      · rw [get_put q v l r]

theorem tr_inj {a b : Nat} (h : tr a = tr b) : a = b := by simp only [tr] at h; omega
theorem br_inj {a b : Nat} (h : br a = br b) : a = b := by simp only [br] at h; omega
theorem tr_br {a b : Nat} : tr a ≠ br b := by simp only [tr, br]; omega

theorem mem_iff {q : Nat} : ∀ {l : List Nat}, mem q l = true ↔ q ∈ l
  | [] => by simp [mem]
  | r :: l => by
    simp only [mem]
    split
    · rename_i e; rw [beq_true] at e; simp [e]
    · rename_i e; rw [beq_false] at e; rw [mem_iff]; simp [Ne.symm e]

section
variable {P : Program} {gl : List (Nat × AVal)} {C : Cfg} {V0 : Vis} {w0 : Base} {w : World} {x : Ctx} {ρ : St} {a : Act} {nt : Nat}

/-! ### Worlds and contexts that grow -/
theorem bare_le (x : Ctx) : CLe (bare x.V) x := ⟨VLe.refl _, fun _ _ h => by simp [bare] at h, fun _ _ h => by simp [bare] at h⟩

theorem vis_old {V V' : Vis} (h : ∀ b o, b < w.heap.size → V' b o = V b o) {b o : Nat} {v : Value} (hv : VisOk V w) (hn : ∀ o, V b o = none) (hb : b < w.heap.size) : V' b o = none := by
  rw [h b o hb, hn]

theorem vis_new {V : Vis} (hv : VisOk V w) {b : Nat} (hb : w.heap.size ≤ b) (o : Nat) : V b o = none := by
  cases h : V b o with
  | none => rfl
  | some v =>
    have := World.block_lt_of_cell? w _ (hv b o v h)
    simp at this; omega

theorem VisOk.below {V : Vis} {w' : World} (hv : VisOk V w) (h : Below w.heap.size w w') : VisOk V w' := fun b o v e => by
  have h1 := hv b o v e
  exact (h.cell (World.block_lt_of_cell? w _ h1)).trans h1

theorem Good.ext {w' : World} {V' : Vis} (h : Good gl V0 w0 w x ρ) (hw : Below w.heap.size w w') (hv : VisOk V' w') (hg : VLe x.V V') (ho : ∀ b o, b < w.heap.size → V' b o = x.V b o) :
    Good gl V0 w0 w' { x with V := V' } ρ := by
  have hc : CLe x { x with V := V' } := ⟨hg, fun _ _ e => e, fun _ _ e => e⟩
  have hb : ∀ (bl : Nat) o, bl < w.heap.size → w.heap[bl]? = some o → w'.heap[bl]? = some o := fun bl o hl e => (hw.block bl hl).trans e
  refine ⟨hv, h.grow.trans hg, fun b o hb hd => ?_, ?_, ?_, h.inj, ?_, h.tinj, h.bel.below hw, h.clo, h.gok, h.pin⟩
  · exact (ho b o (Nat.lt_of_lt_of_le hb h.bel.size)).trans (h.old b o hb hd)
  · intro k A e
    obtain ⟨bl, sz, h1, h2⟩ := h.box k A e
    refine ⟨bl, sz, h1, h2.imp id ?_⟩
    rintro ⟨hz, cs, E, h2, h3, h4⟩
    exact ⟨hz, cs, E, hb _ _ (h.sgs _ _ _ h1 hz).2.1 h2, h3.mono hc, h4⟩
  · intro k bl sz e hz
    obtain ⟨h1, h2, h3⟩ := h.sgs k bl sz e hz
    exact ⟨h1, Nat.lt_of_lt_of_le h2 hw.size, fun o => (ho bl o h2).trans (h3 o)⟩
  · intro g v s e
    obtain ⟨ad, n, c, rfl, h1, h2⟩ := h.tag g v s e
    refine ⟨ad, n, c, rfl, h1, h2.imp id ?_⟩
    rintro ⟨bl, cur, E, e1, e2, e3, e4, e5, e6⟩
    have hl := (Array.getElem?_eq_some_iff.1 e3).1
    exact ⟨bl, cur, E, e1, e2, hb _ _ hl e3, e4, fun o ho' => (ho bl o hl).trans (e5 o ho'), e6⟩

theorem R.ext {w' : World} {V' : Vis} (h : R gl V0 w0 nt x ρ a w) (hw : Below w.heap.size w w') (hv : VisOk V' w') (hg : VLe x.V V') (ho : ∀ b o, b < w.heap.size → V' b o = x.V b o) :
    R gl V0 w0 nt { x with V := V' } ρ a w' :=
  ⟨h.good.ext hw hv hg ho, fun t A e => RepV.mono (x' := { x with V := V' }) ⟨hg, fun _ _ e => e, fun _ _ e => e⟩ (h.slots t A e), h.defs, h.size, h.pk⟩

theorem R.set (h : R gl V0 w0 nt x ρ a w) {d : Nat} (hd : d < nt) {A : AVal} {v : Value} (hv : RepV x A v)
    (hc : ∀ k, mentions k A = true → ∃ A', get ρ (br k) = some A') : R gl V0 w0 nt x (put (tr d) A ρ) (a.put (some d) v) w := by
  have hb : ∀ k, get (put (tr d) A ρ) (br k) = get ρ (br k) := fun k => by rw [get_put, if_neg tr_br]
  refine ⟨⟨h.good.vis, h.good.grow, h.good.old, fun k A' e => h.good.box k A' (by rw [← hb]; exact e), h.good.sgs, h.good.inj, h.good.tag, h.good.tinj, h.good.bel, ?_, h.good.gok, h.good.pin⟩, ?_, h.defs, ?_, h.pk⟩
  · intro r A' k e hm
    rw [get_put] at e
    split at e
    · cases e; rw [hb]; exact hc k hm
    · rw [hb]; exact h.good.clo r A' k e hm
  · intro t A' e
    rw [get_put] at e
    simp only [Act.put]
    split at e
    · rename_i e'
      have := tr_inj e'; subst this
      cases e
      rw [Array.getD_eq_getD_getElem?, Array.getElem?_setIfInBounds_self_of_lt (by rw [h.size]; exact hd)]
      exact hv
    · rename_i e'
      have hne : d ≠ t := fun h => e' (by rw [h])
      have : (a.tmps.setIfInBounds d v).getD t undef = a.tmps.getD t undef := by
        rw [Array.getD_eq_getD_getElem?, Array.getD_eq_getD_getElem?, Array.getElem?_setIfInBounds_ne hne]
      rw [this]
      exact h.slots t A' e
  · simp only [Act.put, Array.size_setIfInBounds]; exact h.size

/-! ### Operands -/
theorem ofConst_rep {v : Value} {A : AVal} (h : ofConst v = some A) : RepV x A v ∧ ∀ k, mentions k A = false := by
  unfold ofConst at h
  split at h <;> cases h <;> (refine ⟨?_, fun k => rfl⟩; first | rfl | exact ⟨rfl, rfl⟩)

theorem opnd_rep (hC : CfgOk P gl C) (h : R gl V0 w0 nt x ρ a w) {o : Operand} {A : AVal} (e : opnd C ρ o = some A) :
    RepV x A (a.eval o) ∧ ∀ k, mentions k A = true → ∃ A', get ρ (br k) = some A' := by
  cases o with
  | tmp t => exact ⟨h.slots t A e, fun k hm => h.good.clo _ _ k e hm⟩
  | const v => exact ⟨(ofConst_rep e).1, fun k hm => by rw [(ofConst_rep (x := x) e).2 k] at hm; cases hm⟩
  | global g =>
    simp only [opnd, hC.glob] at e
    obtain ⟨t, d, es, rfl, h1, h2⟩ := h.good.gok g A e
    exact ⟨⟨g, 0, es, rfl, h1.mono h.good.grow, h2.mono h.good.grow⟩, fun k hm => by simp [mentions] at hm⟩
  | func f => simp only [opnd, Option.some.injEq] at e; subst e; exact ⟨rfl, fun k hm => by simp [mentions] at hm⟩

theorem coerce_rep {t : Ty} {A : AVal} {v : Value} (h : RepV x A v) : RepV x (coerce t A) v := by
  unfold coerce
  split
  · refine ⟨⟨none, 0, [], h, Nat.le_refl _, rfl, fun j v e => by simp at e⟩, fun u e => ?_⟩
    have : v = .slice none 0 0 := by simpa [RepV, RepV1, RepCs] using h
    subst this; cases e; exact ⟨none, 0, rfl⟩
  · exact h
theorem coerce_men {t : Ty} {A : AVal} {k : Nat} (h : mentions k (coerce t A) = true) : mentions k A = true := by
  unfold coerce at h
  split at h
  · simp [mentions] at h
  · exact h
theorem typedAt_rep {T : Nat} {A : AVal} {v : Value} (h : RepV x A v) : RepV x (typedAt C T A) v := by
  unfold typedAt
  split
  · exact coerce_rep h
  · exact h
theorem typedAt_men {T : Nat} {A : AVal} {k : Nat} (h : mentions k (typedAt C T A) = true) : mentions k A = true := by
  unfold typedAt at h
  split at h
  · exact coerce_men h
  · exact h

/-! ### What an operation must show -/
/-- Behind an operation: a value for its temporary, in a state that stands to 'ρ''. -/
def Yields (P : Program) (gl : List (Nat × AVal)) (V0 : Vis) (w0 : Base) (nt : Nat) (o : Oper) (a : Act) (w : World) (ρ' : St) : Prop :=
  ∀ (K : Act → World → Prop) (Q : Exit → Act → World → Prop), (∀ x' a' w', R gl V0 w0 nt x' ρ' a' w' → K a' w') → o.wp P a w K Q

theorem yields_val {o : Oper} {d : Nat} {v : Value} {A : AVal} (h : R gl V0 w0 nt x ρ a w) (hd : o.dst = some d) (hlt : d < nt)
    (hr : (execOp a.eval o).run P w = .ok (.value v) w) (hv : RepV x A v) (hc : ∀ k, mentions k A = true → ∃ A', get ρ (br k) = some A') :
    Yields P gl V0 w0 nt o a w (put (tr d) A ρ) := by
  intro K Q hK
  unfold Oper.wp
  rw [hr]
  show K (a.put o.dst v) w
  rw [hd]
  exact hK x _ _ (h.set hlt hv hc)

/-- The same where the world has grown. -/
theorem yields_grow {o : Oper} {d : Nat} {v : Value} {A : AVal} {w' : World} {V' : Vis} (h : R gl V0 w0 nt x ρ a w) (hd : o.dst = some d) (hlt : d < nt)
    (hr : (execOp a.eval o).run P w = .ok (.value v) w') (hw : Below w.heap.size w w') (hvo : VisOk V' w') (hg : VLe x.V V') (ho : ∀ b o, b < w.heap.size → V' b o = x.V b o)
    (hv : RepV { x with V := V' } A v) (hc : ∀ k, mentions k A = true → ∃ A', get ρ (br k) = some A') :
    Yields P gl V0 w0 nt o a w (put (tr d) A ρ) := by
  intro K Q hK
  unfold Oper.wp
  rw [hr]
  show K (a.put o.dst v) w'
  rw [hd]
  exact hK _ _ _ ((h.ext hw hvo hg ho).set hlt hv hc)

theorem men_none {A : AVal} {ρ : St} (h : ∀ k, mentions k A = false) : ∀ k, mentions k A = true → ∃ A', get ρ (br k) = some A' := fun k e => by rw [h k] at e; cases e

theorem enc_men (k : Nat) : ∀ (t : Ty) (d : t.den), mentions k (enc t d) = false
  | .int _, _ => rfl
  | .bool, _ => rfl
  | .str, _ => rfl
  | .sl _, _ => rfl
  | .un, _ => rfl
  | .pr a b, d => by simp only [enc, mentions, enc_men k a, enc_men k b]
  | .o1, _ => rfl

/-! Numbers, strings -/
theorem int_of {k : IntKind} {n : Int} {v : Value} (h : RepV x (.i k n) v) : v = .int k n := by simpa [RepV, RepV1, RepCs] using h
theorem bool_of {b : Bool} {v : Value} (h : RepV x (.b b) v) : v = .bool b := by simpa [RepV, RepV1, RepCs] using h
theorem str_of {s : ByteArray} {v : Value} (h : RepV x (.s s) v) : v = .string s := by simpa [RepV, RepV1, RepCs] using h
theorem rep_int (k : IntKind) (n : Int) : RepV x (.i k n) (.int k n) := rfl
theorem rep_bool (b : Bool) : RepV x (.b b) (.bool b) := rfl
theorem rep_str (s : ByteArray) : RepV x (.s s) (.string s) := rfl
theorem sl_of {t : Ty} {xs : List t.den} {g : Tag} {v : Value} (h : RepV x (.sl t xs g) v) :
    ∃ ad c es, v = .slice ad xs.length c ∧ xs.length ≤ c ∧ RepArr (RepT x.V t) xs es ∧ Reads x.V ad es ∧ TagOk x t g v := by
  obtain ⟨⟨ad, c, es, e, h1, h2, h3⟩, h4⟩ := h
  simp only [List.cons.injEq, and_true] at e
  exact ⟨ad, c, es, e, h1, h2, h3, h4 v rfl⟩
theorem rep_sl {t : Ty} {xs : List t.den} {g : Tag} {ad : Option Addr} {c : Nat} {es : List Value} (h1 : xs.length ≤ c) (h2 : RepArr (RepT x.V t) xs es) (h3 : Reads x.V ad es)
    (h4 : TagOk x t g (.slice ad xs.length c)) : RepV x (.sl t xs g) (.slice ad xs.length c) :=
  ⟨⟨ad, c, es, rfl, h1, h2, h3⟩, fun v e => by simp only [List.cons.injEq, and_true] at e; subst e; exact h4⟩

end
end Go.Abs
