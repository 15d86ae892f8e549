/- The abstract machine, part 8: operations that lay or write boxes, and those that lay a row. Own text of this session. -/
import Derived.Test.YtkkkjcpfahhhpaaDoorAbs7
set_option linter.unusedVariables false
set_option linter.unusedSimpArgs false
namespace Go.Abs
open Go Go.RowKit

section
variable {P : Program} {gl : List (Nat × AVal)} {C : Cfg} {V0 : Vis} {w0 : Base} {w : World} {x : Ctx} {ρ : St} {a : Act} {nt : Nat}
variable {α : Type} {K : St → Foot → Option α} {z : α} {d ty : Nat} {ps : String} {af : Array Edge} {gd : Option (Nat × Bool)}

/-- A box more. -/
theorem R.boxV {w' : World} {b0 : Nat} {V' : Vis} (hfr : w.heap.size ≤ b0) {cs : List Value} {E : Nat} {sz : Nat × Nat} {c A : AVal} {v : Value} (h : R gl V0 w0 nt x ρ a w) (hd : d < nt) (hn : get ρ (br d) = none)
    (hw : Below w.heap.size w w') (hv : VisOk V' w') (hg : VLe x.V V') (ho : ∀ b o, b < w.heap.size → V' b o = x.V b o) (hb0 : sz.2 ≠ 0 → ∀ o, V' b0 o = none)
    (H : (sz.2 = 0 ∧ ∃ t, c = .ar t [] ∧ sz.1 = t.size) ∨ (sz.2 ≠ 0 ∧ w'.heap[b0]? = some (.cells cs.toArray E (0, 0)) ∧ RepCs { x with V := V' } c cs ∧ (∀ t xs, c = .ar t xs → sz.1 = t.size ∧ cs.toArray.size = sz.2 * t.size)))
    (hm : ∀ k, mentions k c = true → ∃ A', get ρ (br k) = some A')
    (hA : ∀ y : Ctx, y.sg d = some (b0, sz) → RepV y A v) (hAm : ∀ k, mentions k A = true → k = d) :
    ∃ x', R gl V0 w0 nt x' (put (tr d) A (put (br d) c ρ)) (a.put (some d) v) w' := by
  let x' : Ctx := { x with V := V', sg := fun k => if k = d then some (b0, sz) else x.sg k }
  have nm : ∀ {r B k}, get ρ r = some B → mentions k B = true → k ≠ d := fun {r B k} e m hk => by
    subst hk
    obtain ⟨A', h'⟩ := h.good.clo r B k e m
    rw [hn] at h'; cases h'
  have hsg : ∀ {B : AVal}, (∀ k, mentions k B = true → k ≠ d) → ∀ k p, mentions k B = true → x.sg k = some p → x'.sg k = some p := fun {B} hB k p m e => by
    show (if k = d then _ else _) = _
    rw [if_neg (hB k m)]; exact e
  have g0 := h.good.ext hw hv hg ho
  have hput : ∀ k, get (put (tr d) A (put (br d) c ρ)) (br k) = if k = d then some c else get ρ (br k) := fun k => by
    rw [get_put, if_neg tr_br, get_put]
    by_cases e : k = d
    · rw [if_pos (by rw [e]), if_pos e]
    · rw [if_neg (fun h => e (br_inj h).symm), if_neg e]
  have hrg : ∀ {B : AVal} {v}, (∀ k, mentions k B = true → k ≠ d) → RepV x B v → RepV x' B v := fun {B v} hB r => RepV.resg (x := x) (x' := x') hg (fun _ _ e => e) (hsg hB) r
  refine ⟨x', ⟨⟨g0.vis, g0.grow, g0.old, ?_, ?_, ?_, ?_, g0.tinj, g0.bel, ?_, g0.gok, fun k p e => (if_neg (fun hk => by have := h.pk k p e; omega)).trans (g0.pin k p e)⟩, ?_, h.defs, ?_, h.pk⟩⟩
  · intro k B e
    rw [hput] at e
    split at e
    · rename_i hk; subst hk; cases e
      refine ⟨b0, sz, by show (if _ then _ else _) = _; rw [if_pos rfl], ?_⟩
      rcases H with H | ⟨hz, hb, hc, hs⟩
      · exact .inl H
      · exact .inr ⟨hz, cs.toArray, E, hb, RepCs.resg (x := { x with V := V' }) (x' := x') (VLe.refl _) (fun _ _ e => e) (hsg (fun j hj hjd => by rw [hjd] at hj; obtain ⟨A', h'⟩ := hm _ hj; rw [hn] at h'; cases h')) hc, hs⟩
    · rename_i hk
      obtain ⟨bl, sz', h1, h2⟩ := g0.box k B e
      refine ⟨bl, sz', by show (if _ then _ else _) = _; rw [if_neg hk]; exact h1, h2.imp id ?_⟩
      rintro ⟨hz', cs', E', h2, h3, h4⟩
      exact ⟨hz', cs', E', h2, RepCs.resg (x := { x with V := V' }) (x' := x') (VLe.refl _) (fun _ _ e => e) (hsg (fun j hj => nm e hj)) h3, h4⟩
  · intro k bl sz' e hz'
    change (if k = d then _ else _) = _ at e
    split at e
    · cases e
      rcases H with ⟨h0, _⟩ | ⟨_, hb, _⟩
      · exact absurd h0 hz'
      · exact ⟨.inl (Nat.le_trans h.good.bel.size hfr), (Array.getElem?_eq_some_iff.1 hb).1, hb0 hz'⟩
    · exact g0.sgs k bl sz' e hz'
  · intro k k' bl s1 s2 e1 e2 z1 z2
    change (if k = d then _ else _) = _ at e1
    change (if k' = d then _ else _) = _ at e2
    split at e1 <;> split at e2
    · rename_i h1 h2; rw [h1, h2]
    · cases e1; have := (h.good.sgs _ _ _ e2 z2).2.1; omega
    · cases e2; have := (h.good.sgs _ _ _ e1 z1).2.1; omega
    · exact h.good.inj _ _ _ _ _ e1 e2 z1 z2
  · intro g v' s e
    obtain ⟨ad, n, cc, rfl, h1, h2⟩ := h.good.tag g v' s e
    refine ⟨ad, n, cc, rfl, h1, h2.imp id ?_⟩
    rintro ⟨bl, cur, E', e1, e2, e3, e4, e5, e6⟩
    have hl := (Array.getElem?_eq_some_iff.1 e3).1
    refine ⟨bl, cur, E', e1, e2, (hw.block _ hl).trans e3, e4, fun o h5 => (ho bl o hl).trans (e5 o h5), fun k s' hz' e7 => ?_⟩
    change (if k = d then _ else _) = _ at e7
    split at e7
    · cases e7; omega
    · exact e6 k s' hz' e7
  · intro r B k e m
    rw [get_put] at e
    split at e
    · cases e; rw [hput, if_pos (hAm k m)]; exact ⟨_, rfl⟩
    · rw [get_put] at e
      split at e
      · cases e
        obtain ⟨A', h'⟩ := hm k m
        rw [hput]
        split
        · exact ⟨_, rfl⟩
        · exact ⟨A', h'⟩
      · obtain ⟨A', h'⟩ := h.good.clo r B k e m
        rw [hput]
        split
        · exact ⟨_, rfl⟩
        · exact ⟨A', h'⟩
  · intro t B e
    rw [get_put] at e
    simp only [Act.put]
    split at e
    · rename_i e'
      have := tr_inj e'; subst this
      cases e
      rw [Array.getD_eq_getD_getElem?, Array.getElem?_setIfInBounds_self_of_lt (by rw [h.size]; exact hd)]
      exact hA x' (by show (if _ then _ else _) = _; rw [if_pos rfl])
    · rename_i e'
      have hne : d ≠ t := fun h => e' (by rw [h])
      have : (a.tmps.setIfInBounds d v).getD t undef = a.tmps.getD t undef := by
        rw [Array.getD_eq_getD_getElem?, Array.getD_eq_getD_getElem?, Array.getElem?_setIfInBounds_ne hne]
      rw [this]
      rw [get_put, if_neg (fun h => tr_br h.symm)] at e
      exact hrg (fun k m => nm e m) (h.slots t B e)
  · simp only [Act.put, Array.size_setIfInBounds]; exact h.size

theorem R.boxG {w' : World} {b0 : Nat} (hfr : w.heap.size ≤ b0) {cs : List Value} {E : Nat} {sz : Nat × Nat} {c A : AVal} {v : Value} (h : R gl V0 w0 nt x ρ a w) (hd : d < nt) (hn : get ρ (br d) = none)
    (hw : Below w.heap.size w w')
    (H : (sz.2 = 0 ∧ ∃ t, c = .ar t [] ∧ sz.1 = t.size) ∨ (sz.2 ≠ 0 ∧ w'.heap[b0]? = some (.cells cs.toArray E (0, 0)) ∧ RepCs x c cs ∧ (∀ t xs, c = .ar t xs → sz.1 = t.size ∧ cs.toArray.size = sz.2 * t.size)))
    (hm : ∀ k, mentions k c = true → ∃ A', get ρ (br k) = some A')
    (hA : ∀ y : Ctx, y.sg d = some (b0, sz) → RepV y A v) (hAm : ∀ k, mentions k A = true → k = d) :
    ∃ x', R gl V0 w0 nt x' (put (tr d) A (put (br d) c ρ)) (a.put (some d) v) w' :=
  h.boxV (V' := x.V) hfr hd hn hw (h.good.vis.below hw) (VLe.refl _) (fun _ _ _ => rfl) (fun _ o => vis_new h.good.vis hfr o) H hm hA hAm

theorem R.box {w' : World} {cs : List Value} {E : Nat} {sz : Nat × Nat} {c A : AVal} {v : Value} (hz : sz.2 ≠ 0) (h : R gl V0 w0 nt x ρ a w) (hd : d < nt) (hn : get ρ (br d) = none)
    (hw : Below w.heap.size w w') (hb : w'.heap[w.heap.size]? = some (.cells cs.toArray E (0, 0))) (hc : RepCs x c cs) (hm : ∀ k, mentions k c = true → ∃ A', get ρ (br k) = some A')
    (hs : ∀ t xs, c = .ar t xs → sz.1 = t.size ∧ cs.toArray.size = sz.2 * t.size) (hA : ∀ y : Ctx, y.sg d = some (w.heap.size, sz) → RepV y A v) (hAm : ∀ k, mentions k A = true → k = d) :
    ∃ x', R gl V0 w0 nt x' (put (tr d) A (put (br d) c ρ)) (a.put (some d) v) w' :=
  h.boxG (Nat.le_refl _) hd hn hw (.inr ⟨hz, hb, hc, hs⟩) hm hA hAm

/-- A box written. -/
theorem R.setBox {bl : Nat} {sz : Nat × Nat} {cs cs' : List Value} {E k : Nat} {c c' : AVal} (hz : sz.2 ≠ 0) (h : R gl V0 w0 nt x ρ a w) (hk : get ρ (br k) = some c) (hs : x.sg k = some (bl, sz)) (hb : w.heap[bl]? = some (.cells cs.toArray E (0, 0)))
    (hc : RepCs x c' cs') (har : ∀ t xs, c' = .ar t xs → sz.1 = t.size ∧ cs'.toArray.size = sz.2 * t.size) (hm : ∀ q, mentions q c' = true → ∃ A', get ρ (br q) = some A') :
    R gl V0 w0 nt x (put (br k) c' ρ) a (w.setRow bl cs'.toArray) := by
  have hg := h.good
  obtain ⟨s1, s2, s3⟩ := hg.sgs k bl sz hs hz
  have hh : (w.setRow bl cs'.toArray).heap[bl]? = some (.cells cs'.toArray E (0, 0)) := setRow_heap w bl _ _ _ _ hb
  have hoth : ∀ j, j ≠ bl → (w.setRow bl cs'.toArray).heap[j]? = w.heap[j]? := fun j hj => setRow_other w bl j _ hj
  have hput : ∀ j, get (put (br k) c' ρ) (br j) = if j = k then some c' else get ρ (br j) := fun j => by
    rw [get_put]
    by_cases e : j = k
    · rw [if_pos (by rw [e]), if_pos e]
    · rw [if_neg (fun h => e (br_inj h).symm), if_neg e]
  refine ⟨⟨?_, hg.grow, hg.old, ?_, ?_, hg.inj, ?_, hg.tinj, ?_, ?_, hg.gok, hg.pin⟩, ?_, h.defs, h.size, h.pk⟩
  · intro b o v e
    have h1 := hg.vis b o v e
    have hne : b ≠ bl := fun hb => by subst hb; rw [s3] at e; cases e
    rw [World.cell?_of_block (a := ⟨b, o, none⟩) (hoth b hne)]; exact h1
  · intro j A e
    rw [hput] at e
    split at e
    · rename_i hj; subst hj; cases e
      exact ⟨bl, sz, hs, .inr ⟨hz, _, E, hh, by simpa using hc, har⟩⟩
    · rename_i hj
      obtain ⟨bl', sz', h1, h2⟩ := hg.box j A e
      refine ⟨bl', sz', h1, h2.imp id ?_⟩
      rintro ⟨hz', cs2, E2, h2, h3, h4⟩
      have hne : bl' ≠ bl := fun hb => by subst hb; exact hj (hg.inj _ _ _ _ _ h1 hs hz' hz)
      exact ⟨hz', cs2, E2, by rw [hoth _ hne]; exact h2, h3, h4⟩
  · intro j b s e hz'
    obtain ⟨h1, h2, h3⟩ := hg.sgs j b s e hz'
    exact ⟨h1, by rw [size_setRow]; exact h2, h3⟩
  · intro g v s e
    obtain ⟨ad, n, cc, rfl, h1, h2⟩ := hg.tag g v s e
    refine ⟨ad, n, cc, rfl, h1, h2.imp id ?_⟩
    rintro ⟨b, cur, E', e1, e2, e3, e4, e5, e6⟩
    have hne : b ≠ bl := fun hb => by subst hb; exact e6 k sz hz hs
    exact ⟨b, cur, E', e1, e2, by rw [hoth _ hne]; exact e3, e4, e5, e6⟩
  · exact ⟨hg.bel.os, hg.bel.tape, hg.bel.output, by rw [size_setRow]; exact hg.bel.size, fun j hj => by rw [hoth j (fun e => hj (e ▸ s1))]; exact hg.bel.block j hj⟩
  · intro r A q e m
    have hex : ∀ q, (∃ A', get ρ (br q) = some A') → ∃ A', get (put (br k) c' ρ) (br q) = some A' := fun q hq => by
      rw [hput]; split
      · exact ⟨_, rfl⟩
      · exact hq
    rw [get_put] at e
    split at e
    · cases e; exact hex q (hm q m)
    · exact hex q (hg.clo r A q e m)
  · intro t A e
    rw [get_put, if_neg (fun h => tr_br h.symm)] at e
    exact h.slots t A e

theorem below_alloc (o : Obj) : Below w.heap.size w (w.alloc o) := (Below.refl _ _).alloc (Nat.le_refl _) o

theorem flat_zero (t : Ty) {cs : List Value} (h : RepCs x (zeroA t) cs) : RepCs x (flat (zeroA t) .un) cs := by
  have := flat_rep h (show RepCs x .un [] from rfl)
  simpa using this

theorem zeroA_men (k : Nat) : ∀ t : Ty, mentions k (zeroA t) = false
  | .int _ => rfl
  | .bool => rfl
  | .str => rfl
  | .sl _ => rfl
  | .un => rfl
  | .pr a b => by simp only [zeroA, mentions, zeroA_men k a, zeroA_men k b]
  | .o1 => rfl

theorem flat_ne_ar {A : AVal} (hA : ∀ u xs, A ≠ .ar u xs) : ∀ {B : AVal}, (∀ u xs, B ≠ .ar u xs) → ∀ t xs, flat A B ≠ .ar t xs := by
  induction A with
  | un => intro B hB t xs; exact hB t xs
  | pr p q ihp ihq =>
    intro B hB t xs
    by_cases hp : ∃ u ys, p = .ar u ys
    · obtain ⟨u, ys, rfl⟩ := hp; simp [flat]
    · by_cases hq : ∃ u ys, q = .ar u ys
      · obtain ⟨u, ys, rfl⟩ := hq
        exact ihp (fun u' xs' e => hp ⟨u', xs', e⟩) (by simp [flat]) t xs
      · exact ihp (fun u' xs' e => hp ⟨u', xs', e⟩) (ihq (fun u' xs' e => hq ⟨u', xs', e⟩) hB) t xs
  | _ => intro B hB t xs; simp [flat]

theorem zeroA_ne_ar (t : Ty) (u : Ty) (xs : t.sl.den → u.sl.den) : True := trivial

theorem ev_alloc (hC : CfgOk P gl C) (h : R gl V0 w0 C.nt x ρ a w) (hlt : d < C.nt) {T : Nat}
    (e : evOp C ρ ⟨some d, .alloc T, ty, ps, af, gd⟩ K = some z) : Sound P gl C V0 w0 w ρ a ⟨some d, .alloc T, ty, ps, af, gd⟩ K z := by
  simp only [evOp] at e
  split at e
  case h_2 => cases e
  rename_i t hT hn
  obtain ⟨i, hi, hs, hz⟩ := chk_info (hC.tab _ _ hT)
  obtain ⟨v, hv, hr⟩ := zero_rep (x := x) hz
  refine ⟨_, _, e, fun Kc Q hK => ?_⟩
  have hrun : (execOp a.eval ⟨some d, .alloc T, ty, ps, af, gd⟩).run P w = .ok (.value (.pointer (some ⟨w.heap.size, 0, none⟩))) (w.alloc (.cells v.cells T)) := by
    simp [execOp, Instr.alloc, zeroValue, typeInfo, hi, hv, newVar, newRow]
  unfold Oper.wp
  rw [hrun]
  obtain ⟨x', hx'⟩ := h.box (sz := (0, 1)) (by decide) (E := T) (w' := w.alloc (.cells v.cells T)) (cs := v.cells.toList) (c := flat (zeroA t) .un) (A := .bx d 0) (v := .pointer (some ⟨w.heap.size, 0, none⟩)) hlt hn (below_alloc _)
    (by rw [heap_alloc_new]) (flat_zero t hr)
    (fun k m => by rcases flat_men m with m | m <;> simp [zeroA_men, mentions] at m)
    (fun u xs e => absurd e (flat_ne_ar (by intro u xs; cases t <;> simp [zeroA]) (by simp) u xs))
    (fun y hy => ⟨_, _, hy, rfl, by decide⟩) (fun k m => (beq_true.1 (show Nat.beq d k = true from m)).symm)
  exact hK _ _ _ hx'

theorem ev_box (hC : CfgOk P gl C) (h : R gl V0 w0 C.nt x ρ a w) (hlt : d < C.nt) {T : Nat} {X : Operand}
    (e : evOp C ρ ⟨some d, .box T X, ty, ps, af, gd⟩ K = some z) : Sound P gl C V0 w0 w ρ a ⟨some d, .box T X, ty, ps, af, gd⟩ K z := by
  simp only [evOp] at e
  split at e
  case h_2 => cases e
  rename_i t A hT hn hX
  split at e
  case h_2 => cases e
  rename_i hA
  obtain ⟨h1, h2⟩ := opnd_rep hC h hX
  have hcs := hasTy_cells hA (coerce_rep (t := t) h1)
  obtain ⟨q1, q2, q3, q4⟩ := hasTy_agg hA
  refine ⟨_, _, e, fun Kc Q hK => ?_⟩
  have hrun : (execOp a.eval ⟨some d, .box T X, ty, ps, af, gd⟩).run P w = .ok (.value (.pointer (some ⟨w.heap.size, 0, none⟩))) (w.alloc (.cells (a.eval X).cells T)) := by
    simp [execOp, Instr.box, newVar, newRow]
  unfold Oper.wp
  rw [hrun]
  obtain ⟨x', hx'⟩ := h.box (sz := (0, 1)) (by decide) (E := T) (w' := w.alloc (.cells (a.eval X).cells T)) (cs := (a.eval X).cells.toList) (c := flat (coerce t A) .un) (A := .bx d 0) (v := .pointer (some ⟨w.heap.size, 0, none⟩)) hlt hn (below_alloc _)
    (by rw [heap_alloc_new]) (by have := flat_rep hcs (show RepCs x .un [] from rfl); simpa using this)
    (fun k m => by
      rcases flat_men m with m | m
      · exact h2 k (coerce_men m)
      · simp [mentions] at m)
    (fun u xs e => absurd e (flat_ne_ar q4 (by simp) u xs))
    (fun y hy => ⟨_, _, hy, rfl, by decide⟩) (fun k m => (beq_true.1 (show Nat.beq d k = true from m)).symm)
  exact hK _ _ _ hx'

theorem bx_of {k off : Nat} {v : Value} (h : RepV x (.bx k off) v) : ∃ bl sz, x.sg k = some (bl, sz) ∧ v = .pointer (some ⟨bl, off, none⟩) ∧ sz.2 ≠ 0 := by
  obtain ⟨bl, sz, hs, e, hz⟩ := h
  simp only [List.cons.injEq, and_true] at e
  exact ⟨bl, sz, hs, e, hz⟩
theorem bi_of {k i off : Nat} {v : Value} (h : RepV x (.bi k i off) v) : ∃ bl sz, x.sg k = some (bl, sz) ∧ v = .pointer (some ⟨bl, i * sz.1 + off, none⟩) ∧ sz.2 ≠ 0 := by
  obtain ⟨bl, sz, hs, e, hz⟩ := h
  simp only [List.cons.injEq, and_true] at e
  exact ⟨bl, sz, hs, e, hz⟩

theorem block_cells {bl off E : Nat} {cs : Array Value} {p q r : List Value} (hb : w.heap[bl]? = some (.cells cs E (0, 0))) (hcs : cs.toList = p ++ (q ++ r)) (hp : p.length = off) :
    ∀ j v, q[j]? = some v → w.cell? ⟨bl, off + j, none⟩ = some v := fun j v e => by
  rw [cell_of_row w bl _ cs E (0, 0) hb, ← Array.getElem?_toList, hcs, ← hp, List.getElem?_append_right (by omega), Nat.add_sub_cancel_left, List.getElem?_append_left (List.getElem?_eq_some_iff.1 e).1]
  exact e

theorem getElem?_append_some {β : Type} {p q : List β} {i : Nat} {v : β} (h : p[i]? = some v) : (p ++ q)[i]? = some v := by
  rw [List.getElem?_append_left (List.getElem?_eq_some_iff.1 h).1]; exact h

theorem ev_load (hC : CfgOk P gl C) (h : R gl V0 w0 C.nt x ρ a w) (hlt : d < C.nt) {T : Nat} {X : Operand}
    (e : evOp C ρ ⟨some d, .load T X, ty, ps, af, gd⟩ K = some z) : Sound P gl C V0 w0 w ρ a ⟨some d, .load T X, ty, ps, af, gd⟩ K z := by
  simp only [evOp] at e
  split at e
  · rename_i t u v hT hX
    exact ev_load_pt hC h hlt hT hX e
  · rename_i t k off hT hX
    split at e
    case h_2 => cases e
    rename_i c hc
    split at e
    case h_2 => cases e
    rename_i c1 hd1
    split at e
    case h_2 => cases e
    rename_i v c2 hu
    obtain ⟨bl, sz, hs, hv, hz⟩ := bx_of (opnd_rep hC h hX).1
    obtain ⟨cs, E, hb, hr, _⟩ := h.good.at hc hs hz
    obtain ⟨p, q, hcs, hp, hq⟩ := dropA_rep hd1 hr
    obtain ⟨q1, q2, rfl, hl, r1, r2, g1, g2, g3, g4⟩ := unflat_rep hu hq
    refine ⟨_, _, e, yields_val h rfl hlt ?_ (rep_cells g1 g2 g3 g4 r1 hl) (fun j m => h.good.clo _ _ j hc (dropA_men hd1 ((unflat_men hu).1 m)))⟩
    simp only [execOp, hv, Sem.run_bind, run_loadVar (hC.tab _ _ hT) hl (block_cells hb hcs hp), Result.andThen_ok, Sem.run_pure]
  · rename_i t k i off hT hX
    split at e
    case h_2 => cases e
    rename_i u xs hc
    cases hc' : decide (i < xs.length) with
    | false => rw [hc'] at e; cases e
    | true =>
      rw [hc'] at e; simp only [cond_true] at e
      split at e
      case h_2 => cases e
      rename_i c1 hd1
      split at e
      case h_2 => cases e
      rename_i v c2 hu
      obtain ⟨bl, sz, hs, hv, hz⟩ := bi_of (opnd_rep hC h hX).1
      obtain ⟨cs, E, hb, hr, hsz⟩ := h.good.at hc hs hz
      have hsz' := (hsz u xs rfl).1
      obtain ⟨a1, a2, ha12, harr, _⟩ := hr
      obtain ⟨ce, re, hre⟩ := RepArr.get (fun _ _ q => q.len) (zeroD u) harr i (by simpa using hc')
      have hf := flat_rep (repCs_enc re) (show RepCs x .un [] from rfl)
      rw [List.append_nil] at hf
      obtain ⟨p, q, hcs, hp, hq⟩ := dropA_rep hd1 hf
      obtain ⟨q1, q2, rfl, hl, r1, r2, g1, g2, g3, g4⟩ := unflat_rep hu hq
      have hcell : ∀ j v, q1[j]? = some v → w.cell? ⟨bl, (i * sz.1 + off) + j, none⟩ = some v := fun j v ev => by
        rw [cell_of_row w bl _ cs E (0, 0) hb, ← Array.getElem?_toList, hsz', Nat.add_assoc, ha12]
        refine getElem?_append_some (hre _ _ ?_)
        rw [hcs, ← hp, List.getElem?_append_right (by omega), Nat.add_sub_cancel_left, List.getElem?_append_left (List.getElem?_eq_some_iff.1 ev).1]
        exact ev
      refine ⟨_, _, e, yields_val h rfl hlt ?_ (rep_cells g1 g2 g3 g4 r1 hl) (fun j m => ?_)⟩
      · simp only [execOp, hv, Sem.run_bind, run_loadVar (hC.tab _ _ hT) hl hcell, Result.andThen_ok, Sem.run_pure]
      · have := dropA_men hd1 ((unflat_men hu).1 m)
        rcases flat_men this with m | m
        · rw [enc_men] at m; cases m
        · simp [mentions] at m
  · cases e

theorem run_storeVar {t : Ty} {T : Nat} (hT : chk P t (.inl T) = true) {bl E : Nat} {p q r : List Value} {v : Value} (hb : w.heap[bl]? = some (.cells (p ++ (q ++ r)).toArray E (0, 0))) (hl : v.cells.toList.length = t.size) (hq : q.length = v.cells.toList.length)
    (h1 : ∀ u ∈ v.cells.toList, u.oneCell' = true) :
    (Instr.storeAt T (.pointer (some ⟨bl, p.length, none⟩)) v).run P w = .ok () (w.setRow bl (p ++ (v.cells.toList ++ r)).toArray) := by
  have hsz : ¬ v.cells.size ≠ t.size := by rw [← Array.length_toList, hl]; simp
  have hst := run_storeCells_at P bl p.length E v.cells.toList 0 _ w hb (by simp; omega) h1
  simp only [Instr.storeAt, Instr.sureAddr, storeVar, Sem.run_bind, Sem.run_pure, Result.andThen_ok, chk_size hT, Sem.run_ite, if_neg hsz]
  rw [hst]
  congr 3
  simp only [Nat.add_zero]
  show (p ++ (q ++ r)).take p.length ++ v.cells.toList ++ (p ++ (q ++ r)).drop (p.length + v.cells.toList.length) = _
  rw [List.take_left' rfl, List.append_assoc, ← hq, ← List.length_append, ← List.append_assoc p q r, List.drop_left' rfl]

theorem overA_ar {n c : AVal} {u : Ty} {xs : u.sl.den} (e : overA n c = some (.ar u xs)) : c = .ar u xs := by
  unfold overA at e
  split at e
  · cases e; rfl
  · split at e
    · split at e <;> cases e
    · cases e
  · cases e
theorem overAt_ar {n c : AVal} {u : Ty} {xs : u.sl.den} : ∀ {off : Nat}, overAt off n c = some (.ar u xs) → c = .ar u xs
  | 0, e => overA_ar e
  | off + 1, e => by
    unfold overAt at e
    split at e
    · cases ‹_ = 0›
    · split at e
      · split at e <;> cases e
      · cases e
    · cases e

theorem ev_store_bx (hC : CfgOk P gl C) (h : R gl V0 w0 C.nt x ρ a w) {T k off : Nat} {X Y : Operand} {t : Ty} {A : AVal} (hT : look C.tab T = some t) (hX : opnd C ρ X = some (.bx k off)) (hY : opnd C ρ Y = some A)
    (hA : hasTy t (coerce t A) = true) {c c' : AVal} (hc : get ρ (br k) = some c) (hov : overAt off (flat (coerce t A) .un) c = some c') :
    Yields P gl V0 w0 C.nt ⟨none, .store T X Y, ty, ps, af, gd⟩ a w (put (br k) c' ρ) := by
  intro Kc Q hK
  obtain ⟨bl, sz, hs, hv, hz⟩ := bx_of (opnd_rep hC h hX).1
  obtain ⟨cs, E, hb, hr, har⟩ := h.good.at hc hs hz
  obtain ⟨h1, h2⟩ := opnd_rep hC h hY
  have hcs := hasTy_cells hA (coerce_rep (t := t) h1)
  have hf := flat_rep hcs (show RepCs x .un [] from rfl)
  rw [List.append_nil] at hf
  obtain ⟨p, q, r, hcs', hp, hq, hr'⟩ := overAt_rep hov hf hr
  have hb' : w.heap[bl]? = some (.cells (p ++ (q ++ r)).toArray E (0, 0)) := by rw [← hcs']; exact hb
  unfold Oper.wp
  have hrun : (execOp a.eval ⟨none, .store T X Y, ty, ps, af, gd⟩).run P w = .ok .skip (w.setRow bl (p ++ ((a.eval Y).cells.toList ++ r)).toArray) := by
    have := run_storeVar (P := P) (hC.tab _ _ hT) hb' (hasTy_len hA hcs) hq (fun u m => hcs.one u m)
    rw [hp] at this
    simp only [execOp, hv, Sem.run_bind, this, Result.andThen_ok, Sem.run_pure]
  rw [hrun]
  show Kc (a.put none undef) _
  refine hK x a _ (h.setBox hz hc hs hb' hr' ?_ ?_)
  · intro u xs e
    subst e
    have hca := overAt_ar hov
    subst hca
    have hq := har _ _ rfl
    refine ⟨hq.1, ?_⟩
    have hcl : cs.size = (p ++ (q ++ r)).length := by rw [← hcs', Array.length_toList]
    rw [← hq.2, hcl]
    simp only [List.size_toArray, List.length_append]; omega
  · intro j m
    rcases overAt_men hov m with m | m
    · rcases flat_men m with m | m
      · exact h2 j (coerce_men m)
      · simp [mentions] at m
    · exact h.good.clo _ _ j hc m
end
end Go.Abs
