/- The abstract machine, part 23: calls that may write into what they are handed. Own text of this session. -/
import Derived.Test.YtkkkjcpfahhhpaaDoorAbs22
set_option linter.unusedVariables false
set_option linter.unusedSimpArgs false
namespace Go.Abs
open Go Go.RowKit

section
variable {P : Program} {gl : List (Nat × AVal)} {C : Cfg} {V0 V : Vis} {w0 : Base} {w : World} {x : Ctx} {ρ : St} {a : Act} {nt : Nat}
variable {α : Type} {z : α}

theorem get_del (q : Nat) : ∀ (ρ : St) (r : Nat), get (delA q ρ) r = if q = r then none else get ρ r
  | [], r => by simp [delA, get]
  | (p, v) :: l, r => by
    simp only [delA]
    split
    · rename_i e; rw [beq_true] at e; subst e
      rw [get_del p l r]
      by_cases h : p = r
      · rw [if_pos h, if_pos h]
      · rw [if_neg h, if_neg h]; simp only [get, beq_false.2 h]
    · rename_i e; rw [beq_false] at e
      simp only [get]
      split
      · rename_i e2; rw [beq_true] at e2; subst e2; rw [if_neg (fun h => e h.symm)]
      · exact get_del q l r

/-- A box that is given away. -/
theorem R.consume1 {j : Nat} (h : R gl V0 w0 nt x ρ a w) (hj : ∀ p, w0.pin j ≠ some p) :
    R gl V0 w0 nt { x with sg := fun q => if q = j then none else x.sg q } (delA (br j) (killAll j ρ)) a w := by
  let x' : Ctx := { x with sg := fun q => if q = j then none else x.sg q }
  have hs : ∀ q, q ≠ j → x'.sg q = x.sg q := fun q hq => by show (if _ then _ else _) = _; rw [if_neg hq]
  have hsj : x'.sg j = none := by show (if _ then _ else _) = _; rw [if_pos rfl]
  have hg := h.good
  have hget : ∀ r, r ≠ br j → get (delA (br j) (killAll j ρ)) r = (get ρ r).map (killA j) := fun r hr => by rw [get_del, if_neg (fun e => hr e.symm), get_kill]
  have hgj : get (delA (br j) (killAll j ρ)) (br j) = none := by rw [get_del, if_pos rfl]
  have hne : ∀ {k p}, x'.sg k = some p → k ≠ j := fun {k p} e hk => by subst hk; rw [hsj] at e; cases e
  refine ⟨⟨hg.vis, hg.grow, hg.old, ?_, ?_, ?_, ?_, hg.tinj, hg.bel, ?_, hg.gok, fun k p e => (hs k (fun hk => by subst hk; exact hj p e)).trans (hg.pin k p e)⟩, ?_, h.defs, h.size, h.pk⟩
  · intro k A e
    have hk : k ≠ j := fun hk => by subst hk; rw [hgj] at e; cases e
    rw [hget _ (fun h => hk (br_inj h))] at e
    cases hB : get ρ (br k) with
    | none => rw [hB] at e; cases e
    | some B =>
      rw [hB] at e; cases e
      obtain ⟨bl, sz, h1, h2⟩ := hg.box k B hB
      refine ⟨bl, sz, (hs k hk).trans h1, ?_⟩
      rcases h2 with ⟨hz, u, rfl, hu⟩ | ⟨hz, cs, E, h2, h3, h4⟩
      · exact .inl ⟨hz, u, rfl, hu⟩
      · exact .inr ⟨hz, cs, E, h2, RepCs.kill (x := x) (x' := x') rfl hs rfl h3, fun u ys e => h4 _ _ (killA_ar e)⟩
  · intro k bl sz e hz
    rw [hs k (hne e)] at e; exact hg.sgs k bl sz e hz
  · intro k k' bl s1 s2 e1 e2 z1 z2
    rw [hs k (hne e1)] at e1; rw [hs k' (hne e2)] at e2
    exact hg.inj _ _ _ _ _ e1 e2 z1 z2
  · intro q v s e
    obtain ⟨ad, n, c, rfl, h1, h2⟩ := hg.tag q v s e
    refine ⟨ad, n, c, rfl, h1, h2.imp id ?_⟩
    rintro ⟨bl, cur, E, a1, a2, a3, a4, a5, a6⟩
    exact ⟨bl, cur, E, a1, a2, a3, a4, a5, fun k sz hz e => a6 k sz hz (by rw [← hs k (hne e)]; exact e)⟩
  · intro r A k e m
    have hr : r ≠ br j := fun hr => by subst hr; rw [hgj] at e; cases e
    rw [hget r hr] at e
    cases hB : get ρ r with
    | none => rw [hB] at e; cases e
    | some B =>
      rw [hB] at e; cases e
      obtain ⟨m1, m2⟩ := killA_men m
      obtain ⟨A', h'⟩ := hg.clo r B k hB m1
      rw [hget _ (fun h => m2 (br_inj h)), h']
      exact ⟨_, rfl⟩
  · intro q A e
    rw [hget _ tr_br] at e
    cases hB : get ρ (tr q) with
    | none => rw [hB] at e; cases e
    | some B =>
      rw [hB] at e; cases e
      exact RepV.kill (x := x) (x' := x') rfl hs rfl (h.slots q B hB)

theorem consume_none : ∀ {l : List Nat} {ρ : St} {r : Nat}, get ρ r = none → get (consume l ρ) r = none
  | [], ρ, r, h => h
  | j :: l, ρ, r, h => by
    simp only [consume]
    refine consume_none ?_
    rw [get_del, get_kill, h]
    split <;> rfl

theorem R.consume : ∀ {l : List Nat} {ρ : St} {x : Ctx}, allLt nt l = true → R gl V0 w0 nt x ρ a w →
    ∃ x', R gl V0 w0 nt x' (Abs.consume l ρ) a w ∧ x'.V = x.V ∧ x'.tg = x.tg ∧ (∀ q, q ∈ l → x'.sg q = none) ∧ (∀ q, q ∉ l → x'.sg q = x.sg q)
  | [], ρ, x, _, h => ⟨x, h, rfl, rfl, (fun q hq => by cases hq), (fun q _ => rfl)⟩
  | j :: l, ρ, x, hl, h => by
    simp only [allLt] at hl
    split at hl
    case h_2 => cases hl
    rename_i hj
    have hj' : j < nt := Nat.le_of_ble_eq_true hj
    obtain ⟨x', h1, h2, h3, h4, h5⟩ := R.consume hl (h.consume1 (fun p e => by have := h.pk j p e; omega))
    refine ⟨x', h1, h2, h3, fun q hq => ?_, fun q hq => ?_⟩
    · by_cases hql : q ∈ l
      · exact h4 q hql
      · rcases List.mem_cons.1 hq with rfl | hq
        · rw [h5 _ hql]; show (if _ then _ else _) = _; rw [if_pos rfl]
        · exact absurd hq hql
    · rw [h5 q (fun h => hq (List.mem_cons_of_mem _ h))]
      show (if _ then _ else _) = _
      rw [if_neg (fun h => hq (by rw [h]; exact List.mem_cons_self))]

/-- The cells of a block that is the call's own are seen from now on. -/
def visB (V : Vis) (bl : Nat) (cs : Array Value) : Vis := fun b o => if b = bl then cs[o]? else V b o

theorem R.see {bl E : Nat} {cs : Array Value} (h : R gl V0 w0 nt x ρ a w) (hb : w.heap[bl]? = some (.cells cs E (0, 0))) (hown : w0.own bl) (hn : ∀ o, x.V bl o = none)
    (hs : ∀ k sz, x.sg k = some (bl, sz) → sz.2 = 0) (ht : ∀ g n c s, x.tg g = some (.slice (some ⟨bl, 0, none⟩) n c, s) → n = c) :
    R gl V0 w0 nt { x with V := visB x.V bl cs } ρ a w := by
  have hV : VLe x.V (visB x.V bl cs) := fun b o v e => by
    show (if _ then _ else _) = _
    by_cases hb' : b = bl
    · subst hb'; rw [hn] at e; cases e
    · rw [if_neg hb']; exact e
  have hne : ∀ {b o}, b ≠ bl → visB x.V bl cs b o = x.V b o := fun {b o} h => by show (if _ then _ else _) = _; rw [if_neg h]
  have hc : CLe x { x with V := visB x.V bl cs } := ⟨hV, fun _ _ e => e, fun _ _ e => e⟩
  have hg := h.good
  refine ⟨⟨fun b o v e => ?_, hg.grow.trans hV, fun b o hb1 hd => ?_, ?_, ?_, hg.inj, ?_, hg.tinj, hg.bel, hg.clo, hg.gok, hg.pin⟩, fun t A e => (h.slots t A e).mono hc, h.defs, h.size, h.pk⟩
  · by_cases hb' : b = bl
    · subst hb'
      rw [cell_of_row w b o cs E (0, 0) hb]
      have e' : (if b = b then cs[o]? else x.V b o) = some v := e
      rwa [if_pos rfl] at e'
    · exact hg.vis b o v ((hne hb').symm.trans e)
  · exact (hne (fun hb' => by subst hb'; exact hown.elim (fun h => by omega) hd)).trans (hg.old b o hb1 hd)
  · intro k A e
    obtain ⟨b, sz, h1, h2⟩ := hg.box k A e
    refine ⟨b, sz, h1, h2.imp id ?_⟩
    rintro ⟨hz, cs', E', q1, q2, q3⟩
    exact ⟨hz, cs', E', q1, q2.mono hc, q3⟩
  · intro k b sz e hz
    obtain ⟨s1, s2, s3⟩ := hg.sgs k b sz e hz
    refine ⟨s1, s2, fun o => (hne (fun hb' => by subst hb'; exact hz (hs k sz e))).trans (s3 o)⟩
  · intro g v s e
    obtain ⟨ad, n, c, rfl, h1, h2⟩ := hg.tag g v s e
    refine ⟨ad, n, c, rfl, h1, ?_⟩
    by_cases hnc : n = c
    · exact .inl hnc
    obtain ⟨b, cur, E', a1, a2, a3, a4, a5, a6⟩ := h2.resolve_left hnc
    subst a1
    refine .inr ⟨b, cur, E', rfl, a2, a3, a4, fun o ho => (hne (fun hb' => by subst hb'; exact hnc (ht g n c s e))).trans (a5 o ho), a6⟩

/-- **An owned slice becomes plain data.** -/
theorem R.freeze {k : Nat} {t : Ty} {xs : t.sl.den} (h : R gl V0 w0 nt x ρ a w) (hp : ∀ p, w0.pin k ≠ some p) (hk : get ρ (br k) = some (.ar t xs)) :
    ∃ x', R gl V0 w0 nt x' (delA (br k) (killAll k ρ)) a w ∧ VLe x.V x'.V ∧ (∀ q, q ≠ k → x'.sg q = x.sg q) ∧ x'.tg = x.tg ∧
      ∀ cs, RepCs x (.os k (List.length xs)) cs → RepCs x' (.sl t xs .no) cs := by
  have h1 := h.consume1 hp
  obtain ⟨bl, sz, hsg, hbx⟩ := h.good.box k _ hk
  have hs1 : ∀ q, q ≠ k → (if q = k then none else x.sg q) = x.sg q := fun q hq => if_neg hq
  by_cases h0 : sz.2 = 0
  · refine ⟨_, h1, VLe.refl _, hs1, rfl, ?_⟩
    rintro cs ⟨bl', sz', ad, e1, rfl, e3, e4⟩
    rw [hsg] at e1; cases e1
    have hx : List.length xs = 0 := by omega
    have hx' : xs = [] := List.eq_nil_of_length_eq_zero hx
    subst hx'
    exact ⟨⟨ad, _, [], rfl, e3, rfl, fun j v e => by simp at e⟩, fun v _ => trivial⟩
  · obtain ⟨cs0, E, q1, ⟨c1, c2, q2, q3, q4⟩, q5⟩ := h.good.at hk hsg h0
    obtain ⟨s1, s2, s3⟩ := h.good.sgs k bl sz hsg h0
    have hV : VLe x.V (visB x.V bl cs0) := fun b o v e => by
      show (if _ then _ else _) = _
      by_cases hb' : b = bl
      · subst hb'; rw [s3] at e; cases e
      · rw [if_neg hb']; exact e
    refine ⟨_, h1.see (bl := bl) (cs := cs0) (E := E) q1 s1 s3 (fun j sz' e => ?_) (fun g n c s e => ?_), hV, hs1, rfl, ?_⟩
    · have e' : (if j = k then none else x.sg j) = some (bl, sz') := e
      split at e'
      · cases e'
      · rename_i hj
        apply Classical.byContradiction
        intro hz
        exact hj (h.good.inj _ _ _ _ _ e' hsg hz h0)
    · apply Classical.byContradiction
      intro hnc
      obtain ⟨ad', n', c', e1, _, e2⟩ := h.good.tag g _ _ e
      cases e1
      obtain ⟨b, cur, E2, a1, _, _, _, _, a6⟩ := e2.resolve_left hnc
      cases a1
      exact a6 k sz h0 hsg
    · rintro cs ⟨bl', sz', ad, e1, rfl, e3, e4⟩
      rw [hsg] at e1; cases e1
      refine ⟨⟨ad, _, c1, rfl, e3, q3.imp (fun _ _ r => r.mono hV), fun j v e => ⟨bl, 0, e4 h0, ?_⟩⟩, fun v _ => trivial⟩
      show (if _ then _ else _) = _
      rw [if_pos rfl, Nat.zero_add, ← Array.getElem?_toList, q2]
      exact getElem?_append_some e

theorem frz_rep {k : Nat} {t : Ty} {xs : t.sl.den} {x x' : Ctx} (hV : VLe x.V x'.V) (hs : ∀ q, q ≠ k → x'.sg q = x.sg q) (ht : x'.tg = x.tg)
    (hk : ∀ cs, RepCs x (.os k (List.length xs)) cs → RepCs x' (.sl t xs .no) cs) : ∀ {A : AVal} {cs}, frzOk k (List.length xs) A = true → RepCs x A cs → RepCs x' (frzA k t xs A) cs
  | .i _ _, _, _, e => e
  | .b _, _, _, e => e
  | .s _, _, _, e => e
  | .sl u ys g, _, _, ⟨r, q⟩ => ⟨r.mono hV, fun v e => by
      have := q v e
      cases g with
      | own g => show x'.tg g = _; rw [ht]; exact this
      | _ => exact this⟩
  | .un, _, _, e => e
  | .pr a b, _, hok, ⟨c1, c2, e, r, s⟩ => by
    simp only [frzOk, Bool.and_eq_true] at hok
    exact ⟨c1, c2, e, frz_rep hV hs ht hk hok.1 r, frz_rep hV hs ht hk hok.2 s⟩
  | .bx j off, cs, _, ⟨bl, sz, e, r, z⟩ => by
    simp only [frzA]
    split
    · exact ⟨_, r, rfl⟩
    · rename_i hb; rw [beq_false] at hb; exact ⟨bl, sz, by rw [hs j hb]; exact e, r, z⟩
  | .bi j i off, cs, _, ⟨bl, sz, e, r, z⟩ => by
    simp only [frzA]
    split
    · exact ⟨_, r, rfl⟩
    · rename_i hb; rw [beq_false] at hb; exact ⟨bl, sz, by rw [hs j hb]; exact e, r, z⟩
  | .pt u d, _, _, ⟨bl, off, es, e, r, s⟩ => ⟨bl, off, es, e, r.mono hV, s.mono hV⟩
  | .nls, _, _, e => e
  | .cn _, _, _, e => e
  | .fn _, _, _, e => e
  | .junk, _, _, e => e
  | .ar u ys, _, _, ⟨c1, c2, e, r, s⟩ => ⟨c1, c2, e, RepArr.imp (fun _ _ q => q.mono hV) r, s⟩
  | .os j n, cs, hok, h => by
    simp only [frzA]
    simp only [frzOk] at hok
    split
    · rename_i hb
      rw [hb] at hok
      rw [beq_true] at hb; subst hb
      have hn : n = List.length xs := by simpa using hok
      subst hn
      exact hk cs h
    · rename_i hb; rw [beq_false] at hb
      obtain ⟨bl, sz, ad, e, r, z⟩ := h
      exact ⟨bl, sz, ad, by rw [hs j hb]; exact e, r, z⟩
  | .cl f a b, _, hok, _ => by simp [frzOk] at hok
  | .tu a, _, hok, _ => by simp [frzOk] at hok

theorem in_snds {k j : Nat} {l : List (Nat × Nat)} (h : (k, j) ∈ l) : j ∈ fsts (swapL l) := in_fsts (in_swap.2 h)

theorem get_outSt {b : List (Nat × Nat)} {σ : St} : ∀ {l : List (Nat × Nat)} {ρ ρ' : St}, outSt b σ l ρ = some ρ' → (∀ t, get ρ' (tr t) = get ρ (tr t)) ∧ (∀ j, j ∉ fsts (swapL l) → get ρ' (br j) = get ρ (br j)) ∧
    (nodupN (fsts (swapL l)) = true → ∀ k j, (k, j) ∈ l → ∃ A, get σ (br k) = some A ∧ get ρ' (br j) = some (renA b A))
  | [], ρ, ρ', e => by cases e; exact ⟨fun _ => rfl, fun _ _ => rfl, fun _ k j h => by cases h⟩
  | (k, j) :: l, ρ, ρ', e => by
    simp only [outSt] at e
    split at e
    case h_2 => cases e
    rename_i A hA
    obtain ⟨h1, h2, h3⟩ := get_outSt e
    refine ⟨fun t => (h1 t).trans (by rw [get_put, if_neg (fun h => tr_br h.symm)]), fun q hq => ?_, fun hn k' j' hm => ?_⟩
    · simp only [swapL, fsts, List.mem_cons, not_or] at hq
      rw [h2 q hq.2, get_put, if_neg (fun h => hq.1 (br_inj h).symm)]
    · simp only [swapL, fsts, nodupN] at hn
      split at hn
      · cases hn
      rename_i hj
      rcases List.mem_cons.1 hm with hm | hm
      · cases hm
        refine ⟨A, hA, ?_⟩
        rw [h2 j (fun h => by rw [mem_iff.2 h] at hj; cases hj), get_put, if_pos rfl]
      · exact h3 hn k' j' hm

/-- **The state behind a call**: the caller's, and what the callee has left of the boxes. -/
theorem R.join {D : Nat → Prop} {pin : Nat → Option (Nat × Nat × Nat)} {x1 : Ctx} {σ ρ' : St} {a1 : Act} {w' : World} {b : List (Nat × Nat)} {nr : Nat} (h : R gl V0 w0 nt x ρ a w) (hc : R gl x.V ⟨w, D, pin⟩ nr x1 σ a1 w') (hb : oneOne b = true)
    (ho : outSt b σ b ρ = some ρ') (hD : ∀ bl, D bl → w0.own bl ∧ bl < w.heap.size) (hoff : ∀ j bl sz, x.sg j = some (bl, sz) → sz.2 ≠ 0 → D bl → ∃ k, (k, j) ∈ b)
    (htag : ∀ g bl n c s, x.tg g = some (.slice (some ⟨bl, 0, none⟩) n c, s) → n ≠ c → ¬ D bl) (hkeep : ∀ k j A, (k, j) ∈ b → get ρ (br j) = some A → x1.sg k = x.sg j)
    (hpin : ∀ j p, w0.pin j = some p → ∀ k, (k, j) ∈ b → x1.sg k = some p) :
    ∃ x3, R gl V0 w0 nt x3 ρ' a w' ∧ x3.V = x1.V ∧ ∀ k j, look b k = some j → x3.sg j = x1.sg k := by
  let x3 : Ctx := { V := x1.V, sg := fun j => match look (swapL b) j with | some k => x1.sg k | none => x.sg j, tg := x.tg }
  have hin : ∀ {k j}, look b k = some j → x3.sg j = x1.sg k := fun {k j} e => by
    show (match look (swapL b) j with | some k => x1.sg k | none => x.sg j) = _
    rw [(one_look hb).1 e]
  have hmem : ∀ {k j}, (k, j) ∈ b → look b k = some j := fun {k j} e => (one_in hb).2 e
  have hout : ∀ {j}, (∀ k, (k, j) ∉ b) → x3.sg j = x.sg j := fun {j} e => by
    show (match look (swapL b) j with | some k => x1.sg k | none => x.sg j) = _
    cases hl : look (swapL b) j with
    | none => rfl
    | some k => exact absurd ((one_in hb).1 ((one_look hb).2 hl)) (e k)
  have hn : nodupN (fsts (swapL b)) = true := by
    unfold oneOne at hb; split at hb
    · exact hb
    · cases hb
  obtain ⟨o1, o2, o3⟩ := get_outSt ho
  have o2' : ∀ {j}, (∀ k, (k, j) ∉ b) → get ρ' (br j) = get ρ (br j) := fun {j} hj => o2 j (fun hm => by
    have : ∀ {l : List (Nat × Nat)} {q}, q ∈ fsts l → ∃ p, (q, p) ∈ l := by
      intro l
      induction l with
      | nil => intro q hq; cases hq
      | cons y l ih =>
        intro q hq
        obtain ⟨y1, y2⟩ := y
        rcases List.mem_cons.1 hq with rfl | hq
        · exact ⟨y2, List.mem_cons_self⟩
        · obtain ⟨p, hp⟩ := ih hq; exact ⟨p, List.mem_cons_of_mem _ hp⟩
    obtain ⟨k, hk⟩ := this hm
    exact hj k (in_swap.1 hk))
  -- a box that the caller has
  have hsame : ∀ {j A}, get ρ (br j) = some A → x3.sg j = x.sg j := fun {j A} e => by
    by_cases hj : ∃ k, (k, j) ∈ b
    · obtain ⟨k, hk⟩ := hj
      exact (hin (hmem hk)).trans (hkeep k j A hk e)
    · exact hout (fun k hk => hj ⟨k, hk⟩)
  have hVx : VLe x.V x1.V := hc.good.grow
  have hVold : ∀ b o, b < w.heap.size → ¬ D b → x1.V b o = x.V b o := hc.good.old
  have hbsz : w0.w.heap.size ≤ w.heap.size := h.good.bel.size
  have hblk : ∀ bl, bl < w.heap.size → ¬ D bl → w'.heap[bl]? = w.heap[bl]? := fun bl h1 h2 => hc.good.bel.block bl (fun h => h.elim (fun h => by have : w.heap.size ≤ bl := h; omega) h2)
  have hwsz : w.heap.size ≤ w'.heap.size := hc.good.bel.size
  have hown : ∀ bl, (Base.mk w D pin).own bl → w0.own bl := fun bl h => h.elim (fun h => .inl (Nat.le_trans hbsz h)) (fun h => (hD bl h).1)
  have hup : ∀ {A : AVal} {cs}, (∀ k, mentions k A = true → ∃ A', get ρ (br k) = some A') → RepCs x A cs → RepCs x3 A cs := fun {A cs} hm r =>
    RepCs.resg (x := x) (x' := x3) hVx (fun _ _ e => e) (fun k p m e => by obtain ⟨A', hA'⟩ := hm k m; rw [hsame hA']; exact e) r
  have hclo : ∀ {A : AVal} {k : Nat}, (∀ k, mentions k A = true → ∃ A', get ρ (br k) = some A') → mentions k A = true → ∃ A', get ρ' (br k) = some A' := fun {A k} hm m => by
    obtain ⟨A', hA'⟩ := hm k m
    by_cases hj : ∃ q, (q, k) ∈ b
    · obtain ⟨q, hq⟩ := hj
      obtain ⟨B, _, g2⟩ := o3 hn q k hq
      exact ⟨_, g2⟩
    · rw [o2' (fun q hq => hj ⟨q, hq⟩), hA']; exact ⟨_, rfl⟩
  refine ⟨x3, ⟨⟨hc.good.vis, h.good.grow.trans hVx, fun b o hb hd => (hVold b o (Nat.lt_of_lt_of_le hb hbsz) (fun hD' => (hD b hD').1.elim (fun h => by omega) hd)).trans (h.good.old b o hb hd), ?_, ?_, ?_, ?_, h.good.tinj, ?_, ?_, h.good.gok, ?_⟩, ?_, h.defs, h.size, h.pk⟩, rfl, fun k j e => hin e⟩
  · intro j A e
    by_cases hj : ∃ k, (k, j) ∈ b
    · obtain ⟨k, hk⟩ := hj
      obtain ⟨B, g1, g2⟩ := o3 hn k j hk
      rw [g2] at e; cases e
      obtain ⟨bl, sz, q1, q2⟩ := hc.good.box k B g1
      refine ⟨bl, sz, (hin (hmem hk)).trans q1, ?_⟩
      rcases q2 with ⟨hz, u, rfl, hu⟩ | ⟨hz, cs, E, h2, h3, h4⟩
      · exact .inl ⟨hz, u, rfl, hu⟩
      · exact .inr ⟨hz, cs, E, h2, RepCs.ren (x := x1) (x' := x3) (VLe.refl _) (fun k j e => hin e) h3, fun u ys e => h4 _ _ (ren_ar e)⟩
    · have hj' : ∀ k, (k, j) ∉ b := fun k hk => hj ⟨k, hk⟩
      rw [o2' hj'] at e
      obtain ⟨bl, sz, q1, q2⟩ := h.good.box j A e
      refine ⟨bl, sz, (hout hj').trans q1, ?_⟩
      rcases q2 with ⟨hz, u, rfl, hu⟩ | ⟨hz, cs, E, h2, h3, h4⟩
      · exact .inl ⟨hz, u, rfl, hu⟩
      · obtain ⟨s1, s2, s3⟩ := h.good.sgs j bl sz q1 hz
        have hnD : ¬ D bl := fun hd => by obtain ⟨k, hk⟩ := hoff j bl sz q1 hz hd; exact hj' k hk
        exact .inr ⟨hz, cs, E, (hblk bl s2 hnD).trans h2, hup (fun k m => h.good.clo _ _ k e m) h3, h4⟩
  · intro j bl sz e hz
    by_cases hj : ∃ k, (k, j) ∈ b
    · obtain ⟨k, hk⟩ := hj
      rw [hin (hmem hk)] at e
      obtain ⟨s1, s2, s3⟩ := hc.good.sgs k bl sz e hz
      exact ⟨hown bl s1, s2, s3⟩
    · rw [hout (fun k hk => hj ⟨k, hk⟩)] at e
      obtain ⟨s1, s2, s3⟩ := h.good.sgs j bl sz e hz
      exact ⟨s1, Nat.lt_of_lt_of_le s2 hwsz, fun o => (hVold bl o s2 (fun hd => by obtain ⟨k, hk⟩ := hoff j bl sz e hz hd; exact hj ⟨k, hk⟩)).trans (s3 o)⟩
  · intro j j' bl s1 s2 e1 e2 z1 z2
    have cross : ∀ {k j j' s1 s2}, (k, j) ∈ b → (∀ k, (k, j') ∉ b) → x1.sg k = some (bl, s1) → s1.2 ≠ 0 → x.sg j' = some (bl, s2) → s2.2 ≠ 0 → False := fun {k j j' s1 s2} hk hj' e1 z1 e2 z2 => by
      obtain ⟨t1, _, _⟩ := hc.good.sgs k bl s1 e1 z1
      obtain ⟨u1, u2, u3⟩ := h.good.sgs j' bl s2 e2 z2
      rcases t1 with t1 | t1
      · have : w.heap.size ≤ bl := t1; omega
      · obtain ⟨q, hq⟩ := hoff j' bl s2 e2 z2 t1; exact hj' q hq
    by_cases hj : ∃ k, (k, j) ∈ b <;> by_cases hj' : ∃ k, (k, j') ∈ b
    · obtain ⟨k, hk⟩ := hj
      obtain ⟨k', hk'⟩ := hj'
      rw [hin (hmem hk)] at e1; rw [hin (hmem hk')] at e2
      have := hc.good.inj _ _ _ _ _ e1 e2 z1 z2
      subst this
      have q1 := hmem hk; have q2 := hmem hk'
      rw [q1] at q2; exact Option.some.inj q2
    · obtain ⟨k, hk⟩ := hj
      rw [hin (hmem hk)] at e1; rw [hout (fun k hk => hj' ⟨k, hk⟩)] at e2
      exact (cross hk (fun k hk => hj' ⟨k, hk⟩) e1 z1 e2 z2).elim
    · obtain ⟨k, hk⟩ := hj'
      rw [hin (hmem hk)] at e2; rw [hout (fun k hk => hj ⟨k, hk⟩)] at e1
      exact (cross hk (fun k hk => hj ⟨k, hk⟩) e2 z2 e1 z1).elim
    · rw [hout (fun k hk => hj ⟨k, hk⟩)] at e1; rw [hout (fun k hk => hj' ⟨k, hk⟩)] at e2
      exact h.good.inj _ _ _ _ _ e1 e2 z1 z2
  · intro g v s e
    obtain ⟨ad, n, c, rfl, h1, h2⟩ := h.good.tag g v s e
    refine ⟨ad, n, c, rfl, h1, ?_⟩
    by_cases hnc : n = c
    · exact .inl hnc
    · obtain ⟨bl, cur, E, a1, a2, a3, a4, a5, a6⟩ := h2.resolve_left hnc
      subst a1
      have hl := (Array.getElem?_eq_some_iff.1 a3).1
      have hnD := htag g bl n c s e hnc
      refine .inr ⟨bl, cur, E, rfl, a2, (hblk bl hl hnD).trans a3, a4, fun o ho => (hVold bl o hl hnD).trans (a5 o ho), fun j sz hz e => ?_⟩
      by_cases hj : ∃ k, (k, j) ∈ b
      · obtain ⟨k, hk⟩ := hj
        rw [hin (hmem hk)] at e
        obtain ⟨t1, _, _⟩ := hc.good.sgs k bl sz e hz
        rcases t1 with t1 | t1
        · have : w.heap.size ≤ bl := t1; omega
        · exact hnD t1
      · rw [hout (fun k hk => hj ⟨k, hk⟩)] at e
        exact a6 j sz hz e
  · exact ⟨hc.good.bel.os.trans h.good.bel.os, hc.good.bel.tape.trans h.good.bel.tape, hc.good.bel.output.trans h.good.bel.output, Nat.le_trans hbsz hwsz, fun k hk =>
      (hc.good.bel.block k (fun h => hk (hown k h))).trans (h.good.bel.block k hk)⟩
  · intro r A k e m
    by_cases hr : ∃ q j, (q, j) ∈ b ∧ r = br j
    · obtain ⟨q, j, hq, rfl⟩ := hr
      obtain ⟨B, g1, g2⟩ := o3 hn q j hq
      rw [g2] at e; cases e
      obtain ⟨q', h1, _⟩ := ren_men m
      obtain ⟨B', _, g2'⟩ := o3 hn q' k ((one_in hb).1 h1)
      exact ⟨_, g2'⟩
    · have hrr : get ρ' r = get ρ r := by
        rcases Nat.mod_two_eq_zero_or_one r with h0 | h0
        · have : r = tr (r / 2) := by simp only [tr]; omega
          rw [this]; exact o1 _
        · have : r = br (r / 2) := by simp only [br]; omega
          rw [this]; exact o2' (fun q hq => hr ⟨q, _, hq, this⟩)
      rw [hrr] at e
      exact hclo (fun k m => h.good.clo r A k e m) m
  · intro j p e
    by_cases hj : ∃ k, (k, j) ∈ b
    · obtain ⟨k, hk⟩ := hj
      exact (hin (hmem hk)).trans (hpin j p e k hk)
    · exact (hout (fun k hk => hj ⟨k, hk⟩)).trans (h.good.pin j p e)
  · intro t A e
    rw [o1] at e
    exact RepV.resg (x := x) (x' := x3) hVx (fun _ _ e => e) (fun k p m e' => by obtain ⟨A', hA'⟩ := h.good.clo _ _ k e m; rw [hsame hA']; exact e') (h.slots t A e)

end
end Go.Abs
