/- The abstract machine, part 12: append. Own text of this session. -/
import Derived.Test.YtkkkjcpfahhhpaaDoorAbs11
set_option linter.unusedVariables false
set_option linter.unusedSimpArgs false
namespace Go.Abs
open Go Go.RowKit

section
variable {P : Program} {gl : List (Nat × AVal)} {C : Cfg} {V0 V : Vis} {w0 : Base} {w : World} {x : Ctx} {ρ : St} {a : Act} {nt : Nat}
variable {α : Type} {K : St → Foot → Option α} {z : α} {d ty : Nat} {ps : String} {af : Array Edge} {gd : Option (Nat × Bool)}

theorem run_append_zero (t tyy e : TypeId) (i : TypeInfo) (ht : P.underlying t = some (.slice e)) (hi : P.info? e = some i) (ad ad2 : Option Addr) (n c c2 : Nat) (hn : n ≤ c) :
    (Builtin.append_ #[t, t] tyy #[.slice ad n c, .slice ad2 0 c2]).run P w = .ok (.slice ad n c) w := by
  have hf : ∀ sz, (Builtin.firstCells sz 0 (.slice ad2 0 c2)).run P w = .ok #[] w := fun sz => by
    cases ad2 <;> simp [Builtin.firstCells, loadCells, loadCellsFrom]
  cases ad with
  | none => simp [Builtin.append_, run_underlying ht, sizeOf, typeInfo, hi, Builtin.lenOf, hn, hf]
  | some b => simp [Builtin.append_, run_underlying ht, sizeOf, typeInfo, hi, Builtin.lenOf, hn, hf, storeCells]

def visAt (V : Vis) (bl from_ : Nat) (es : List Value) : Vis := fun b o => if b = bl ∧ from_ ≤ o ∧ o < from_ + es.length then es[o - from_]? else V b o

/-- What an append comes to: of the slice 'va' (a full one, or one of the call's own), by the row 'es2' that 'vb' has. -/
theorem append_case (h : R gl V0 w0 nt x ρ a w) {t : Ty} {T E eb tyy : Nat} {i : TypeInfo} (hu : P.underlying T = some (.slice E)) (hi : P.info? E = some i) (hs : i.size = t.size) (hz : zOk t i.zero = true) (hb : i.bytes = eb) (hs1 : 1 ≤ t.size) (heb : 1 ≤ eb)
    {xs ys : List t.den} {ad ad2 : Option Addr} {c c2 : Nat} {es es2 : List Value} (hc : xs.length ≤ c) (hr : RepArr (RepT x.V t) xs es) (hrd : Reads x.V ad es) (hr2 : RepArr (RepT x.V t) ys es2) (hrd2 : Reads x.V ad2 es2) (hc2 : ys.length ≤ c2)
    (hbytes : (xs.length + ys.length) * eb ≤ 140737488351232) (g : Nat)
    (htag : xs.length = c ∨ x.tg g = some (.slice ad xs.length c, t.size)) :
    ∃ v' w' V', (Builtin.append_ #[T, T] tyy #[.slice ad xs.length c, .slice ad2 ys.length c2]).run P w = .ok v' w' ∧
      R gl V0 w0 nt { V := V', sg := x.sg, tg := fun q => if q = g then some (v', t.size) else x.tg q } (stripAll g ρ) a w' ∧
      (∃ ad' c', v' = .slice ad' (xs ++ ys).length c' ∧ (xs ++ ys).length ≤ c' ∧ RepArr (RepT V' t) (xs ++ ys) (es ++ es2) ∧ Reads V' ad' (es ++ es2)) := by
  have hlen : es.length = xs.length * t.size := hr.len (fun _ _ q => q.len)
  have hlen2 : es2.length = ys.length * t.size := hr2.len (fun _ _ q => q.len)
  obtain ⟨zv, hzv, hzr⟩ := zeroD_rep (V := x.V) hz
  have hzl : zv.cells.size = t.size := by rw [← Array.length_toList, hzr.len]
  have hone : ∀ u ∈ es2, u.oneCell' = true := RepArr.one (fun _ _ q => q.one) hr2
  have hcell2 : ∀ bl off, ad2 = some ⟨bl, off, none⟩ → ∀ j v, es2[j]? = some v → w.cell? ((⟨bl, off, none⟩ : Addr).add j) = some v := fun bl off e j v ev => by
    rw [Addr.add_lit]; subst e; exact Reads.cell h.good.vis hrd2 j v ev
  by_cases hm : ys.length = 0
  · -- nothing is appended
    have hys : ys = [] := List.eq_nil_of_length_eq_zero hm
    subst hys
    have hes2 : es2 = [] := hr2
    subst hes2
    have hrun := run_append_zero (P := P) (w := w) T tyy E i hu hi ad ad2 xs.length c c2 hc
    refine ⟨.slice ad xs.length c, w, x.V, hrun, ?_, ⟨ad, c, by simp, by simpa using hc, by simpa using hr, by simpa using hrd⟩⟩
    refine h.tagged h.good.vis (VLe.refl _) (fun _ _ _ => rfl) h.good.bel (Nat.le_refl _) (fun k bl sz e hz => ⟨rfl, (h.good.sgs _ _ _ e hz).2.2⟩) (fun q ad n c s' _ _ _ bl _ => ⟨rfl, fun _ _ e => e⟩) ⟨ad, xs.length, c, rfl, hc, ?_⟩
    rcases htag with hf | ht
    · exact .inl hf
    · by_cases hnc : xs.length = c
      · exact .inl hnc
      obtain ⟨ad', n', c', e1, _, h2⟩ := h.good.tag g _ _ ht
      cases e1
      obtain ⟨bl, cur, E', a1, a2, a3, a4, a5, a6⟩ := h2.resolve_left hnc
      refine .inr ⟨bl, cur, E', a1, a2, a3, a4, a5, a6, fun q n2 c2' s2 hq e2 => ?_⟩
      apply Classical.byContradiction
      intro hne
      subst a1
      exact hq (h.good.tinj q g bl n2 c2' s2 _ c t.size e2 ht hne hnc)
  · have hpos : 0 < ys.length := Nat.pos_of_ne_zero hm
    obtain ⟨u0, hu0⟩ : ∃ u, es2[0]? = some u := by
      have : 0 < es2.length := by rw [hlen2]; exact Nat.mul_pos hpos hs1
      exact ⟨es2[0], List.getElem?_eq_getElem this⟩
    obtain ⟨bl2, off2, rfl, _⟩ := hrd2 0 u0 hu0
    have hnm : xs.length + ys.length ≤ 140737488351232 := by
      have : (xs.length + ys.length) * 1 ≤ (xs.length + ys.length) * eb := Nat.mul_le_mul_left _ heb
      omega
    have hlenc : (xs ++ ys).length = xs.length + ys.length := List.length_append
    have hn2 := hcell2 bl2 off2 rfl
    by_cases hroom : xs.length + ys.length ≤ c
    · -- in place
      have hnc : xs.length ≠ c := by omega
      have ht := htag.resolve_left hnc
      obtain ⟨ad', n', c', e1, _, h2⟩ := h.good.tag g _ _ ht
      cases e1
      obtain ⟨bl, cur, E', a1, a2, a3, a4, a5, a6⟩ := h2.resolve_left hnc
      subst a1
      have hbl := (Array.getElem?_eq_some_iff.1 a3).1
      have hfit : xs.length * i.size + es2.length ≤ cur.size := by rw [hs, hlen2, a4, ← Nat.add_mul]; exact Nat.mul_le_mul_right _ hroom
      have hEE : E' = E' := rfl
      have hrun : (Builtin.append_ #[T, T] tyy #[.slice (some ⟨bl, 0, none⟩) xs.length c, .slice (some ⟨bl2, off2, none⟩) ys.length c2]).run P w =
          .ok (.slice (some ⟨bl, 0, none⟩) (xs.length + ys.length) c) (w.setRow bl (cur.toList.take (xs.length * i.size) ++ es2 ++ cur.toList.drop (xs.length * i.size + es2.length)).toArray) := by
        have hf := run_firstCells_some (P := P) w i.size ys.length ⟨bl2, off2, none⟩ ys.length c2 es2 (by rw [hlen2, hs]) hn2
        have hst := run_storeCells_at P bl (xs.length * i.size) E' es2 0 cur w a3 (by simpa using hfit) hone
        simp only [Nat.add_zero] at hst
        simp [Builtin.append_, run_underlying hu, sizeOf, typeInfo, hi, Builtin.lenOf, hroom, hf, Addr.add_lit, hst]
      rw [hs] at hrun
      let cells' : List Value := cur.toList.take (xs.length * t.size) ++ es2 ++ cur.toList.drop (xs.length * t.size + es2.length)
      have htl : (cur.toList.take (xs.length * t.size)).length = xs.length * t.size := by
        rw [List.length_take]; have := hfit; rw [hs] at this; simp; omega
      have hh : (w.setRow bl cells'.toArray).heap[bl]? = some (.cells cells'.toArray E' (0, 0)) := setRow_heap w bl _ _ _ _ a3
      have hoth : ∀ j, j ≠ bl → (w.setRow bl cells'.toArray).heap[j]? = w.heap[j]? := fun j hj => setRow_other w bl j _ hj
      let V' := visAt x.V bl (xs.length * t.size) es2
      have hV : VLe x.V V' := fun b o v e => by
        show (if _ then _ else _) = _
        split
        · rename_i hc'; obtain ⟨rfl, h1, h2⟩ := hc'
          rw [a5 o h1] at e; cases e
        · exact e
      have hvis : VisOk V' (w.setRow bl cells'.toArray) := fun b o v e => by
        change (if _ then _ else _) = _ at e
        split at e
        · rename_i hc'; obtain ⟨rfl, h1, h2⟩ := hc'
          rw [cell_of_row _ _ _ _ _ _ hh]
          show cells'.toArray[o]? = _
          rw [List.getElem?_toArray]
          show (cur.toList.take (xs.length * t.size) ++ es2 ++ _)[o]? = _
          rw [List.append_assoc, List.getElem?_append_right (by omega), htl, List.getElem?_append_left (by omega)]
          exact e
        · rename_i hc'
          have h1 := h.good.vis b o v e
          by_cases hb' : b = bl
          · subst hb'
            have ho : o < xs.length * t.size := by
              apply Classical.byContradiction; intro hno
              rw [a5 o (by omega)] at e; cases e
            rw [cell_of_row _ _ _ _ _ _ a3] at h1
            rw [cell_of_row _ _ _ _ _ _ hh]
            show cells'.toArray[o]? = _
            rw [List.getElem?_toArray]
            show (cur.toList.take (xs.length * t.size) ++ es2 ++ _)[o]? = _
            rw [List.append_assoc, List.getElem?_append_left (by omega), List.getElem?_take, if_pos ho]
            simpa using h1
          · rw [World.cell?_of_block (a := ⟨b, o, none⟩) (hoth b hb')]; exact h1
      have hne : ∀ k bl' sz, x.sg k = some (bl', sz) → sz.2 ≠ 0 → bl' ≠ bl := fun k bl' sz e hz hb' => by subst hb'; exact a6 k sz hz e
      refine ⟨_, _, V', hrun, h.tagged hvis hV (fun b o hb' => ?_) ?_ (by rw [size_setRow]; exact Nat.le_refl _) (fun k bl' sz e hz => ⟨hoth _ (hne k bl' sz e hz), fun o => ?_⟩) (fun q ad n c' s' hq e hnc' bl' had => ?_)
        ⟨some ⟨bl, 0, none⟩, xs.length + ys.length, c, rfl, hroom, .inr ⟨bl, _, E', rfl, a2, hh, ?_, fun o ho => ?_, a6, fun q n2 c3 s2 hq e2 => ?_⟩⟩, ⟨_, c, by rw [hlenc], by rw [hlenc]; exact hroom, (hr.imp fun _ _ q => q.mono hV).append (hr2.imp fun _ _ q => q.mono hV), ?_⟩⟩
      · show (if _ then _ else _) = _
        rw [if_neg (fun hc' => by omega)]
      · exact ⟨h.good.bel.os, h.good.bel.tape, h.good.bel.output, by rw [size_setRow]; exact h.good.bel.size, fun j hj => by rw [hoth j (fun e => hj (e ▸ .inl a2))]; exact h.good.bel.block j hj⟩
      · show (if _ then _ else _) = _
        rw [if_neg (fun hc' => hne k bl' sz e hz hc'.1)]
        exact (h.good.sgs _ _ _ e hz).2.2 o
      · subst had
        have hbb : bl' ≠ bl := fun hb' => by subst hb'; exact hq (h.good.tinj q g bl' n c' s' _ c t.size e ht hnc' hnc)
        exact ⟨hoth _ hbb, fun o _ hv => by show (if _ then _ else _) = _; rw [if_neg (fun hc' => hbb hc'.1)]; exact hv⟩
      · show cells'.toArray.size = _
        rw [List.size_toArray, ← a4]
        show (cur.toList.take (xs.length * t.size) ++ es2 ++ cur.toList.drop (xs.length * t.size + es2.length)).length = _
        rw [hs] at hfit
        simp only [List.length_append, htl, List.length_drop, Array.length_toList]; omega
      · show (if _ then _ else _) = _
        rw [if_neg (fun hc' => by rw [hlen2] at hc'; have := hc'.2.2; rw [← Nat.add_mul] at this; omega)]
        exact a5 o (Nat.le_trans (Nat.mul_le_mul_right _ (by omega)) ho)
      · apply Classical.byContradiction
        intro hne'
        exact hq (h.good.tinj q g bl n2 c3 s2 _ c t.size e2 ht hne' hnc)
      · intro j v e
        refine ⟨bl, 0, rfl, ?_⟩
        rw [Nat.zero_add]
        by_cases hj : j < es.length
        · rw [List.getElem?_append_left hj] at e
          obtain ⟨b', o', q1, q2⟩ := hrd j v e
          cases q1
          rw [Nat.zero_add] at q2
          exact hV _ _ _ q2
        · rw [List.getElem?_append_right (by omega)] at e
          show (if _ then _ else _) = _
          have hj2 := (List.getElem?_eq_some_iff.1 e).1
          rw [if_pos ⟨rfl, by omega, by omega⟩, ← hlen]; exact e
    · -- a new row
      have hnew : ∃ cap, xs.length + ys.length ≤ cap ∧ (Builtin.append_ #[T, T] tyy #[.slice ad xs.length c, .slice (some ⟨bl2, off2, none⟩) ys.length c2]).run P w =
          .ok (.slice (some ⟨w.heap.size, 0, none⟩) (xs.length + ys.length) cap) (w.drew.alloc (.cells (es.toArray ++ es2.toArray ++ Builtin.zeroCells zv.cells (cap - (xs.length + ys.length))) E)) := by
        cases ad with
        | none =>
          have hes : es = [] := by
            cases hes : es with
            | nil => rfl
            | cons v l =>
              obtain ⟨_, _, h1, _⟩ := hrd 0 v (by rw [hes]; rfl)
              cases h1
          have hx0 : xs.length = 0 := by
            rw [hes] at hlen
            rcases Nat.mul_eq_zero.1 hlen.symm with h' | h'
            · exact h'
            · omega
          have hc0 : c = 0 := by
            rcases htag with hf | ht
            · omega
            · obtain ⟨ad', n', c', e1, _, h2⟩ := h.good.tag g _ _ ht
              cases e1
              rcases h2 with h2 | ⟨bl, cur, E', a1, _⟩
              · omega
              · cases a1
          subst hc0
          refine ⟨grownCap w (0 + ys.length) 0 E, by rw [hx0]; exact grownCap_ge .., ?_⟩
          have := run_append_nil (P := P) (w := w) T tyy E i zv hu hi hzv ⟨bl2, off2, none⟩ ys.length c2 es2 (by rw [hlen2, hs]) hn2 hpos (by omega) (by rw [hb]; rw [hx0, Nat.zero_add] at hbytes; omega)
          rw [hx0, hes, Nat.zero_add]
          rw [this]
          simp
        | some b =>
          refine ⟨grownCap w (xs.length + ys.length) c E, grownCap_ge .., ?_⟩
          exact run_append_grow (P := P) (w := w) T tyy E i zv hu hi hzv b xs.length c es (by rw [hlen, hs]) (fun j v ev => by
              obtain ⟨b', o', q1, q2⟩ := hrd j v ev
              cases q1
              rw [Addr.add_lit]; exact h.good.vis _ _ _ q2) ⟨bl2, off2, none⟩ ys.length c2 es2 (by rw [hlen2, hs]) hn2 (by omega) (by omega) (growslice_fits (by omega) (by rw [hb]; omega))
      obtain ⟨cap, hcap, hrun⟩ := hnew
      let cells' : Array Value := es.toArray ++ es2.toArray ++ Builtin.zeroCells zv.cells (cap - (xs.length + ys.length))
      have hw : Below w.heap.size w (w.drew.alloc (.cells cells' E)) := ((Below.refl _ w).drew).alloc (Nat.le_refl _) _
      have hh : (w.drew.alloc (.cells cells' E)).heap[w.heap.size]? = some (.cells cells' E (0, 0)) := heap_alloc_new w.drew _
      let V' := visNew x.V w.heap.size (es ++ es2)
      have hV : VLe x.V V' := visNew_le h.good.vis
      have hvis : VisOk V' (w.drew.alloc (.cells cells' E)) := visNew_ok h.good.vis hw hh (fun j v e => by
        show cells'[j]? = _
        rw [← Array.getElem?_toList]
        show ((es.toArray ++ es2.toArray ++ _).toList)[j]? = _
        rw [Array.toList_append, Array.toList_append, List.getElem?_append_left (by simpa using (List.getElem?_eq_some_iff.1 e).1)]
        exact e)
      have hold := h.good.bel.size
      refine ⟨_, _, V', hrun, h.tagged hvis hV (fun b o hb' => visNew_old b o (by omega)) (h.good.bel.below hw) (by rw [World.size_alloc]; simp) (fun k bl' sz e hz => ?_) (fun q ad' n c' s' hq e hnc' bl' had => ?_)
        ⟨some ⟨w.heap.size, 0, none⟩, xs.length + ys.length, cap, rfl, hcap, .inr ⟨w.heap.size, cells', E, rfl, hold, hh, ?_, fun o ho => ?_, fun k sz hz e => ?_, fun q n2 c3 s2 hq e2 => ?_⟩⟩, ⟨_, cap, by rw [hlenc], by rw [hlenc]; exact hcap, (hr.imp fun _ _ q => q.mono hV).append (hr2.imp fun _ _ q => q.mono hV), visNew_reads⟩⟩
      · obtain ⟨s1, s2, s3⟩ := h.good.sgs k bl' sz e hz
        exact ⟨hw.block bl' s2, fun o => (visNew_old bl' o s2).trans (s3 o)⟩
      · subst had
        obtain ⟨ad', n', c'', e1, _, h2⟩ := h.good.tag q _ _ e
        cases e1
        obtain ⟨bl, cur, E', a1, _, a3, _⟩ := h2.resolve_left hnc'
        cases a1
        have hl := (Array.getElem?_eq_some_iff.1 a3).1
        exact ⟨hw.block _ hl, fun o _ hv => (visNew_old _ o hl).trans hv⟩
      · show (es.toArray ++ es2.toArray ++ Builtin.zeroCells zv.cells (cap - (xs.length + ys.length))).size = _
        simp only [Array.size_append, List.size_toArray, size_zeroCells, hzl, hlen, hlen2, ← Nat.add_mul]
        congr 1; omega
      · show (if _ then _ else _) = _
        rw [if_pos rfl]
        refine List.getElem?_eq_none ?_
        rw [List.length_append, hlen, hlen2, ← Nat.add_mul]; exact ho
      · have := (h.good.sgs _ _ _ e hz).2.1; omega
      · apply Classical.byContradiction
        intro hne'
        obtain ⟨ad', n', c'', e1, _, h2⟩ := h.good.tag q _ _ e2
        cases e1
        obtain ⟨bl, cur, E', a1, _, a3, _⟩ := h2.resolve_left hne'
        cases a1
        have hl := (Array.getElem?_eq_some_iff.1 a3).1
        omega

/-! ### Owned slices -/
theorem killA_ar {k : Nat} {A : AVal} {t : Ty} {xs : t.sl.den} (e : killA k A = .ar t xs) : A = .ar t xs := by
  cases A <;> simp only [killA] at e <;> (try (cases e; done))
  case ar => exact e
  all_goals (split at e <;> cases e)

theorem killA_men {k j : Nat} : ∀ {A : AVal}, mentions j (killA k A) = true → mentions j A = true ∧ j ≠ k := by
  intro A
  induction A with
  | bx i o =>
    intro h
    simp only [killA] at h
    split at h
    · simp [mentions] at h
    · rename_i hb; rw [beq_false] at hb
      refine ⟨h, ?_⟩
      simp only [mentions, beq_true] at h; subst h; exact hb
  | bi i q o =>
    intro h
    simp only [killA] at h
    split at h
    · simp [mentions] at h
    · rename_i hb; rw [beq_false] at hb
      refine ⟨h, ?_⟩
      simp only [mentions, beq_true] at h; subst h; exact hb
  | os i n =>
    intro h
    simp only [killA] at h
    split at h
    · simp [mentions] at h
    · rename_i hb; rw [beq_false] at hb
      refine ⟨h, ?_⟩
      simp only [mentions, beq_true] at h; subst h; exact hb
  | pr p q ihp ihq =>
    intro h
    simp only [killA, mentions] at h ⊢
    split at h
    · rename_i hm; obtain ⟨h1, h2⟩ := ihp hm; rw [h1]; exact ⟨rfl, h2⟩
    · obtain ⟨h1, h2⟩ := ihq h
      refine ⟨?_, h2⟩
      split
      · rfl
      · exact h1
  | cl f p q ihp ihq =>
    intro h
    simp only [killA, mentions] at h ⊢
    split at h
    · rename_i hm; obtain ⟨h1, h2⟩ := ihp hm; rw [h1]; exact ⟨rfl, h2⟩
    · obtain ⟨h1, h2⟩ := ihq h
      refine ⟨?_, h2⟩
      split
      · rfl
      · exact h1
  | tu p ih => intro h; exact ih h
  | _ => intro h; simp [killA, mentions] at h

theorem get_kill (k : Nat) : ∀ (ρ : St) (r : Nat), get (killAll k ρ) r = (get ρ r).map (killA k)
  | [], r => rfl
  | (q, v) :: l, r => by
    simp only [killAll, get]
    split
    · rfl
    · exact get_kill k l r

theorem RepCs.kill {x x' : Ctx} {k : Nat} (hV : x'.V = x.V) (hs : ∀ j, j ≠ k → x'.sg j = x.sg j) (ht : x'.tg = x.tg) : ∀ {A cs}, RepCs x A cs → RepCs x' (killA k A) cs
  | .i _ _, _, e => e
  | .b _, _, e => e
  | .s _, _, e => e
  | .sl t xs g, _, ⟨r, q⟩ => ⟨by rw [hV]; exact r, fun v e => by
      have := q v e
      cases g with
      | own g => show x'.tg g = _; rw [ht]; exact this
      | _ => exact this⟩
  | .un, _, e => e
  | .pr a b, _, ⟨c1, c2, e, r, s⟩ => ⟨c1, c2, e, RepCs.kill hV hs ht r, RepCs.kill hV hs ht s⟩
  | .bx j off, cs, ⟨bl, sz, e, r, z⟩ => by
    simp only [killA]
    split
    · exact ⟨_, r, rfl⟩
    · rename_i hb; rw [beq_false] at hb; exact ⟨bl, sz, by rw [hs j hb]; exact e, r, z⟩
  | .bi j i off, cs, ⟨bl, sz, e, r, z⟩ => by
    simp only [killA]
    split
    · exact ⟨_, r, rfl⟩
    · rename_i hb; rw [beq_false] at hb; exact ⟨bl, sz, by rw [hs j hb]; exact e, r, z⟩
  | .pt t d, _, ⟨bl, off, es, e, r, s⟩ => ⟨bl, off, es, e, by rw [hV]; exact r, by rw [hV]; exact s⟩
  | .nls, _, e => e
  | .cn _, _, e => e
  | .fn _, _, e => e
  | .junk, _, e => e
  | .ar t xs, _, ⟨c1, c2, e, r, s⟩ => ⟨c1, c2, e, by rw [hV]; exact r, s⟩
  | .os j n, cs, ⟨bl, sz, ad, e, r, z⟩ => by
    simp only [killA]
    split
    · exact ⟨_, r, rfl⟩
    · rename_i hb; rw [beq_false] at hb; exact ⟨bl, sz, ad, by rw [hs j hb]; exact e, r, z⟩
  | .cl f a b, _, ⟨c1, c2, e, r, s⟩ => ⟨c1, c2, e, RepCs.kill hV hs ht r, RepCs.kill hV hs ht s⟩

theorem RepV1.kill {x x' : Ctx} {k : Nat} (hV : x'.V = x.V) (hs : ∀ j, j ≠ k → x'.sg j = x.sg j) (ht : x'.tg = x.tg) {A v} (h : RepV1 x A v) : RepV1 x' (killA k A) v := by
  cases A with
  | un => exact h
  | pr a b => obtain ⟨cs, e, r⟩ := h; exact ⟨cs, e, RepCs.kill (A := .pr a b) hV hs ht r⟩
  | ar t xs => exact h.elim
  | tu a => exact h.elim
  | nd => exact h.elim
  | bx j o =>
    have := RepCs.kill (A := .bx j o) hV hs ht h
    revert this; simp only [killA]; split <;> exact id
  | bi j i o =>
    have := RepCs.kill (A := .bi j i o) hV hs ht h
    revert this; simp only [killA]; split <;> exact id
  | os j n =>
    have := RepCs.kill (A := .os j n) hV hs ht h
    revert this; simp only [killA]; split <;> exact id
  | cl f a b => exact RepCs.kill (A := .cl f a b) hV hs ht h
  | i q n => exact RepCs.kill (A := .i q n) hV hs ht h
  | b q => exact RepCs.kill (A := .b q) hV hs ht h
  | s q => exact RepCs.kill (A := .s q) hV hs ht h
  | sl t xs g => exact RepCs.kill (A := .sl t xs g) hV hs ht h
  | pt t d => exact RepCs.kill (A := .pt t d) hV hs ht h
  | nls => exact RepCs.kill (A := .nls) hV hs ht h
  | cn q => exact RepCs.kill (A := .cn q) hV hs ht h
  | fn q => exact RepCs.kill (A := .fn q) hV hs ht h
  | junk => exact RepCs.kill (A := .junk) hV hs ht h

theorem RepTup.kill {x x' : Ctx} {k : Nat} (hV : x'.V = x.V) (hs : ∀ j, j ≠ k → x'.sg j = x.sg j) (ht : x'.tg = x.tg) : ∀ {A vs}, RepTup x A vs → RepTup x' (killA k A) vs
  | .un, _, e => e
  | .pr a b, _, ⟨v, r, e, q, s⟩ => ⟨v, r, e, q.kill hV hs ht, RepTup.kill hV hs ht s⟩

theorem RepV.kill {x x' : Ctx} {k : Nat} (hV : x'.V = x.V) (hs : ∀ j, j ≠ k → x'.sg j = x.sg j) (ht : x'.tg = x.tg) {A v} (h : RepV x A v) : RepV x' (killA k A) v := by
  cases A with
  | tu l => obtain ⟨vs, e, r⟩ := h; exact ⟨vs, e, r.kill hV hs ht⟩
  | nd => exact h
  | ar t xs => exact h.elim
  | bx j o =>
    have := RepV1.kill (A := .bx j o) hV hs ht h
    revert this; simp only [killA]; split <;> exact id
  | bi j i o =>
    have := RepV1.kill (A := .bi j i o) hV hs ht h
    revert this; simp only [killA]; split <;> exact id
  | os j n =>
    have := RepV1.kill (A := .os j n) hV hs ht h
    revert this; simp only [killA]; split <;> exact id
  | cl f a b => exact RepV1.kill (A := .cl f a b) hV hs ht h
  | un => exact RepV1.kill (A := .un) hV hs ht h
  | pr a b => exact RepV1.kill (A := .pr a b) hV hs ht h
  | i q n => exact RepV1.kill (A := .i q n) hV hs ht h
  | b q => exact RepV1.kill (A := .b q) hV hs ht h
  | s q => exact RepV1.kill (A := .s q) hV hs ht h
  | sl t xs g => exact RepV1.kill (A := .sl t xs g) hV hs ht h
  | pt t d => exact RepV1.kill (A := .pt t d) hV hs ht h
  | nls => exact RepV1.kill (A := .nls) hV hs ht h
  | cn q => exact RepV1.kill (A := .cn q) hV hs ht h
  | fn q => exact RepV1.kill (A := .fn q) hV hs ht h
  | junk => exact RepV1.kill (A := .junk) hV hs ht h

/-- An owned slice that moved, or grew. -/
theorem R.reown {w' : World} {k bl' : Nat} {sz' : Nat × Nat} {t : Ty} {xs : t.sl.den} (h : R gl V0 w0 nt x ρ a w) (hkn : k < nt) {c0 : AVal} (hk : get ρ (br k) = some c0)
    (hvis : VisOk x.V w') (hbel : w0.But w') (hsz : w.heap.size ≤ w'.heap.size)
    (hoth : ∀ j b s, j ≠ k → x.sg j = some (b, s) → s.2 ≠ 0 → w'.heap[b]? = w.heap[b]?)
    (htag : ∀ q n c s b, x.tg q = some (.slice (some ⟨b, 0, none⟩) n c, s) → n ≠ c → w'.heap[b]? = w.heap[b]?)
    (hnew : (sz'.2 = 0 ∧ ∃ u, AVal.ar t xs = .ar u [] ∧ sz'.1 = u.size) ∨ (sz'.2 ≠ 0 ∧ ∃ cs E, w'.heap[bl']? = some (.cells cs E (0, 0)) ∧ RepCs x (.ar t xs) cs.toList ∧ (sz'.1 = t.size ∧ cs.size = sz'.2 * t.size) ∧
      w0.own bl' ∧ (∀ o, x.V bl' o = none) ∧ (∀ j b s, j ≠ k → x.sg j = some (b, s) → s.2 ≠ 0 → b ≠ bl') ∧ (∀ q n c s, x.tg q = some (.slice (some ⟨bl', 0, none⟩) n c, s) → n = c))) :
    R gl V0 w0 nt { x with sg := fun j => if j = k then some (bl', sz') else x.sg j } (put (br k) (.ar t xs) (killAll k ρ)) a w' := by
  let x' : Ctx := { x with sg := fun j => if j = k then some (bl', sz') else x.sg j }
  have hs : ∀ j, j ≠ k → x'.sg j = x.sg j := fun j hj => by show (if _ then _ else _) = _; rw [if_neg hj]
  have hsk : x'.sg k = some (bl', sz') := by show (if _ then _ else _) = _; rw [if_pos rfl]
  have hput : ∀ j, get (put (br k) (.ar t xs) (killAll k ρ)) (br j) = if j = k then some (.ar t xs) else (get ρ (br j)).map (killA k) := fun j => by
    rw [get_put, get_kill]
    by_cases e : j = k
    · rw [if_pos (by rw [e]), if_pos e]
    · rw [if_neg (fun h => e (br_inj h).symm), if_neg e]
  have hg := h.good
  refine ⟨⟨hvis, hg.grow, hg.old, ?_, ?_, ?_, ?_, hg.tinj, hbel, ?_, hg.gok, fun j p e => (hs j (fun hj => by have := h.pk j p e; omega)).trans (hg.pin j p e)⟩, ?_, h.defs, h.size, h.pk⟩
  · intro j A e
    rw [hput] at e
    split at e
    · rename_i hj; subst hj; cases e
      refine ⟨bl', sz', hsk, ?_⟩
      rcases hnew with hn | ⟨hz, cs, E, h1, h2, h3, _⟩
      · exact .inl hn
      · exact .inr ⟨hz, cs, E, h1, h2, fun u ys e => by cases e; exact h3⟩
    · rename_i hj
      cases hB : get ρ (br j) with
      | none => rw [hB] at e; cases e
      | some B =>
        rw [hB] at e; cases e
        obtain ⟨bl, sz, h1, h2⟩ := hg.box j B hB
        refine ⟨bl, sz, (hs j hj).trans h1, ?_⟩
        rcases h2 with ⟨hz, u, rfl, hu⟩ | ⟨hz, cs, E, h2, h3, h4⟩
        · exact .inl ⟨hz, u, rfl, hu⟩
        · exact .inr ⟨hz, cs, E, (hoth j bl sz hj h1 hz).trans h2, RepCs.kill (x := x) (x' := x') rfl hs rfl h3, fun u ys e => h4 _ _ (killA_ar e)⟩
  · intro j bl sz e hz
    by_cases hj : j = k
    · subst hj
      rw [hsk] at e; cases e
      rcases hnew with ⟨h0, _⟩ | ⟨_, cs, E, h1, _, _, h4, h5, _⟩
      · exact absurd h0 hz
      · exact ⟨h4, (Array.getElem?_eq_some_iff.1 h1).1, h5⟩
    · rw [hs j hj] at e
      obtain ⟨h1, h2, h3⟩ := hg.sgs j bl sz e hz
      exact ⟨h1, Nat.lt_of_lt_of_le h2 hsz, h3⟩
  · intro j j' bl s1 s2 e1 e2 z1 z2
    by_cases hj : j = k <;> by_cases hj' : j' = k
    · rw [hj, hj']
    · subst hj
      rw [hsk] at e1; cases e1
      rw [hs j' hj'] at e2
      rcases hnew with ⟨h0, _⟩ | ⟨_, cs, E, _, _, _, _, _, h6, _⟩
      · exact absurd h0 z1
      · exact absurd rfl (h6 j' _ _ hj' e2 z2)
    · subst hj'
      rw [hsk] at e2; cases e2
      rw [hs j hj] at e1
      rcases hnew with ⟨h0, _⟩ | ⟨_, cs, E, _, _, _, _, _, h6, _⟩
      · exact absurd h0 z2
      · exact absurd rfl (h6 j _ _ hj e1 z1)
    · rw [hs j hj] at e1; rw [hs j' hj'] at e2
      exact hg.inj _ _ _ _ _ e1 e2 z1 z2
  · intro q v s e
    obtain ⟨ad, n, c, rfl, h1, h2⟩ := hg.tag q v s e
    refine ⟨ad, n, c, rfl, h1, ?_⟩
    by_cases hnc : n = c
    · exact .inl hnc
    obtain ⟨bl, cur, E, a1, a2, a3, a4, a5, a6⟩ := h2.resolve_left hnc
    subst a1
    refine .inr ⟨bl, cur, E, rfl, a2, (htag q n c s bl e hnc).trans a3, a4, a5, fun j sz hz e2 => ?_⟩
    by_cases hj : j = k
    · subst hj
      rw [hsk] at e2; cases e2
      rcases hnew with ⟨h0, _⟩ | ⟨_, cs, E, _, _, _, _, _, _, h7⟩
      · exact hz h0
      · exact hnc (h7 q n c s e)
    · rw [hs j hj] at e2; exact a6 j sz hz e2
  · intro r A j e m
    rw [get_put] at e
    split at e
    · cases e; simp [mentions] at m
    · rw [get_kill] at e
      cases hB : get ρ r with
      | none => rw [hB] at e; cases e
      | some B =>
        rw [hB] at e; cases e
        obtain ⟨m1, m2⟩ := killA_men m
        obtain ⟨A', h'⟩ := hg.clo r B j hB m1
        rw [hput, if_neg m2, h']
        exact ⟨_, rfl⟩
  · intro q A e
    rw [get_put, if_neg (fun h => tr_br h.symm), get_kill] at e
    cases hB : get ρ (tr q) with
    | none => rw [hB] at e; cases e
    | some B =>
      rw [hB] at e; cases e
      exact RepV.kill (x := x) (x' := x') rfl hs rfl (h.slots q B hB)

theorem zeroCells_one {z : Array Value} {n : Nat} (h : ∀ u ∈ z.toList, u.oneCell' = true) (v : Value) (hv : v ∈ (Builtin.zeroCells z n).toList) : v.oneCell' = true := by
  simp only [Builtin.zeroCells, Array.toList_map, Array.toList_range, List.mem_map, List.mem_range] at hv
  obtain ⟨i, hi, rfl⟩ := hv
  have hpos : 0 < z.size := by
    rcases Nat.eq_zero_or_pos z.size with h0 | h0
    · rw [h0] at hi; simp at hi
    · exact h0
  have hlt : i % z.size < z.size := Nat.mod_lt _ hpos
  rw [getElem!_pos z (i % z.size) hlt]
  exact h _ (Array.getElem_mem_toList hlt)

/-- An append to an owned slice. -/
theorem append_os (h : R gl V0 w0 nt x ρ a w) {k : Nat} (hkn : k < nt) {t : Ty} {T E eb tyy : Nat} {i : TypeInfo} (hu : P.underlying T = some (.slice E)) (hi : P.info? E = some i) (hs : i.size = t.size) (hz : zOk t i.zero = true) (hb : i.bytes = eb) (hs1 : 1 ≤ t.size) (heb : 1 ≤ eb)
    {xs ys : List t.den} {ad2 : Option Addr} {c2 : Nat} {es2 : List Value} {va : Value} (hk : get ρ (br k) = some (.ar t xs)) (hva : RepV x (.os k xs.length) va)
    (hr2 : RepArr (RepT x.V t) ys es2) (hrd2 : Reads x.V ad2 es2) (hc2 : ys.length ≤ c2) (hbytes : (xs.length + ys.length) * eb ≤ 140737488351232) :
    ∃ v' w' x', (Builtin.append_ #[T, T] tyy #[va, .slice ad2 ys.length c2]).run P w = .ok v' w' ∧
      R gl V0 w0 nt x' (put (br k) (.ar t (xs ++ ys)) (killAll k ρ)) a w' ∧ RepV x' (.os k (xs.length + ys.length)) v' := by
  obtain ⟨bl, sz, ad, hsg, hva', hle, had⟩ := hva
  have hva'' : va = .slice ad xs.length sz.2 := by simpa using hva'
  subst hva''
  have hg := h.good
  have hlen2 : es2.length = ys.length * t.size := hr2.len (fun _ _ q => q.len)
  obtain ⟨zv, hzv, hzr⟩ := zeroD_rep (V := x.V) hz
  have hzl : zv.cells.size = t.size := by rw [← Array.length_toList, hzr.len]
  have hzone : ∀ u ∈ zv.cells.toList, u.oneCell' = true := hzr.one
  have hone : ∀ u ∈ es2, u.oneCell' = true := RepArr.one (fun _ _ q => q.one) hr2
  have hcell2 : ∀ bl off, ad2 = some ⟨bl, off, none⟩ → ∀ j v, es2[j]? = some v → w.cell? ((⟨bl, off, none⟩ : Addr).add j) = some v := fun bl off e j v ev => by
    rw [Addr.add_lit]; subst e; exact Reads.cell hg.vis hrd2 j v ev
  -- the block as it is
  have hold : sz.2 ≠ 0 → ∃ cs E' c1 c2, w.heap[bl]? = some (.cells cs E' (0, 0)) ∧ cs.toList = c1 ++ c2 ∧ RepArr (RepT x.V t) xs c1 ∧ (∀ v ∈ c2, v.oneCell' = true) ∧ sz.1 = t.size ∧ cs.size = sz.2 * t.size := fun hz => by
    obtain ⟨cs, E', h1, ⟨c1, c2, h2, h3, h4⟩, h5⟩ := hg.at hk hsg hz
    exact ⟨cs, E', c1, c2, h1, h2, h3, h4, h5 _ _ rfl⟩
  have hxs0 : sz.2 = 0 → xs = [] := fun h0 => List.eq_nil_of_length_eq_zero (by omega)
  by_cases hm : ys.length = 0
  · have hys : ys = [] := List.eq_nil_of_length_eq_zero hm
    subst hys
    have hrun := run_append_zero (P := P) (w := w) T tyy E i hu hi ad ad2 xs.length sz.2 c2 hle
    refine ⟨_, w, _, hrun, h.reown (bl' := bl) (sz' := sz) hkn hk hg.vis hg.bel (Nat.le_refl _) (fun _ _ _ _ _ _ => rfl) (fun _ _ _ _ _ _ _ => rfl) ?_, bl, sz, ad, if_pos rfl, by simp, by simpa using hle, had⟩
    by_cases h0 : sz.2 = 0
    · obtain ⟨bl', sz', e1, e2⟩ := hg.box k _ hk
      rw [hsg] at e1; cases e1
      rcases e2 with ⟨_, u, e3, e4⟩ | ⟨e3, _⟩
      · exact .inl ⟨h0, u, by rw [List.append_nil]; exact e3, e4⟩
      · exact absurd h0 e3
    · obtain ⟨cs, E', c1, c2', h1, h2, h3, h4, h5, h6⟩ := hold h0
      obtain ⟨s1, s2, s3⟩ := hg.sgs k bl sz hsg h0
      refine .inr ⟨h0, cs, E', h1, ⟨c1, c2', h2, by rw [List.append_nil]; exact h3, h4⟩, ⟨h5, h6⟩, s1, s3, fun j b s hj e z hb => ?_, fun q n c s e => ?_⟩
      · subst hb; exact hj (hg.inj _ _ _ _ _ e hsg z h0)
      · apply Classical.byContradiction
        intro hnc
        obtain ⟨ad', n', c', e1, _, e2⟩ := hg.tag q _ _ e
        cases e1
        obtain ⟨b, cur, E2, a1, _, _, _, _, a6⟩ := e2.resolve_left hnc
        cases a1
        exact a6 k sz h0 hsg
  have hpos : 0 < ys.length := Nat.pos_of_ne_zero hm
  obtain ⟨u0, hu0⟩ : ∃ u, es2[0]? = some u := by
    have : 0 < es2.length := by rw [hlen2]; exact Nat.mul_pos hpos hs1
    exact ⟨es2[0], List.getElem?_eq_getElem this⟩
  obtain ⟨bl2, off2, rfl, _⟩ := hrd2 0 u0 hu0
  have hn2 := hcell2 bl2 off2 rfl
  have hnm : xs.length + ys.length ≤ 140737488351232 := by
    have : (xs.length + ys.length) * 1 ≤ (xs.length + ys.length) * eb := Nat.mul_le_mul_left _ heb
    omega
  have hnt : ∀ q n c s, sz.2 ≠ 0 → x.tg q = some (.slice (some ⟨bl, 0, none⟩) n c, s) → n = c := fun q n c s h0 e => by
    apply Classical.byContradiction
    intro hnc
    obtain ⟨ad', n', c', e1, _, e2⟩ := hg.tag q _ _ e
    cases e1
    obtain ⟨b, cur, E2, a1, _, _, _, _, a6⟩ := e2.resolve_left hnc
    cases a1
    exact a6 k sz h0 hsg
  by_cases hroom : xs.length + ys.length ≤ sz.2
  · -- in place
    have h0 : sz.2 ≠ 0 := by omega
    obtain ⟨cur, E', c1, c2', a3, hcs, harr, hc2o, h5, a4⟩ := hold h0
    obtain ⟨s1, s2, s3⟩ := hg.sgs k bl sz hsg h0
    rw [had h0]
    have hlen : c1.length = xs.length * t.size := harr.len (fun _ _ q => q.len)
    have hfit : xs.length * i.size + es2.length ≤ cur.size := by rw [hs, hlen2, a4, ← Nat.add_mul]; exact Nat.mul_le_mul_right _ hroom
    have hrun : (Builtin.append_ #[T, T] tyy #[.slice (some ⟨bl, 0, none⟩) xs.length sz.2, .slice (some ⟨bl2, off2, none⟩) ys.length c2]).run P w =
        .ok (.slice (some ⟨bl, 0, none⟩) (xs.length + ys.length) sz.2) (w.setRow bl (cur.toList.take (xs.length * i.size) ++ es2 ++ cur.toList.drop (xs.length * i.size + es2.length)).toArray) := by
      have hf := run_firstCells_some (P := P) w i.size ys.length ⟨bl2, off2, none⟩ ys.length c2 es2 (by rw [hlen2, hs]) hn2
      have hst := run_storeCells_at P bl (xs.length * i.size) E' es2 0 cur w a3 (by simpa using hfit) hone
      simp only [Nat.add_zero] at hst
      simp [Builtin.append_, run_underlying hu, sizeOf, typeInfo, hi, Builtin.lenOf, hroom, hf, Addr.add_lit, hst]
    rw [hs, hcs, ← hlen, List.take_left' rfl, ← List.drop_drop, List.drop_left' rfl] at hrun
    have hh : (w.setRow bl (c1 ++ es2 ++ c2'.drop es2.length).toArray).heap[bl]? = some (.cells (c1 ++ es2 ++ c2'.drop es2.length).toArray E' (0, 0)) := setRow_heap w bl _ _ _ _ a3
    have hoth : ∀ j, j ≠ bl → (w.setRow bl (c1 ++ es2 ++ c2'.drop es2.length).toArray).heap[j]? = w.heap[j]? := fun j hj => setRow_other w bl j _ hj
    refine ⟨_, _, _, hrun, h.reown (bl' := bl) (sz' := sz) hkn hk ?_ ?_ (by rw [size_setRow]; exact Nat.le_refl _) (fun j b s hj e z => ?_) (fun q n c s b e hnc => ?_) (.inr ⟨h0, _, E', hh, ?_, ⟨h5, ?_⟩, s1, s3, fun j b s hj e z hb => ?_, fun q n c s e => hnt q n c s h0 e⟩),
      bl, sz, _, if_pos rfl, rfl, hroom, fun _ => rfl⟩
    · intro b o v e
      have h1 := hg.vis b o v e
      have hne : b ≠ bl := fun hb => by subst hb; rw [s3] at e; cases e
      rw [World.cell?_of_block (a := ⟨b, o, none⟩) (hoth b hne)]; exact h1
    · exact ⟨hg.bel.os, hg.bel.tape, hg.bel.output, by rw [size_setRow]; exact hg.bel.size, fun j hj => by rw [hoth j (fun e => hj (e ▸ s1))]; exact hg.bel.block j hj⟩
    · exact hoth b (fun hb => by subst hb; exact hj (hg.inj _ _ _ _ _ e hsg z h0))
    · exact hoth b (fun hb => by subst hb; exact hnc (hnt q n c s h0 e))
    · refine ⟨c1 ++ es2, c2'.drop es2.length, by simp, harr.append hr2, fun v hv => hc2o v (List.mem_of_mem_drop hv)⟩
    · have hcl : cur.size = (c1 ++ c2').length := by rw [← hcs, Array.length_toList]
      rw [← a4, hcl]
      have hf' : c1.length + es2.length ≤ (c1 ++ c2').length := by rw [← hcl, hlen, ← hs]; exact hfit
      simp only [List.size_toArray, List.length_append, List.length_drop] at hf' ⊢; omega
    · subst hb; exact hj (hg.inj _ _ _ _ _ e hsg z h0)
  · -- a new row
    have hnew : ∃ cap c1, xs.length + ys.length ≤ cap ∧ RepArr (RepT x.V t) xs c1 ∧ (Builtin.append_ #[T, T] tyy #[.slice ad xs.length sz.2, .slice (some ⟨bl2, off2, none⟩) ys.length c2]).run P w =
        .ok (.slice (some ⟨w.heap.size, 0, none⟩) (xs.length + ys.length) cap) (w.drew.alloc (.cells (c1.toArray ++ es2.toArray ++ Builtin.zeroCells zv.cells (cap - (xs.length + ys.length))) E)) := by
      by_cases h0 : sz.2 = 0
      · have hx := hxs0 h0
        subst hx
        rw [h0]
        cases ad with
        | none =>
          refine ⟨grownCap w (0 + ys.length) 0 E, [], by simpa using grownCap_ge .., rfl, ?_⟩
          have := run_append_nil (P := P) (w := w) T tyy E i zv hu hi hzv ⟨bl2, off2, none⟩ ys.length c2 es2 (by rw [hlen2, hs]) hn2 hpos (by omega) (by rw [hb]; simp at hbytes; omega)
          simpa using this
        | some b =>
          refine ⟨grownCap w (0 + ys.length) 0 E, [], by simpa using grownCap_ge .., rfl, ?_⟩
          have := run_append_grow (P := P) (w := w) T tyy E i zv hu hi hzv b 0 0 [] (by simp) (fun j v ev => by simp at ev) ⟨bl2, off2, none⟩ ys.length c2 es2 (by rw [hlen2, hs]) hn2 (by omega) (by omega) (growslice_fits (by omega) (by rw [hb, Nat.zero_add]; simp at hbytes; omega))
          simpa using this
      · obtain ⟨cur, E', c1, c2', a3, hcs, harr, _, _, a4⟩ := hold h0
        have hlen : c1.length = xs.length * t.size := harr.len (fun _ _ q => q.len)
        rw [had h0]
        refine ⟨grownCap w (xs.length + ys.length) sz.2 E, c1, grownCap_ge .., harr, ?_⟩
        exact run_append_grow (P := P) (w := w) T tyy E i zv hu hi hzv ⟨bl, 0, none⟩ xs.length sz.2 c1 (by rw [hlen, hs]) (fun j v ev => by
            rw [Addr.add_lit, cell_of_row w bl _ cur E' (0, 0) a3, ← Array.getElem?_toList, hcs, Nat.zero_add]
            exact getElem?_append_some ev) ⟨bl2, off2, none⟩ ys.length c2 es2 (by rw [hlen2, hs]) hn2 (by omega) (by omega) (growslice_fits (by omega) (by rw [hb]; omega))
    obtain ⟨cap, c1, hcap, harr, hrun⟩ := hnew
    have hlen : c1.length = xs.length * t.size := harr.len (fun _ _ q => q.len)
    let cells' : Array Value := c1.toArray ++ es2.toArray ++ Builtin.zeroCells zv.cells (cap - (xs.length + ys.length))
    have hw : Below w.heap.size w (w.drew.alloc (.cells cells' E)) := ((Below.refl _ w).drew).alloc (Nat.le_refl _) _
    have hh : (w.drew.alloc (.cells cells' E)).heap[w.heap.size]? = some (.cells cells' E (0, 0)) := heap_alloc_new w.drew _
    refine ⟨_, _, _, hrun, h.reown (bl' := w.heap.size) (sz' := (t.size, cap)) hkn hk (hg.vis.below hw) (hg.bel.below hw) (by rw [World.size_alloc]; simp) (fun j b s hj e z => ?_) (fun q n c s b e hnc => ?_)
      (.inr ⟨by show cap ≠ 0; omega, cells', E, hh, ?_, ⟨rfl, ?_⟩, .inl hg.bel.size, fun o => vis_new hg.vis (Nat.le_refl _) o, fun j b s hj e z hb => ?_, fun q n c s e => ?_⟩), w.heap.size, (t.size, cap), _, if_pos rfl, rfl, hcap, fun _ => rfl⟩
    · exact hw.block b (hg.sgs j b s e z).2.1
    · obtain ⟨ad', n', c', e1, _, e2⟩ := hg.tag q _ _ e
      cases e1
      obtain ⟨b', cur, E2, a1, _, a3, _⟩ := e2.resolve_left hnc
      cases a1
      exact hw.block _ (Array.getElem?_eq_some_iff.1 a3).1
    · refine ⟨c1 ++ es2, (Builtin.zeroCells zv.cells (cap - (xs.length + ys.length))).toList, ?_, harr.append hr2, fun v hv => ?_⟩
      · show (c1.toArray ++ es2.toArray ++ _).toList = _
        simp
      · exact zeroCells_one hzone v hv
    · show (c1.toArray ++ es2.toArray ++ Builtin.zeroCells zv.cells (cap - (xs.length + ys.length))).size = _
      simp only [Array.size_append, List.size_toArray, size_zeroCells, hzl, hlen, hlen2, ← Nat.add_mul]
      congr 1; omega
    · have := (hg.sgs j b s e z).2.1; omega
    · apply Classical.byContradiction
      intro hnc
      obtain ⟨ad', n', c', e1, _, e2⟩ := hg.tag q _ _ e
      cases e1
      obtain ⟨b', cur, E2, a1, _, a3, _⟩ := e2.resolve_left hnc
      cases a1
      have := (Array.getElem?_eq_some_iff.1 a3).1
      omega

end
end Go.Abs
