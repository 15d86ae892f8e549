/- The abstract machine, part 21: shapes. Own text of this session. -/
import Derived.Test.YtkkkjcpfahhhpaaDoorAbs12
set_option linter.unusedVariables false
set_option linter.unusedSimpArgs false
namespace Go.Abs
open Go Go.RowKit

section
variable {P : Program} {gl : List (Nat × AVal)} {C : Cfg} {V0 V : Vis} {w0 : Base} {w : World} {x : Ctx} {ρ : St} {a : Act} {nt : Nat}
variable {α : Type} {z : α}

/-! ### Shapes -/
theorem tagFits_ok {t : Ty} {g g' : Tag} {v : Value} (h : tagFits g g' = true) (k : TagOk x t g' v) : TagOk x t g v := by
  cases g <;> cases g' <;> simp only [tagFits] at h <;> first | (cases h; done) | trivial | exact k | (rw [beq_true] at h; subst h; exact k)

theorem adS_cs : ∀ {s : Sh} {A : AVal} {v : s.den} {cs : List Value}, adS s A = some v → RepCs x A cs → RepCs x (encS s v) cs := by
  intro s
  induction s with
  | i k =>
    intro A v cs e h
    cases A <;> simp only [adS] at e <;> (try (cases e; done))
    split at e
    case h_2 => cases e
    rename_i hk _; subst hk; cases e; exact h
  | bo => intro A v cs e h; cases A <;> simp only [adS] at e <;> (try (cases e; done)); cases e; exact h
  | st => intro A v cs e h; cases A <;> simp only [adS] at e <;> (try (cases e; done)); cases e; exact h
  | sl t g =>
    intro A v cs e h
    cases A <;> simp only [adS] at e <;> (try (cases e; done))
    rename_i u xs g'
    split at e
    case h_2 => cases e
    rename_i _ _ hk _ hb; subst hk; cases e
    exact ⟨h.1, fun v hv => tagFits_ok hb (h.2 v hv)⟩
  | un => intro A v cs e h; cases A <;> simp only [adS] at e <;> (try (cases e; done)); cases e; exact h
  | pr p q ihp ihq =>
    intro A v cs e h
    cases A <;> simp only [adS] at e <;> (try (cases e; done))
    split at e
    case h_2 => cases e
    rename_i u hu
    split at e
    case h_2 => cases e
    rename_i v' hv
    cases e
    obtain ⟨c1, c2, e1, r, s⟩ := h
    exact ⟨c1, c2, e1, ihp hu r, ihq hv s⟩
  | bx k o =>
    intro A v cs e h
    cases A <;> simp only [adS] at e <;> (try (cases e; done))
    split at e
    case h_2 => cases e
    rename_i h1 h2; rw [beq_true] at h1 h2; subst h1; subst h2; exact h
  | pt t =>
    intro A v cs e h
    cases A <;> simp only [adS] at e <;> (try (cases e; done))
    split at e
    case h_2 => cases e
    rename_i hk _; subst hk; cases e; exact h
  | ar t =>
    intro A v cs e h
    cases A <;> simp only [adS] at e <;> (try (cases e; done))
    split at e
    case h_2 => cases e
    rename_i hk _; subst hk; cases e; exact h
  | os k =>
    intro A v cs e h
    cases A <;> simp only [adS] at e <;> (try (cases e; done))
    split at e
    case h_2 => cases e
    rename_i h1; rw [beq_true] at h1; subst h1; cases e; exact h
  | nls => intro A v cs e h; cases A <;> simp only [adS] at e <;> (try (cases e; done)); cases e; exact h
  | jk => intro A v cs e h; cases A <;> simp only [adS] at e <;> (try (cases e; done)); cases e; exact h
  | fn f =>
    intro A v cs e h
    cases A <;> simp only [adS] at e <;> (try (cases e; done))
    split at e
    case h_2 => cases e
    rename_i h1; rw [beq_true] at h1; subst h1; exact h
  | cl f p q ihp ihq =>
    intro A v cs e h
    cases A <;> simp only [adS] at e <;> (try (cases e; done))
    split at e
    case h_2 => cases e
    rename_i h1; rw [beq_true] at h1; subst h1
    split at e
    case h_2 => cases e
    rename_i u hu
    split at e
    case h_2 => cases e
    rename_i v' hv
    cases e
    obtain ⟨c1, c2, e1, r, s⟩ := h
    exact ⟨c1, c2, e1, ihp hu r, ihq hv s⟩

theorem adS_men : ∀ {s : Sh} {A : AVal} {v : s.den} {k : Nat}, adS s A = some v → mentions k (encS s v) = true → mentions k A = true := by
  intro s
  induction s with
  | pr p q ihp ihq =>
    intro A v k e h
    cases A <;> simp only [adS] at e <;> (try (cases e; done))
    split at e
    case h_2 => cases e
    rename_i u hu
    split at e
    case h_2 => cases e
    rename_i v' hv
    cases e
    simp only [encS, mentions] at h ⊢
    split at h
    · rename_i hm; rw [ihp hu hm]
    · have := ihq hv h
      split
      · rfl
      · exact this
  | bx j o =>
    intro A v k e h
    cases A <;> simp only [adS] at e <;> (try (cases e; done))
    split at e
    case h_2 => cases e
    rename_i h1 h2; rw [beq_true] at h1 h2; subst h1; subst h2; exact h
  | os j =>
    intro A v k e h
    cases A <;> simp only [adS] at e <;> (try (cases e; done))
    split at e
    case h_2 => cases e
    rename_i h1; rw [beq_true] at h1; subst h1; cases e; exact h
  | cl f p q ihp ihq =>
    intro A v k e h
    cases A <;> simp only [adS] at e <;> (try (cases e; done))
    split at e
    case h_2 => cases e
    split at e
    case h_2 => cases e
    rename_i u hu
    split at e
    case h_2 => cases e
    rename_i v' hv
    cases e
    simp only [encS, mentions] at h ⊢
    split at h
    · rename_i hm; rw [ihp hu hm]
    · have := ihq hv h
      split
      · rfl
      · exact this
  | _ => intro A v k e h; simp [encS, mentions] at h

theorem adS_ar {s : Sh} {A : AVal} {v : s.den} {t : Ty} {xs : t.sl.den} (e : adS s A = some v) (h : encS s v = .ar t xs) : A = .ar t xs := by
  cases s <;> simp only [encS] at h <;> (try (cases h; done))
  cases A <;> simp only [adS] at e <;> (try (cases e; done))
  split at e
  case h_2 => cases e
  rename_i hk _; subst hk; cases e; exact h

theorem adS_arE {s : Sh} {v : s.den} {t : Ty} (e : adS s (.ar t []) = some v) : encS s v = .ar t [] := by
  cases s <;> simp only [adS] at e <;> (try (cases e; done))
  split at e
  case h_2 => cases e
  rename_i hk _; subst hk; cases e; rfl

theorem adS_v {s : Sh} {A : AVal} {v : s.den} {u : Value} (e : adS s A = some v) (h : RepV x A u) : RepV x (encS s v) u := by
  cases s with
  | pr p q =>
    cases A <;> (try (simp only [adS] at e; cases e; done))
    obtain ⟨cs, h1, h2⟩ := h
    have := adS_cs e h2
    exact ⟨cs, h1, this⟩
  | un => cases A <;> simp only [adS] at e <;> (try (cases e; done)); exact h
  | ar t => cases A <;> (try (simp only [adS] at e; cases e; done)); exact h.elim
  | i k => cases A <;> (try (simp only [adS] at e; cases e; done)); exact adS_cs (cs := [u]) e h
  | bo => cases A <;> (try (simp only [adS] at e; cases e; done)); exact adS_cs (cs := [u]) e h
  | st => cases A <;> (try (simp only [adS] at e; cases e; done)); exact adS_cs (cs := [u]) e h
  | sl t g =>
    cases A
    case sl u2 xs g2 => exact adS_cs (A := .sl u2 xs g2) (cs := [u]) e h
    all_goals (simp only [adS] at e; cases e)
  | bx k o => cases A <;> (try (simp only [adS] at e; cases e; done)); exact adS_cs (cs := [u]) e h
  | pt t => cases A <;> (try (simp only [adS] at e; cases e; done)); exact adS_cs (cs := [u]) e h
  | os k => cases A <;> (try (simp only [adS] at e; cases e; done)); exact adS_cs (cs := [u]) e h
  | nls => cases A <;> (try (simp only [adS] at e; cases e; done)); exact adS_cs (cs := [u]) e h
  | jk => cases A <;> (try (simp only [adS] at e; cases e; done)); exact adS_cs (cs := [u]) e h
  | fn f => cases A <;> (try (simp only [adS] at e; cases e; done)); exact adS_cs (cs := [u]) e h
  | cl f p q =>
    cases A
    case cl g y z => exact adS_cs (A := .cl g y z) (cs := [u]) e h
    all_goals (simp only [adS] at e; cases e)

theorem adH_get : ∀ {l : HS} {v : HS.den l} {r : Nat} {A : AVal}, adH ρ l = some v → get (encH l v) r = some A → ∃ s A' u, (r, s) ∈ l ∧ get ρ r = some A' ∧ adS s A' = some u ∧ A = encS s u
  | [], v, r, A, _, h => by cases h
  | (q, s) :: l, v, r, A, e, h => by
    simp only [adH] at e
    split at e
    case h_2 => cases e
    rename_i A' hA
    split at e
    case h_2 => cases e
    rename_i u hu
    split at e
    case h_2 => cases e
    rename_i v' hv
    cases e
    simp only [encH, get] at h
    split at h
    · rename_i hq; rw [beq_true] at hq; subst hq; cases h; exact ⟨s, A', u, List.mem_cons_self, hA, hu, rfl⟩
    · obtain ⟨s', A2, u2, h1, h2⟩ := adH_get hv h
      exact ⟨s', A2, u2, List.mem_cons_of_mem _ h1, h2⟩

theorem adH_has : ∀ {l : HS} {v : HS.den l} {r : Nat}, r ∈ keysH l → ∃ A, get (encH l v) r = some A
  | [], v, r, h => by cases h
  | (q, s) :: l, v, r, h => by
    simp only [encH, get]
    split
    · exact ⟨_, rfl⟩
    · rename_i hq
      rw [beq_false] at hq
      rcases List.mem_cons.1 h with rfl | h
      · exact absurd rfl hq
      · exact adH_has h

theorem okH_spec {ks : List Nat} : ∀ {l : HS}, okH ks l = true → ∀ r s, (r, s) ∈ l → boxesIn ks s = true
  | [], _, r, s, h => by cases h
  | (q, s') :: l, e, r, s, h => by
    simp only [okH] at e
    split at e
    case h_2 => cases e
    rename_i h1
    rcases List.mem_cons.1 h with h | h
    · cases h; exact h1
    · exact okH_spec e r s h

theorem boxesIn_men {ks : List Nat} : ∀ {s : Sh} {v : s.den} {k : Nat}, boxesIn ks s = true → mentions k (encS s v) = true → br k ∈ ks := by
  intro s
  induction s with
  | bx j o => intro v k h m; simp only [encS, mentions, beq_true] at m; subst m; exact mem_iff.1 h
  | os j => intro v k h m; simp only [encS, mentions, beq_true] at m; subst m; exact mem_iff.1 h
  | pr p q ihp ihq =>
    intro v k h m
    simp only [boxesIn] at h
    split at h
    case h_2 => cases h
    rename_i h1
    simp only [encS, mentions] at m
    split at m
    · rename_i hm; exact ihp h1 hm
    · exact ihq h m
  | cl f p q ihp ihq =>
    intro v k h m
    simp only [boxesIn] at h
    split at h
    case h_2 => cases h
    rename_i h1
    simp only [encS, mentions] at m
    split at m
    · rename_i hm; exact ihp h1 hm
    · exact ihq h m
  | _ => intro v k h m; simp [encS, mentions] at m

theorem R.adH {hs : HS} {v : HS.den hs} (h : R gl V0 w0 nt x ρ a w) (hk : okH (keysH hs) hs = true) (e : Abs.adH ρ hs = some v) : R gl V0 w0 nt x (encH hs v) a w := by
  refine ⟨⟨h.good.vis, h.good.grow, h.good.old, fun k A q => ?_, h.good.sgs, h.good.inj, h.good.tag, h.good.tinj, h.good.bel, fun r A k q hm => ?_, h.good.gok, h.good.pin⟩, fun t A q => ?_, h.defs, h.size, h.pk⟩
  · obtain ⟨s, A', u, h1, h2, h3, rfl⟩ := adH_get e q
    obtain ⟨bl, sz, g1, g2⟩ := h.good.box k A' h2
    refine ⟨bl, sz, g1, ?_⟩
    rcases g2 with ⟨hz, t, rfl, ht⟩ | ⟨hz, cs, E, g2, g3, g4⟩
    · exact .inl ⟨hz, t, adS_arE h3, ht⟩
    · exact .inr ⟨hz, cs, E, g2, adS_cs h3 g3, fun t xs hq => g4 t xs (adS_ar h3 hq)⟩
  · obtain ⟨s, A', u, h1, h2, h3, rfl⟩ := adH_get e q
    exact adH_has (boxesIn_men (okH_spec hk _ _ h1) hm)
  · obtain ⟨s, A', u, h1, h2, h3, rfl⟩ := adH_get e q
    exact adS_v h3 (h.slots t A' h2)

theorem put_none {a : Act} {t : Nat} : a.put (some t) (a.tmps.getD t undef) = a := by
  cases a with
  | mk tm df =>
    simp only [Act.put]
    congr 1
    apply Array.ext (by simp)
    intro i h1 h2
    rw [Array.getElem_setIfInBounds (by simpa using h1)]
    split
    · rename_i hti; subst hti; simp [Array.getD, h2]
    · rfl

theorem R.retag1 {r d : Nat} {u : Ty} {xs : u.sl.den} (h : R gl V0 w0 nt x ρ a w) (hr : Nat.beq (r % 2) 0 = true) (e : get ρ r = some (.sl u xs .full)) :
    ∃ x', R gl V0 w0 nt x' (put r (.sl u xs (.own d)) (stripAll d ρ)) a w := by
  rw [beq_true] at hr
  obtain ⟨t, rfl⟩ : ∃ t, r = tr t := ⟨r / 2, by simp only [tr]; omega⟩
  have hv := h.slots t _ e
  obtain ⟨hrep, htag⟩ := hv
  obtain ⟨ad, n, hval⟩ := htag _ rfl
  have hlt : t < nt := by
    rcases Nat.lt_or_ge t nt with h' | h'
    · exact h'
    · rw [Array.getD_eq_getD_getElem?, Array.getElem?_eq_none (by rw [h.size]; exact h')] at hval
      simp [undef] at hval
  have h1 := h.tagged (w' := w) (V' := x.V) (g := d) (s := u.size) (v := a.tmps.getD t undef) h.good.vis (VLe.refl _) (fun _ _ _ => rfl) h.good.bel (Nat.le_refl _)
    (fun k bl sz hk hz => ⟨rfl, (h.good.sgs k bl sz hk hz).2.2⟩) (fun q ad n c s' hq ht hn bl ha => ⟨rfl, fun o _ ho => ho⟩) ⟨ad, n, n, hval, Nat.le_refl _, .inl rfl⟩
  have h2 := h1.set hlt (A := .sl u xs (.own d)) (v := a.tmps.getD t undef) ⟨hrep, fun v hv => by cases hv; exact if_pos rfl⟩ (fun k m => by simp [mentions] at m)
  rw [put_none] at h2
  exact ⟨_, h2⟩

theorem ownN_rep {x : Ctx} : ∀ {s : Sh} {A A' : AVal} {d : Nat} {cs : List Value}, ownN s A = some (d, A') → RepCs x A cs →
    ∃ ad n u, ∀ x' : Ctx, x'.V = x.V → x'.sg = x.sg → (∀ q p, q ≠ d → x.tg q = some p → x'.tg q = some p) → x'.tg d = some (.slice ad n n, u) → RepCs x' A' cs
  | .sl _ (.own d), .sl u xs .full, A', d', cs, e, h => by
    simp only [ownN, Option.some.injEq, Prod.mk.injEq] at e
    obtain ⟨rfl, rfl⟩ := e
    obtain ⟨h1, h2⟩ := h
    have h1' := h1
    obtain ⟨ad, c, es, rfl, q1, q2, q3⟩ := h1
    obtain ⟨ad2, n, e2⟩ := h2 _ rfl
    cases e2
    refine ⟨ad, List.length xs, u.size, fun x' hV hs ho ht => ⟨by rw [hV]; exact h1', fun v hv => ?_⟩⟩
    cases hv
    exact ht
  | .pr p q, .pr a b, A', d', cs, e, h => by
    simp only [ownN] at e
    obtain ⟨c1, c2, rfl, r1, r2⟩ := h
    cases ep : ownN p a with
    | some da =>
      obtain ⟨d, a'⟩ := da
      rw [ep] at e
      simp only [Option.some.injEq, Prod.mk.injEq] at e
      obtain ⟨rfl, rfl⟩ := e
      obtain ⟨ad, n, u, H⟩ := ownN_rep ep r1
      exact ⟨ad, n, u, fun x' hV hs ho ht => ⟨c1, c2, rfl, H x' hV hs ho ht, RepCs.strip (by rw [hV]; exact VLe.refl _) hs ho r2⟩⟩
    | none =>
      rw [ep] at e
      simp only at e
      cases eq : ownN q b with
      | none => rw [eq] at e; cases e
      | some db =>
        obtain ⟨d, b'⟩ := db
        rw [eq] at e
        simp only [Option.some.injEq, Prod.mk.injEq] at e
        obtain ⟨rfl, rfl⟩ := e
        obtain ⟨ad, n, u, H⟩ := ownN_rep eq r2
        exact ⟨ad, n, u, fun x' hV hs ho ht => ⟨c1, c2, rfl, RepCs.strip (by rw [hV]; exact VLe.refl _) hs ho r1, H x' hV hs ho ht⟩⟩

theorem ownN_men {k : Nat} : ∀ {s : Sh} {A A' : AVal} {d : Nat}, ownN s A = some (d, A') → mentions k A' = mentions k A
  | .sl _ (.own d), .sl u xs .full, A', d', e => by
    simp only [ownN, Option.some.injEq, Prod.mk.injEq] at e
    obtain ⟨rfl, rfl⟩ := e
    rfl
  | .pr p q, .pr a b, A', d', e => by
    simp only [ownN] at e
    cases ep : ownN p a with
    | some da =>
      obtain ⟨d, a'⟩ := da
      rw [ep] at e
      simp only [Option.some.injEq, Prod.mk.injEq] at e
      obtain ⟨rfl, rfl⟩ := e
      simp only [mentions, strip_men, ownN_men ep]
    | none =>
      rw [ep] at e
      simp only at e
      cases eq : ownN q b with
      | none => rw [eq] at e; cases e
      | some db =>
        obtain ⟨d, b'⟩ := db
        rw [eq] at e
        simp only [Option.some.injEq, Prod.mk.injEq] at e
        obtain ⟨rfl, rfl⟩ := e
        simp only [mentions, strip_men, ownN_men eq]
theorem ownN_ar {s : Sh} {A A' : AVal} {d : Nat} {t : Ty} {xs : t.sl.den} (e : ownN s A = some (d, A')) : A' ≠ .ar t xs ∧ A ≠ .ar t xs := by
  unfold ownN at e
  split at e
  · cases e; exact ⟨nofun, nofun⟩
  · refine ⟨?_, nofun⟩
    split at e
    · cases e; exact nofun
    · split at e
      · cases e; exact nofun
      · cases e
  · cases e

theorem setRow_same {w : World} {b : Nat} {cs : Array Value} {E : Nat} {fz : Nat × Nat} (h : w.heap[b]? = some (.cells cs E fz)) : w.setRow b cs = w := by
  have hh := setRow_heap w b cs cs E fz h
  have : (w.setRow b cs).heap = w.heap := by
    apply Array.ext_getElem?
    intro i
    by_cases hi : i = b
    · subst hi; rw [hh, h]
    · exact setRow_other w b i _ hi
  cases w with
  | mk heap _ _ _ _ => unfold World.setRow at this ⊢; simp only at this ⊢; rw [this]

theorem R.retag2 {r d : Nat} {s : Sh} {A A' : AVal} (h : R gl V0 w0 nt x ρ a w) (hr : Nat.beq (r % 2) 0 = false) (e : get ρ r = some A) (ho : ownN s A = some (d, A')) :
    ∃ x', R gl V0 w0 nt x' (put r A' (stripAll d ρ)) a w := by
  rw [beq_false] at hr
  obtain ⟨k, rfl⟩ : ∃ k, r = br k := ⟨r / 2, by simp only [br]; omega⟩
  obtain ⟨bl, sz, h1, h2⟩ := h.good.box k A e
  rcases h2 with ⟨_, t, rfl, _⟩ | ⟨hz, cs, E, g2, g3, g4⟩
  · exact absurd rfl (ownN_ar (t := t) (xs := []) ho).2
  obtain ⟨ad, n, u, H⟩ := ownN_rep ho g3
  have h3 := h.tagged (w' := w) (V' := x.V) (g := d) (s := u) (v := .slice ad n n) h.good.vis (VLe.refl _) (fun _ _ _ => rfl) h.good.bel (Nat.le_refl _)
    (fun k bl sz hk hz => ⟨rfl, (h.good.sgs k bl sz hk hz).2.2⟩) (fun q ad n c s' hq ht hn bl ha => ⟨rfl, fun o _ ho => ho⟩) ⟨ad, n, n, rfl, Nat.le_refl _, .inl rfl⟩
  have hk' : get (stripAll d ρ) (br k) = some (strip d A) := by rw [get_strip, e]; rfl
  have h4 := h3.setBox (k := k) (c := strip d A) (c' := A') (cs := cs.toList) (cs' := cs.toList) (E := E) hz hk' h1 (by simpa using g2)
    (H _ rfl rfl (fun q p hq e => by show (if _ then _ else _) = _; rw [if_neg hq]; exact e) (by show (if _ then _ else _) = _; rw [if_pos rfl]))
    (fun t xs e => absurd e (ownN_ar ho).1) (fun q hm => by
      rw [ownN_men ho] at hm
      obtain ⟨B, hB⟩ := h.good.clo _ A q e hm
      exact ⟨strip d B, by rw [get_strip, hB]; rfl⟩)
  rw [setRow_same (by simpa using g2)] at h4
  exact ⟨_, h4⟩

theorem R.retag : ∀ (l : HS) {ρ : St} {x : Ctx}, R gl V0 w0 nt x ρ a w → ∃ x', R gl V0 w0 nt x' (Abs.retag l ρ) a w
  | [], ρ, x, h => ⟨x, h⟩
  | (r, s) :: l, ρ, x, h => by
    unfold Abs.retag
    split
    · rename_i A e1 e2
      split
      · obtain ⟨x', h'⟩ := h.retag1 e2 e1
        exact R.retag l h'
      · exact R.retag l h
    · rename_i A e1 e2
      split
      · rename_i d A' e3
        obtain ⟨x', h'⟩ := h.retag2 e2 e1 e3
        exact R.retag l h'
      · exact R.retag l h
    · exact R.retag l h

theorem R.adapt {hs : HS} {v : HS.den hs} (h : R gl V0 w0 nt x ρ a w) (e : Abs.adapt hs ρ = some v) : ∃ x', R gl V0 w0 nt x' (encH hs v) a w := by
  simp only [Abs.adapt] at e
  split at e
  case h_2 => cases e
  rename_i hk
  obtain ⟨x', h'⟩ := h.retag hs
  exact ⟨x', h'.adH hk e⟩


end
end Go.Abs
