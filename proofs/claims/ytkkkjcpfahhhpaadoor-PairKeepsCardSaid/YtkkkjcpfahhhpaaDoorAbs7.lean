/- The abstract machine, part 7: boxes. Own text of this session. -/
import Derived.Test.YtkkkjcpfahhhpaaDoorAbs6
set_option linter.unusedVariables false
set_option linter.unusedSimpArgs false
namespace Go.Abs
open Go Go.RowKit

section
variable {P : Program} {gl : List (Nat × AVal)} {C : Cfg} {V0 : Vis} {w0 : Base} {w : World} {x : Ctx} {ρ : St} {a : Act}

/-! ### Contexts whose boxes turn -/
theorem RepCs.resg {x x' : Ctx} (hV : VLe x.V x'.V) (ht : ∀ g p, x.tg g = some p → x'.tg g = some p) : ∀ {A cs}, (∀ k p, mentions k A = true → x.sg k = some p → x'.sg k = some p) → RepCs x A cs → RepCs x' A cs
  | .i _ _, _, _, e => e
  | .b _, _, _, e => e
  | .s _, _, _, e => e
  | .sl t xs g, _, _, ⟨r, k⟩ => ⟨r.mono hV, fun v e => by
      have := k v e
      cases g with
      | no => trivial
      | full => exact this
      | nl => exact this
      | nn => exact this
      | own g => exact ht _ _ this⟩
  | .un, _, _, e => e
  | .pr a b, _, hs, ⟨c1, c2, e, r, s⟩ => ⟨c1, c2, e, RepCs.resg hV ht (fun k p hm => hs k p (by simp only [mentions, hm])) r,
      RepCs.resg hV ht (fun k p hm => hs k p (by simp only [mentions]; split <;> first | rfl | exact hm)) s⟩
  | .bx k off, _, hs, ⟨bl, sz, e, r⟩ => ⟨bl, sz, hs _ _ (by simp [mentions]) e, r⟩
  | .bi k i off, _, hs, ⟨bl, sz, e, r⟩ => ⟨bl, sz, hs _ _ (by simp [mentions]) e, r⟩
  | .pt t d, _, _, ⟨bl, off, es, e, r, s⟩ => ⟨bl, off, es, e, r.mono hV, s.mono hV⟩
  | .nls, _, _, e => e
  | .cn _, _, _, e => e
  | .fn _, _, _, e => e
  | .junk, _, _, e => e
  | .ar t xs, _, _, ⟨c1, c2, e, r, s⟩ => ⟨c1, c2, e, RepArr.imp (fun _ _ q => q.mono hV) r, s⟩
  | .os k n, _, hs, ⟨bl, sz, c, e, r⟩ => ⟨bl, sz, c, hs _ _ (by simp [mentions]) e, r⟩
  | .cl f a b, _, hs, ⟨c1, c2, e, r, s⟩ => ⟨c1, c2, e, RepCs.resg hV ht (fun k p hm => hs k p (by simp only [mentions, hm])) r,
      RepCs.resg hV ht (fun k p hm => hs k p (by simp only [mentions]; split <;> first | rfl | exact hm)) s⟩

theorem RepV1.resg {x x' : Ctx} (hV : VLe x.V x'.V) (ht : ∀ g p, x.tg g = some p → x'.tg g = some p) {A v} (hs : ∀ k p, mentions k A = true → x.sg k = some p → x'.sg k = some p) (k : RepV1 x A v) : RepV1 x' A v := by
  unfold RepV1 at *
  split at k
  · exact k
  · obtain ⟨cs, e, r⟩ := k; exact ⟨cs, e, RepCs.resg hV ht hs r⟩
  · exact k
  · exact RepCs.resg hV ht hs k

theorem RepTup.resg {x x' : Ctx} (hV : VLe x.V x'.V) (ht : ∀ g p, x.tg g = some p → x'.tg g = some p) : ∀ {A vs}, (∀ k p, mentions k A = true → x.sg k = some p → x'.sg k = some p) → RepTup x A vs → RepTup x' A vs
  | .un, _, _, e => e
  | .pr a b, _, hs, ⟨v, r, e, k, s⟩ => ⟨v, r, e, k.resg hV ht (fun q p hm => hs q p (by simp only [mentions, hm])),
      RepTup.resg hV ht (fun q p hm => hs q p (by simp only [mentions]; split <;> first | rfl | exact hm)) s⟩

theorem RepV.resg {x x' : Ctx} (hV : VLe x.V x'.V) (ht : ∀ g p, x.tg g = some p → x'.tg g = some p) {A v} (hs : ∀ k p, mentions k A = true → x.sg k = some p → x'.sg k = some p) (k : RepV x A v) : RepV x' A v := by
  unfold RepV at *
  split at k
  · obtain ⟨vs, e, r⟩ := k; exact ⟨vs, e, r.resg hV ht (fun q p hm => hs q p (by simp only [mentions]; exact hm))⟩
  · exact k
  · exact k.resg hV ht hs

/-! ### Chains of cells -/
theorem leaf_len {A : AVal} {cs : List Value} (h : leaf A = true) (r : RepCs x A cs) : ∃ v, cs = [v] := by
  cases A <;> simp only [leaf] at h <;> (try cases h)
  case i => exact ⟨_, r⟩
  case b => exact ⟨_, r⟩
  case s => exact ⟨_, r⟩
  case sl => obtain ⟨⟨_, _, _, e, _⟩, _⟩ := r; exact ⟨_, e⟩
  case bx => obtain ⟨_, _, _, e, _⟩ := r; exact ⟨_, e⟩
  case bi => obtain ⟨_, _, _, e, _⟩ := r; exact ⟨_, e⟩
  case pt => obtain ⟨_, _, _, e, _⟩ := r; exact ⟨_, e⟩
  case nls => exact ⟨_, r⟩
  case cn => exact ⟨_, r.1⟩
  case fn => exact ⟨_, r⟩
  case junk => obtain ⟨v, e, _⟩ := r; exact ⟨v, e⟩
  case os => obtain ⟨_, _, _, _, e, _⟩ := r; exact ⟨_, e⟩
  case cl => obtain ⟨_, _, e, _⟩ := r; exact ⟨_, e⟩

theorem leaf_rep {A : AVal} {v : Value} (h : leaf A = true) (r : RepCs x A [v]) : RepV x A v := by
  cases A <;> simp only [leaf] at h <;> first | exact r | cases h

/-- All cells of what is represented are of one cell each. -/
theorem RepCs.one : ∀ {A cs}, RepCs x A cs → ∀ v ∈ cs, v.oneCell' = true
  | .i _ _, _, e, v, m => by rw [show _ = _ from e] at m; simp at m; subst m; rfl
  | .b _, _, e, v, m => by rw [show _ = _ from e] at m; simp at m; subst m; rfl
  | .s _, _, e, v, m => by rw [show _ = _ from e] at m; simp at m; subst m; rfl
  | .sl t xs g, _, ⟨r, _⟩, v, m => r.one v m
  | .un, _, e, v, m => by rw [show _ = _ from e] at m; simp at m
  | .pr a b, _, ⟨c1, c2, e, r, s⟩, v, m => by
    rw [e, List.mem_append] at m
    rcases m with m | m
    · exact RepCs.one r v m
    · exact RepCs.one s v m
  | .bx k off, _, ⟨bl, sz, _, e, _⟩, v, m => by rw [e] at m; simp at m; subst m; rfl
  | .bi k i off, _, ⟨bl, sz, _, e, _⟩, v, m => by rw [e] at m; simp at m; subst m; rfl
  | .pt t d, _, ⟨bl, off, es, e, _⟩, v, m => by rw [e] at m; simp at m; subst m; rfl
  | .nls, _, e, v, m => by rw [show _ = _ from e] at m; simp at m; subst m; rfl
  | .cn _, _, ⟨e, h⟩, v, m => by rw [e] at m; simp at m; subst m; exact h
  | .fn _, _, e, v, m => by rw [show _ = _ from e] at m; simp at m; subst m; rfl
  | .junk, _, ⟨u, e, h⟩, v, m => by rw [e] at m; simp at m; subst m; exact h
  | .ar t xs, _, ⟨c1, c2, e, r, s⟩, v, m => by
    rw [e, List.mem_append] at m
    rcases m with m | m
    · exact RepArr.one (fun _ _ q => q.one) r v m
    · exact s v m
  | .os k n, _, ⟨bl, sz, c, _, e, _⟩, v, m => by rw [e] at m; simp at m; subst m; rfl
  | .cl f a b, _, ⟨us, vs, e, _⟩, v, m => by rw [e] at m; simp at m; subst m; rfl

theorem flat_rep : ∀ {A B : AVal} {cs ds : List Value}, RepCs x A cs → RepCs x B ds → RepCs x (flat A B) (cs ++ ds) := by
  intro A
  induction A with
  | un => intro B cs ds r s; rw [show cs = [] from r]; exact s
  | pr p q ihp ihq =>
    intro B cs ds r s
    obtain ⟨c1, c2, rfl, r1, r2⟩ := r
    rw [List.append_assoc]
    exact ihp r1 (ihq r2 s)
  | tu _ => intro B cs ds r; exact r.elim
  | nd => intro B cs ds r; exact r.elim
  | _ => intro B cs ds r s; exact ⟨cs, ds, rfl, r, s⟩

theorem flat_men {k : Nat} : ∀ {A B : AVal}, mentions k (flat A B) = true → mentions k A = true ∨ mentions k B = true := by
  intro A
  induction A with
  | un => intro B h; exact .inr h
  | pr p q ihp ihq =>
    intro B h
    rcases ihp h with h1 | h1
    · exact .inl (by simp only [mentions, h1])
    · rcases ihq h1 with h2 | h2
      · exact .inl (by simp only [mentions]; split <;> first | rfl | exact h2)
      · exact .inr h2
  | _ =>
    intro B h
    simp only [flat, mentions] at h ⊢
    first
    | exact .inr h
    | (split at h
       · rename_i h1; exact .inl h1
       · exact .inr h)

theorem dropA_rep : ∀ {n : Nat} {c c1 : AVal} {cs : List Value}, dropA n c = some c1 → RepCs x c cs → ∃ p q, cs = p ++ q ∧ p.length = n ∧ RepCs x c1 q
  | 0, c, c1, cs, e, r => by cases e; exact ⟨[], cs, rfl, rfl, r⟩
  | n + 1, c, c1, cs, e, r => by
    cases c <;> simp only [dropA] at e <;> (try cases e)
    split at e
    case h_2 => cases e
    rename_i hl
    obtain ⟨d1, d2, rfl, r1, r2⟩ := r
    obtain ⟨v, rfl⟩ := leaf_len hl r1
    obtain ⟨p, q, rfl, hp, hq⟩ := dropA_rep e r2
    exact ⟨v :: p, q, rfl, by simp [hp], hq⟩
theorem dropA_men {k : Nat} : ∀ {n : Nat} {c c1 : AVal}, dropA n c = some c1 → mentions k c1 = true → mentions k c = true
  | 0, c, c1, e, m => by cases e; exact m
  | n + 1, c, c1, e, m => by
    cases c <;> simp only [dropA] at e <;> (try cases e)
    split at e
    case h_2 => cases e
    simp only [mentions]; split
    · rfl
    · exact dropA_men e m

theorem unflat_rep : ∀ {t : Ty} {c v r : AVal} {cs : List Value}, unflat t c = some (v, r) → RepCs x c cs →
    ∃ p q, cs = p ++ q ∧ p.length = t.size ∧ RepCs x v p ∧ RepCs x r q ∧ ((v matches .pr _ _ | .un) = t.isAgg ∧ v ≠ .nd ∧ (∀ l, v ≠ .tu l) ∧ (∀ u xs, v ≠ .ar u xs)) := by
  intro t
  induction t with
  | un => intro c v r cs e h; simp only [unflat, Option.some.injEq, Prod.mk.injEq] at e; obtain ⟨rfl, rfl⟩ := e; exact ⟨[], cs, rfl, rfl, rfl, h, by simp [Ty.isAgg]⟩
  | pr p q ihp ihq =>
    intro c v r cs e h
    simp only [unflat] at e
    split at e
    case h_2 => cases e
    rename_i y c1 h1
    split at e
    case h_2 => cases e
    rename_i y2 c2 h2
    cases e
    obtain ⟨d1, d2, rfl, l1, r1, r2, _⟩ := ihp h1 h
    obtain ⟨d3, d4, rfl, l2, r3, r4, _⟩ := ihq h2 r2
    exact ⟨d1 ++ d3, d4, by rw [List.append_assoc], by rw [List.length_append, l1, l2]; rfl, ⟨d1, d3, rfl, r1, r3⟩, r4, by simp [Ty.isAgg]⟩
  | _ =>
    intro c v r cs e h
    cases c <;> simp only [unflat] at e <;> (try cases e)
    split at e
    case h_2 => cases e
    rename_i hl
    cases e
    obtain ⟨d1, d2, rfl, r1, r2⟩ := h
    obtain ⟨u, rfl⟩ := leaf_len hl r1
    refine ⟨[u], d2, rfl, rfl, r1, r2, ?_⟩
    cases v <;> simp only [leaf] at hl <;> first | (cases hl; done) | simp [Ty.isAgg]
theorem unflat_men {k : Nat} : ∀ {t : Ty} {c v r : AVal}, unflat t c = some (v, r) → (mentions k v = true → mentions k c = true) ∧ (mentions k r = true → mentions k c = true) := by
  intro t
  induction t with
  | un => intro c v r e; simp only [unflat, Option.some.injEq, Prod.mk.injEq] at e; obtain ⟨rfl, rfl⟩ := e; exact ⟨fun m => by simp [mentions] at m, id⟩
  | pr p q ihp ihq =>
    intro c v r e
    simp only [unflat] at e
    split at e
    case h_2 => cases e
    rename_i y c1 h1
    split at e
    case h_2 => cases e
    rename_i y2 c2 h2
    cases e
    obtain ⟨a1, a2⟩ := ihp h1
    obtain ⟨b1, b2⟩ := ihq h2
    refine ⟨fun m => ?_, fun m => a2 (b2 m)⟩
    simp only [mentions] at m
    split at m
    · rename_i hm; exact a1 hm
    · exact a2 (b1 m)
  | _ =>
    intro c v r e
    cases c <;> simp only [unflat] at e <;> (try cases e)
    split at e
    case h_2 => cases e
    cases e
    exact ⟨fun m => by simp only [mentions, m], fun m => by simp only [mentions]; split <;> first | rfl | exact m⟩

theorem overA_rep : ∀ {n c c' : AVal} {ns cs : List Value}, overA n c = some c' → RepCs x n ns → RepCs x c cs → ∃ p q, cs = p ++ q ∧ p.length = ns.length ∧ RepCs x c' (ns ++ q) := by
  intro n
  induction n with
  | un => intro c c' ns cs e r s; cases e; rw [show ns = [] from r]; exact ⟨[], cs, rfl, rfl, s⟩
  | pr p q ihp ihq =>
    intro c c' ns cs e r s
    cases c <;> simp only [overA] at e <;> (try cases e)
    rename_i y cy
    split at e
    case h_2 => cases e
    rename_i l1 l2
    split at e
    case h_2 => cases e
    rename_i c2 h2
    cases e
    obtain ⟨n1, n2, rfl, r1, r2⟩ := r
    obtain ⟨s1, s2, rfl, q1, q2⟩ := s
    obtain ⟨v1, rfl⟩ := leaf_len l1 r1
    obtain ⟨v2, rfl⟩ := leaf_len l2 q1
    obtain ⟨p', q', rfl, hl, hr⟩ := ihq h2 r2 q2
    exact ⟨v2 :: p', q', rfl, by simp [hl], [v1], n2 ++ q', rfl, r1, hr⟩
  | _ => intro c c' ns cs e; cases c <;> simp only [overA] at e <;> cases e
theorem overA_men {k : Nat} : ∀ {n c c' : AVal}, overA n c = some c' → mentions k c' = true → mentions k n = true ∨ mentions k c = true := by
  intro n
  induction n with
  | un => intro c c' e m; cases e; exact .inr m
  | pr p q ihp ihq =>
    intro c c' e m
    cases c <;> simp only [overA] at e <;> (try cases e)
    split at e
    case h_2 => cases e
    split at e
    case h_2 => cases e
    rename_i c2 h2
    cases e
    cases hp : mentions k p with
    | true => exact .inl (by simp only [mentions, hp])
    | false =>
      simp only [mentions, hp] at m
      rcases ihq h2 m with h | h
      · exact .inl (by simp only [mentions, hp]; exact h)
      · exact .inr (by simp only [mentions]; split <;> first | rfl | exact h)
  | _ => intro c c' e; cases c <;> simp only [overA] at e <;> cases e

theorem overAt_rep : ∀ {off : Nat} {n c c' : AVal} {ns cs : List Value}, overAt off n c = some c' → RepCs x n ns → RepCs x c cs →
    ∃ p q r, cs = p ++ (q ++ r) ∧ p.length = off ∧ q.length = ns.length ∧ RepCs x c' (p ++ (ns ++ r))
  | 0, n, c, c', ns, cs, e, r, s => by
    obtain ⟨p, q, rfl, hl, hr⟩ := overA_rep e r s
    exact ⟨[], p, q, rfl, rfl, hl, hr⟩
  | off + 1, n, c, c', ns, cs, e, r, s => by
    cases c <;> simp only [overAt] at e <;> (try cases e)
    split at e
    case h_2 => cases e
    rename_i l1
    split at e
    case h_2 => cases e
    rename_i c2 h2
    cases e
    obtain ⟨s1, s2, rfl, q1, q2⟩ := s
    obtain ⟨v, rfl⟩ := leaf_len l1 q1
    obtain ⟨p, q, r', rfl, hp, hq, hr⟩ := overAt_rep h2 r q2
    exact ⟨v :: p, q, r', rfl, by simp [hp], hq, [v], p ++ (ns ++ r'), rfl, q1, hr⟩
theorem overAt_men {k : Nat} : ∀ {off : Nat} {n c c' : AVal}, overAt off n c = some c' → mentions k c' = true → mentions k n = true ∨ mentions k c = true
  | 0, n, c, c', e, m => overA_men e m
  | off + 1, n, c, c', e, m => by
    cases c <;> simp only [overAt] at e <;> (try cases e)
    split at e
    case h_2 => cases e
    split at e
    case h_2 => cases e
    rename_i c2 h2
    cases e
    rename_i y cy _ _ _
    cases hp : mentions k y with
    | true => exact .inr (by simp only [mentions, hp])
    | false =>
      simp only [mentions, hp] at m
      rcases overAt_men h2 m with h | h
      · exact .inl h
      · exact .inr (by simp only [mentions, hp]; exact h)

/-- A value's own cells. -/
theorem hasTy_cells {t : Ty} {A : AVal} {v : Value} (h : hasTy t A = true) (r : RepV x A v) : RepCs x A v.cells.toList := by
  have one : ∀ {B : AVal} {u : Value}, RepCs x B [u] → RepCs x B u.cells.toList := by
    intro B u q
    have h1 := q.one u (by simp)
    have : u.cells = #[u] := by cases u <;> first | rfl | simp [Value.oneCell'] at h1
    rw [this]; exact q
  cases A
  case un => rw [show v = _ from r]; rfl
  case pr a b => obtain ⟨cs, rfl, q⟩ := r; simpa [Value.cells] using q
  case tu l => cases t <;> simp [hasTy] at h
  case nd => cases t <;> simp [hasTy] at h
  case ar => exact r.elim
  all_goals exact one r

end
end Go.Abs
