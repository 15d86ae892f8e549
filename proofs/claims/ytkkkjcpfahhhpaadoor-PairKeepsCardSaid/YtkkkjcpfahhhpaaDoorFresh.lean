/- Operations in memory whose lists are new. Own text of this session. -/
import Derived.Test.YtkkkjcpfahhhpaaDoorPart
import Derived.Test.YtkkkjcpfahhhpaaDoorClone
import Derived.Shelf.Abstract
import Derived.WalkKit
import Derived.WalkSpells
import Derived.Deep.AppendLies
import Derived.OneCell
import Derived.Laws.OwnMore
set_option linter.unusedVariables false
set_option linter.unusedSimpArgs false
namespace Go.WKeep
open Go Go.RowKit Go.Shelf Go.Abs Go.Inc

abbrev valC (v : Val) : List Value := [.int .i64 v.1, .int .i64 v.2.1, .string v.2.2.1]
def valsC (l : List Val) : List Value := l.flatMap valC
abbrev oprC (o : Opr) (u1 u2 : Value) : List Value := [.int .i64 o.1.1, .int .i64 o.1.2.1, .string o.1.2.2.1, .int .i64 o.2.1, .int .i64 o.2.2.1.1, .int .i64 o.2.2.1.2.1, .string o.2.2.1.2.2.1, .int .i64 o.2.2.2.1, u1, u2, .int .i64 o.2.2.2.2.2.2.1, .int .i64 o.2.2.2.2.2.2.2.1]
def rowsC : List Opr → List (Value × Value) → List Value
  | o :: L, u :: us => oprC o u.1 u.2 ++ rowsC L us
  | _, _ => []
theorem rowsC_len : ∀ (L : List Opr) (us : List (Value × Value)), us.length = L.length → (rowsC L us).length = L.length * 12
  | [], [], _ => rfl
  | o :: L, u :: us, h => by
    rw [rowsC, List.length_append, rowsC_len L us (by simpa using h)]
    show 12 + L.length * 12 = (L.length + 1) * 12
    omega
  | [], _ :: _, h => by simp at h
  | _ :: _, [], h => by simp at h
theorem rowsC_app : ∀ (L : List Opr) (us : List (Value × Value)) (o : Opr) (u1 u2 : Value), us.length = L.length → rowsC (L ++ [o]) (us ++ [(u1, u2)]) = rowsC L us ++ oprC o u1 u2
  | [], [], o, u1, u2, _ => rfl
  | o' :: L, u :: us, o, u1, u2, h => by rw [List.cons_append, List.cons_append, rowsC, rowsC, rowsC_app L us o u1 u2 (by simpa using h), List.append_assoc]
  | [], _ :: _, _, _, _, h => by simp at h
  | _ :: _, [], _, _, _, h => by simp at h
theorem rowsC_get : ∀ (L : List Opr) (us : List (Value × Value)) (i j : Nat) (o : Opr) (u : Value × Value), L[i]? = some o → us[i]? = some u → j < 12 → (rowsC L us)[i * 12 + j]? = (oprC o u.1 u.2)[j]?
  | [], _, i, j, o, u, h, _, _ => by simp at h
  | _ :: _, [], i, j, o, u, _, h, _ => by simp at h
  | o' :: L, u' :: us, 0, j, o, u, h1, h2, hj => by
    simp only [List.getElem?_cons_zero, Option.some.injEq] at h1 h2
    subst h1 h2
    rw [rowsC, Nat.zero_mul, Nat.zero_add, List.getElem?_append_left (by show j < 12; exact hj)]
  | o' :: L, u' :: us, i + 1, j, o, u, h1, h2, hj => by
    rw [rowsC, List.getElem?_append_right (by show 12 ≤ _; omega)]
    show (rowsC L us)[(i + 1) * 12 + j - 12]? = _
    rw [show (i + 1) * 12 + j - 12 = i * 12 + j by omega]
    exact rowsC_get L us i j o u (by simpa using h1) (by simpa using h2) hj

/-- A list of values in a new block, not the one named. -/
def NewAt (W : World) (n0 : Nat) (ob : Option Nat) (u : Value) (l : List Val) : Prop :=
  ∃ ad c, u = .slice ad l.length c ∧ l.length ≤ c ∧ (l = [] ∨ ∃ bl cs E, ad = some ⟨bl, 0, none⟩ ∧ n0 ≤ bl ∧ W.heap[bl]? = some (.cells cs E (0, 0)) ∧ some bl ≠ ob ∧ ∃ r, cs.toList = valsC l ++ r)
theorem lt_of_heap {W : World} {bl : Nat} {o : Obj} (h : W.heap[bl]? = some o) : bl < W.heap.size := (Array.getElem?_eq_some_iff.1 h).1
theorem NewAt.mono {W : World} {n0 n1 : Nat} {ob : Option Nat} {u : Value} {l : List Val} (h : NewAt W n1 ob u l) (hn : n0 ≤ n1) : NewAt W n0 ob u l := by
  obtain ⟨ad, c, e, hc, h⟩ := h
  refine ⟨ad, c, e, hc, h.imp id fun ⟨bl, cs, E, e1, h1, h2, h3, h4⟩ => ⟨bl, cs, E, e1, by omega, h2, h3, h4⟩⟩
/-- New behind all that was there. -/
theorem NewAt.far {W : World} {n0 : Nat} {ob : Option Nat} {u : Value} {l : List Val} (h : NewAt W n0 none u l) (ho : ∀ k, ob = some k → k < n0) : NewAt W n0 ob u l := by
  obtain ⟨ad, c, e, hc, h⟩ := h
  refine ⟨ad, c, e, hc, h.imp id fun ⟨bl, cs, E, e1, h1, h2, h3, h4⟩ => ⟨bl, cs, E, e1, h1, h2, fun e => by have := ho bl e.symm; omega, h4⟩⟩
theorem NewAt.near {W : World} {n0 k : Nat} {u : Value} {l : List Val} (h : NewAt W n0 none u l) (hk : W.heap.size ≤ k) : NewAt W n0 (some k) u l := by
  obtain ⟨ad, c, e, hc, h⟩ := h
  refine ⟨ad, c, e, hc, h.imp id fun ⟨bl, cs, E, e1, h1, h2, h3, h4⟩ => ⟨bl, cs, E, e1, h1, h2, fun e => ?_, h4⟩⟩
  have := lt_of_heap h2
  have := Option.some.inj e
  omega
theorem NewAt.below {W W' : World} {n0 : Nat} {ob : Option Nat} {u : Value} {l : List Val} (h : NewAt W n0 ob u l) (hb : Below W.heap.size W W') : NewAt W' n0 ob u l := by
  obtain ⟨ad, c, e, hc, h⟩ := h
  refine ⟨ad, c, e, hc, h.imp id fun ⟨bl, cs, E, e1, h1, h2, h3, h4⟩ => ⟨bl, cs, E, e1, h1, (hb.block bl (lt_of_heap h2)).trans h2, h3, h4⟩⟩
theorem NewAt.grown {W W' : World} {n0 : Nat} {ob ob' : Option Nat} {u : Value} {l : List Val} (h : NewAt W n0 ob u l) (hg : W.grownBy W' ob) (ho : ob' = ob ∨ ob' = some W.heap.size) : NewAt W' n0 ob' u l := by
  obtain ⟨ad, c, e, hc, h⟩ := h
  refine ⟨ad, c, e, hc, h.imp id fun ⟨bl, cs, E, e1, h1, h2, h3, h4⟩ => ⟨bl, cs, E, e1, h1, (hg.block bl (lt_of_heap h2) h3).trans h2, fun e => ?_, h4⟩⟩
  rcases ho with ho | ho
  · exact h3 (e.trans ho)
  · have := lt_of_heap h2
    rw [ho] at e
    have := Option.some.inj e
    omega
theorem NewAt.grown_other {W W' : World} {n0 : Nat} {ob row : Option Nat} {u : Value} {l : List Val} (h : NewAt W n0 ob u l) (hg : W.grownBy W' row) (ho : ∀ k, row = some k → k < n0) : NewAt W' n0 ob u l := by
  obtain ⟨ad, c, e, hc, h⟩ := h
  refine ⟨ad, c, e, hc, h.imp id fun ⟨bl, cs, E, e1, h1, h2, h3, h4⟩ => ⟨bl, cs, E, e1, h1, (hg.block bl (lt_of_heap h2) (fun e => by have := ho bl e.symm; omega)).trans h2, h3, h4⟩⟩

theorem NewAt.setLow {W : World} {n0 : Nat} {ob : Option Nat} {u : Value} {l : List Val} (h : NewAt W n0 ob u l) {b i : Nat} (hb : b < n0) (v : Value) : NewAt (W.setCell ⟨b, i, none⟩ v) n0 ob u l := by
  obtain ⟨ad, c, e, hc, h⟩ := h
  refine ⟨ad, c, e, hc, h.imp id fun ⟨bl, cs, E, e1, h1, h2, h3, h4⟩ => ⟨bl, cs, E, e1, h1, (Below.heap_setCell _ _ _ bl (by show bl ≠ b; omega)).trans h2, h3, h4⟩⟩
theorem cells_new (W : World) (cs : Array Value) (t : TypeId) (n : Nat) (hn : n = W.heap.size) (j : Nat) (u : Value) (h : cs.toList[j]? = some u) : (W.alloc (.cells cs t)).cell? ((⟨n, 0, none⟩ : Addr).add j) = some u := by
  subst hn
  have h1 : (W.alloc (.cells cs t)).cell? ⟨W.heap.size, j, none⟩ = some u := by
    have h0 := World.alloc_heap_new W (.cells cs t)
    show (match (W.alloc (.cells cs t)).heap[W.heap.size]? with | some (.cells c _ _) => c[j]? | _ => none) = some u
    rw [h0]
    show cs[j]? = some u
    rw [← Array.getElem?_toList]; exact h
  unfold Addr.add
  split
  · rename_i e; subst e; exact h1
  · simpa using h1
theorem infoN {P : Program} {T s b : Nat} (h : (P.info? T).map (fun i => (i.size, i.zero.map (·.cells.size), i.bytes)) = some (s, some s, b)) : ∃ i0 z0, P.info? T = some i0 ∧ i0.zero = some z0 ∧ i0.size = s ∧ i0.bytes = b ∧ z0.cells.size = s := by
  cases hi : P.info? T with
  | none => rw [hi] at h; cases h
  | some i0 =>
    rw [hi] at h
    simp only [Option.map_some, Option.some.injEq, Prod.mk.injEq] at h
    obtain ⟨h1, h2, h3⟩ := h
    cases hz : i0.zero with
    | none => rw [hz] at h2; cases h2
    | some z0 =>
      rw [hz] at h2
      exact ⟨i0, z0, rfl, hz, h1, h3, by simpa using h2⟩
theorem cellAt {W : World} {b i : Nat} {cs : Array Value} {t : TypeId} {v : Value} (h : W.heap[b]? = some (.cells cs t (0, 0))) (k : cs[i]? = some v) : W.cell? ⟨b, i, none⟩ = some v := by simp [World.cell?, h, k]
theorem frozAt {W : World} {b i : Nat} {cs : Array Value} {t : TypeId} (h : W.heap[b]? = some (.cells cs t (0, 0))) : W.frozen? ⟨b, i, none⟩ = false := by simp [World.frozen?, h]
theorem set_same {W : World} {b i : Nat} {cs : Array Value} {t : TypeId} {v : Value} (h : W.heap[b]? = some (.cells cs t (0, 0))) : (W.setCell ⟨b, i, none⟩ v).heap[b]? = some (.cells (cs.setIfInBounds i v) t (0, 0)) := by
  obtain ⟨hlt, hk⟩ := Array.getElem?_eq_some_iff.1 h
  show (W.heap.modify b _)[b]? = _
  rw [Array.getElem?_eq_getElem (by rw [Array.size_modify]; exact hlt), Array.getElem_modify_self, hk]
  rfl
abbrev oprV (o : Opr) (u1 u2 : Value) : Array Value := #[.int .i64 o.1.1, .int .i64 o.1.2.1, .string o.1.2.2.1, .int .i64 o.2.1, .int .i64 o.2.2.1.1, .int .i64 o.2.2.1.2.1, .string o.2.2.1.2.2.1, .int .i64 o.2.2.2.1, u1, u2, .int .i64 o.2.2.2.2.2.2.1, .int .i64 o.2.2.2.2.2.2.2.1]
def onlyN (N : Act → World → Prop) : Exit → Act → World → Prop := fun e a w => match e with | .normal => N a w | _ => False
theorem wp_join4 {P : Program} {c : Code} {K : Exit → Act → World → Prop} {a : Act} {w : World} (A : Option Addr → Nat → Option Addr → Nat → Act) (R : World → Option Addr → Nat → Option Addr → Nat → Prop) (reg : ∀ N : Act → World → Prop, (∀ w' x1 x2 x3 x4, R w' x1 x2 x3 x4 → N (A x1 x2 x3 x4) w') → c.wp P (onlyN N) a w) (cont : ∀ w' x1 x2 x3 x4, R w' x1 x2 x3 x4 → K .normal (A x1 x2 x3 x4) w') : c.wp P K a w :=
  Code.wp_mono (fun e a w h => by cases e with | normal => exact h | _ => exact h.elim) (reg (fun a w => K .normal a w) cont)

/-- Operations in a row of their own, their lists in new blocks. -/
structure OutAt (W : World) (n0 : Nat) (T : TypeId) (v : Value) (L : List Opr) (us : List (Value × Value)) : Prop where
  len : us.length = L.length
  row : W.ownsRow n0 T 12 v L.length (rowsC L us)
  at' : ∀ (i : Nat) (o : Opr) (u : Value × Value), L[i]? = some o → us[i]? = some u → NewAt W n0 v.ownBlock u.1 o.2.2.2.2.1 ∧ NewAt W n0 v.ownBlock u.2 o.2.2.2.2.2.1
theorem OutAt.nil (W : World) (n0 : Nat) (T : TypeId) : OutAt W n0 T (.slice none 0 0) [] [] := ⟨rfl, World.ownsRow_nil _ _ _ _, fun i o u h => by simp at h⟩
theorem OutAt.below {W W' : World} {n0 : Nat} {T : TypeId} {v : Value} {L : List Opr} {us : List (Value × Value)} (h : OutAt W n0 T v L us) (hb : Below W.heap.size W W') : OutAt W' n0 T v L us := by
  refine ⟨h.len, ⟨h.row.1, ?_⟩, fun i o u h1 h2 => ⟨(h.at' i o u h1 h2).1.below hb, (h.at' i o u h1 h2).2.below hb⟩⟩
  rcases h.row.2 with h0 | ⟨g, cap, cur, e, h1, hgb, h2⟩
  · exact .inl h0
  · exact .inr ⟨g, cap, cur, e, h1, (hb.block g (lt_of_heap hgb)).trans hgb, h2⟩
theorem OutAt.other {W W' : World} {n0 : Nat} {T : TypeId} {v : Value} {L : List Opr} {us : List (Value × Value)} {row : Option Nat} (h : OutAt W n0 T v L us) (hg : W.grownBy W' row) (ho : ∀ k, row = some k → k < n0) : OutAt W' n0 T v L us := by
  refine ⟨h.len, h.row.kept hg ?_, fun i o u h1 h2 => ⟨(h.at' i o u h1 h2).1.grown_other hg ho, (h.at' i o u h1 h2).2.grown_other hg ho⟩⟩
  rcases h.row.2 with ⟨rfl, _⟩ | ⟨g, cap, cur, rfl, h1, _⟩
  · exact .inl rfl
  · refine .inr fun e => ?_
    have := ho g (by rw [← e]; rfl)
    omega
theorem OutAt.push {Wa W1 : World} {n0 : Nat} {T : TypeId} {v v' : Value} {L : List Opr} {us : List (Value × Value)} {o : Opr} {u1 u2 : Value} {k : Nat} (h : OutAt Wa n0 T v L us) (hk : k = L.length + 1) (hown : W1.ownsRow n0 T 12 v' k (rowsC L us ++ oprC o u1 u2)) (hgr : Wa.grownBy W1 v.ownBlock)
    (hat : v'.ownBlock = v.ownBlock ∨ v'.ownBlock = some Wa.heap.size) (h1 : NewAt Wa n0 v.ownBlock u1 o.2.2.2.2.1) (h2 : NewAt Wa n0 v.ownBlock u2 o.2.2.2.2.2.1) : OutAt W1 n0 T v' (L ++ [o]) (us ++ [(u1, u2)]) := by
  subst hk
  refine ⟨by rw [List.length_append, List.length_append, h.len]; rfl, by rw [rowsC_app _ _ _ _ _ h.len, List.length_append]; exact hown, fun i o' u hi hu => ?_⟩
  by_cases hl : i < L.length
  · rw [List.getElem?_append_left hl] at hi
    rw [List.getElem?_append_left (by rw [h.len]; exact hl)] at hu
    obtain ⟨a, b⟩ := h.at' i o' u hi hu
    exact ⟨a.grown hgr hat, b.grown hgr hat⟩
  · rw [List.getElem?_append_right (by omega)] at hi
    rw [List.getElem?_append_right (by rw [h.len]; omega)] at hu
    rw [h.len] at hu
    have h0 : i - L.length = 0 := by
      cases hq : i - L.length with
      | zero => rfl
      | succ q => rw [hq] at hi; simp at hi
    rw [h0] at hi hu
    simp only [List.getElem?_cons_zero, Option.some.injEq] at hi hu
    subst hi hu
    exact ⟨h1.grown hgr hat, h2.grown hgr hat⟩

theorem val_cs {V : Vis} {d : Val} {cs : List Value} (h : RepT V VT d cs) : cs = valC d := by
  obtain ⟨c1, c2, rfl, h1, c3, c4, rfl, h2, c5, c6, rfl, h3, h4⟩ := h
  cases h1; cases h2; cases h3; cases h4; rfl
theorem vals_cs {V : Vis} : ∀ {l : List Val} {es : List Value}, RepArr (RepT V VT) l es → es = valsC l
  | [], _, e => e
  | x :: l, _, ⟨c1, c2, e, h1, h2⟩ => by
    rw [e, val_cs h1, vals_cs h2]; rfl
/-- A copy lies in a block of its own. -/
theorem clone_new {P : Program} {gl : List (Nat × AVal)} {f : Nat} (h : CloneOK P gl f VT 32) {V : Vis} {w : World} {l : List Val} {u : Value} (hg : GlobOk gl V) (hv : VisOk V w) (hr : RepT V (.sl VT) l [u]) (hl : l.length * 32 ≤ 140737488351232) :
    Calls P f #[u] w fun e w' => ∃ u', e = .returned u' ∧ Below w.heap.size w w' ∧ NewAt w' w.heap.size none u' l := by
  refine (h V w l u hg hv ⟨hr, fun _ _ => trivial⟩ hl).mono ?_
  rintro e w' ⟨ad, c, V', rfl, hb, hle, hv', hle', hold, hc⟩
  refine ⟨_, rfl, hb, ad, c, rfl, hle, ?_⟩
  rcases hc with h0 | ⟨bl, cs, E, hc0, rfl, hbl, hh, ⟨c1, c2, q1, q2, q3⟩, hsz, hnone⟩
  · exact .inl (List.eq_nil_of_length_eq_zero (by omega))
  · exact .inr ⟨bl, cs, E, rfl, hbl, hh, (fun e => by cases e), c2, by rw [q1, vals_cs q2]⟩

theorem opr_cs {V : Vis} {o : Opr} {cs : List Value} (h : RepT V OPT o cs) : ∃ u1 u2, cs = oprC o u1 u2 ∧ RepT V (.sl VT) o.2.2.2.2.1 [u1] ∧ RepT V (.sl VT) o.2.2.2.2.2.1 [u2] := by
  obtain ⟨_, _, rfl, ⟨_, _, rfl, e1, _, _, rfl, e2, _, _, rfl, e3, e4⟩, _, _, rfl, e5, _, _, rfl, ⟨_, _, rfl, e6, _, _, rfl, e7, _, _, rfl, e8, e9⟩, _, _, rfl, e10, _, _, rfl, ⟨a1, c1, s1, e11, g1⟩, _, _, rfl, ⟨a2, c2, s2, e12, g2⟩, _, _, rfl, e13, _, _, rfl, e14, e15⟩ := h
  cases e1; cases e2; cases e3; cases e4; cases e5; cases e6; cases e7; cases e8; cases e9; cases e10; cases e11; cases e12; cases e13; cases e14; cases e15
  exact ⟨_, _, rfl, ⟨a1, c1, s1, rfl, g1⟩, ⟨a2, c2, s2, rfl, g2⟩⟩
theorem oprs_at {V : Vis} : ∀ {xs : List Opr} {es : List Value}, RepArr (RepT V OPT) xs es → ∀ i o, xs[i]? = some o → ∃ u1 u2, (∀ j, j < 12 → es[i * 12 + j]? = (oprC o u1 u2)[j]?) ∧ RepT V (.sl VT) o.2.2.2.2.1 [u1] ∧ RepT V (.sl VT) o.2.2.2.2.2.1 [u2]
  | [], _, _, i, y, e => by simp at e
  | z :: xs, _, ⟨c1, c2, e, h1, h2⟩, 0, y, ey => by
    obtain ⟨u1, u2, hc, ha, ho⟩ := opr_cs h1
    simp only [List.getElem?_cons_zero, Option.some.injEq] at ey
    subst ey
    refine ⟨u1, u2, fun j hj => ?_, ha, ho⟩
    rw [e, hc, Nat.zero_mul, Nat.zero_add, List.getElem?_append_left (by show j < 12; exact hj)]
  | z :: xs, _, ⟨c1, c2, e, h1, h2⟩, i + 1, y, ey => by
    obtain ⟨u1, u2, hc, ha, ho⟩ := opr_cs h1
    obtain ⟨v1, v2, h3, h4⟩ := oprs_at h2 i y (by simpa using ey)
    refine ⟨v1, v2, fun j hj => ?_, h4⟩
    rw [e, hc, List.getElem?_append_right (by show 12 ≤ _; omega)]
    show c2[(i + 1) * 12 + j - 12]? = _
    rw [show (i + 1) * 12 + j - 12 = i * 12 + j by omega]
    exact h3 j hj
/-- A slice of operations that is seen. -/
theorem slice_seen {V : Vis} {ops : List Opr} {v : Value} (h : RepT V (.sl OPT) ops [v]) : ∃ ad c, v = .slice ad ops.length c ∧ ops.length ≤ c ∧ ∀ i o, ops[i]? = some o → ∃ b off u1 u2, ad = some ⟨b, off, none⟩ ∧ (∀ j x, (oprC o u1 u2)[j]? = some x → V b (off + i * 12 + j) = some x) ∧ RepT V (.sl VT) o.2.2.2.2.1 [u1] ∧ RepT V (.sl VT) o.2.2.2.2.2.1 [u2] := by
  obtain ⟨ad, c, es, e, hle, hra, hd⟩ := h
  obtain rfl : v = .slice ad ops.length c := by simpa using e
  refine ⟨ad, c, rfl, hle, fun i o ho => ?_⟩
  obtain ⟨u1, u2, h1, h2, h3⟩ := oprs_at hra i o ho
  obtain ⟨b, off, rfl, _⟩ := hd (i * 12 + 0) _ ((h1 0 (by omega)).trans rfl)
  refine ⟨b, off, u1, u2, rfl, fun j x hx => ?_, h2, h3⟩
  have hj : j < 12 := by
    have := (List.getElem?_eq_some_iff.1 hx).1
    exact this
  obtain ⟨b', off', e', h'⟩ := hd (i * 12 + j) x ((h1 j hj).trans hx)
  cases e'
  rwa [show off + (i * 12 + j) = off + i * 12 + j by omega] at h'
/-- All of a world is seen. -/
def allSeen (w : World) : Vis := fun b o => w.cell? ⟨b, o, none⟩
theorem vals_rep {V : Vis} : ∀ l : List Val, RepArr (RepT V VT) l (valsC l)
  | [] => rfl
  | v :: l => ⟨valC v, valsC l, rfl, ⟨[.int .i64 v.1], [.int .i64 v.2.1, .string v.2.2.1], rfl, rfl, [.int .i64 v.2.1], [.string v.2.2.1], rfl, rfl, [.string v.2.2.1], [], rfl, rfl, rfl⟩, vals_rep l⟩
theorem NewAt.rep {W : World} {n0 : Nat} {ob : Option Nat} {u : Value} {l : List Val} (h : NewAt W n0 ob u l) {V : Vis} (hV : ∀ b o, n0 ≤ b → V b o = W.cell? ⟨b, o, none⟩) : RepT V (.sl VT) l [u] := by
  obtain ⟨ad, c, rfl, hc, h⟩ := h
  rcases h with rfl | ⟨bl, cs, E, rfl, h1, h2, h3, r, h4⟩
  · exact ⟨ad, c, [], rfl, hc, rfl, fun j v e => by simp at e⟩
  · refine ⟨_, c, valsC l, rfl, hc, vals_rep l, fun j v e => ⟨bl, 0, rfl, ?_⟩⟩
    rw [Nat.zero_add, hV _ _ h1]
    have : cs.toList[j]? = some v := by
      rw [h4, List.getElem?_append_left (List.getElem?_eq_some_iff.1 e).1]; exact e
    simp [World.cell?, h2, ← Array.getElem?_toList, this]
theorem OutAt.rows {W : World} {n0 : Nat} {V : Vis} (hV : ∀ b o, n0 ≤ b → V b o = W.cell? ⟨b, o, none⟩) {ob : Option Nat} : ∀ {L : List Opr} {us : List (Value × Value)}, us.length = L.length → (∀ (i : Nat) (o : Opr) (u : Value × Value), L[i]? = some o → us[i]? = some u → NewAt W n0 ob u.1 o.2.2.2.2.1 ∧ NewAt W n0 ob u.2 o.2.2.2.2.2.1) → RepArr (RepT V OPT) L (rowsC L us)
  | [], [], _, _ => rfl
  | o :: L, u :: us, hl, h => by
    obtain ⟨h1, h2⟩ := h 0 o u rfl rfl
    refine ⟨oprC o u.1 u.2, rowsC L us, rfl, ?_, OutAt.rows hV (by simpa using hl) fun i o' u' e1 e2 => h (i + 1) o' u' (by simpa using e1) (by simpa using e2)⟩
    exact ⟨valC o.1, _, rfl, ⟨[.int .i64 o.1.1], _, rfl, rfl, [.int .i64 o.1.2.1], _, rfl, rfl, [.string o.1.2.2.1], [], rfl, rfl, rfl⟩, [.int .i64 o.2.1], _, rfl, rfl, valC o.2.2.1, _, rfl, ⟨[.int .i64 o.2.2.1.1], _, rfl, rfl, [.int .i64 o.2.2.1.2.1], _, rfl, rfl, [.string o.2.2.1.2.2.1], [], rfl, rfl, rfl⟩, [.int .i64 o.2.2.2.1], _, rfl, rfl, [u.1], _, rfl, h1.rep hV, [u.2], _, rfl, h2.rep hV, [.int .i64 o.2.2.2.2.2.2.1], _, rfl, rfl, [.int .i64 o.2.2.2.2.2.2.2.1], [], rfl, rfl, rfl⟩
  | [], _ :: _, h, _ => by simp at h
  | _ :: _, [], h, _ => by simp at h
theorem OutAt.rep {W : World} {n0 : Nat} {T : TypeId} {v : Value} {L : List Opr} {us : List (Value × Value)} (h : OutAt W n0 T v L us) {V : Vis} (hV : ∀ b o, n0 ≤ b → V b o = W.cell? ⟨b, o, none⟩) : RepT V (.sl OPT) L [v] := by
  have hr := OutAt.rows hV h.len h.at'
  obtain ⟨hl, (⟨rfl, h0⟩ | ⟨gb, cap, cur, rfl, hb, hgb, hle, _, hsz, htk⟩)⟩ := h.row
  · have := List.eq_nil_of_length_eq_zero h0
    subst this
    exact ⟨none, 0, [], rfl, Nat.le_refl _, rfl, fun j v e => by simp at e⟩
  · refine ⟨_, cap, _, rfl, hle, hr, fun j v e => ⟨gb, 0, rfl, ?_⟩⟩
    rw [Nat.zero_add, hV _ _ hb]
    rw [← htk, List.getElem?_take] at e
    split at e
    · simp [World.cell?, hgb, ← Array.getElem?_toList, e]
    · cases e

theorem valsC_get : ∀ (l : List Val) (k j : Nat) (v : Val), l[k]? = some v → j < 3 → (valsC l)[k * 3 + j]? = (valC v)[j]?
  | [], k, j, v, h, _ => by simp at h
  | x :: l, 0, j, v, h, hj => by
    simp only [List.getElem?_cons_zero, Option.some.injEq] at h
    subst h
    show (valC x ++ valsC l)[0 * 3 + j]? = _
    rw [Nat.zero_mul, Nat.zero_add, List.getElem?_append_left (by show j < 3; exact hj)]
  | x :: l, k + 1, j, v, h, hj => by
    show (valC x ++ valsC l)[(k + 1) * 3 + j]? = _
    rw [List.getElem?_append_right (by show 3 ≤ _; omega)]
    show (valsC l)[(k + 1) * 3 + j - 3]? = _
    rw [show (k + 1) * 3 + j - 3 = k * 3 + j by omega]
    exact valsC_get l k j v (by simpa using h) hj
theorem vals_seen {V : Vis} {l : List Val} {u : Value} (h : RepT V (.sl VT) l [u]) : ∃ ad c, u = .slice ad l.length c ∧ ∀ k v, l[k]? = some v → ∃ b off, ad = some ⟨b, off, none⟩ ∧ V b (off + k * 3) = some (.int .i64 v.1) ∧ V b (off + k * 3 + 1) = some (.int .i64 v.2.1) ∧ V b (off + k * 3 + 2) = some (.string v.2.2.1) := by
  obtain ⟨ad, c, es, e, hle, hra, hd⟩ := h
  obtain rfl : u = .slice ad l.length c := by simpa using e
  obtain rfl := vals_cs hra
  refine ⟨ad, c, rfl, fun k v hv => ?_⟩
  obtain ⟨b, off, rfl, h0⟩ := hd (k * 3 + 0) _ ((valsC_get l k 0 v hv (by omega)).trans rfl)
  refine ⟨b, off, rfl, by simpa using h0, ?_, ?_⟩
  · obtain ⟨b', off', e', h'⟩ := hd (k * 3 + 1) _ ((valsC_get l k 1 v hv (by omega)).trans rfl)
    cases e'
    rwa [show off + (k * 3 + 1) = off + k * 3 + 1 by omega] at h'
  · obtain ⟨b', off', e', h'⟩ := hd (k * 3 + 2) _ ((valsC_get l k 2 v hv (by omega)).trans rfl)
    cases e'
    rwa [show off + (k * 3 + 2) = off + k * 3 + 2 by omega] at h'

/-- A list that may be written over: its numbers are numbers. -/
def ShapeAt (W : World) (n0 n1 : Nat) (ob : Option Nat) (u : Value) (n : Nat) : Prop :=
  ∃ ad c, u = .slice ad n c ∧ (n = 0 ∨ ∃ bl cs E, ad = some ⟨bl, 0, none⟩ ∧ n0 ≤ bl ∧ bl < n1 ∧ some bl ≠ ob ∧ W.heap[bl]? = some (.cells cs E (0, 0)) ∧ ∀ j, j < n → (∃ z, cs[j * 3]? = some (.int .i64 z)) ∧ ∃ z, cs[j * 3 + 1]? = some (.int .i64 z))
theorem NewAt.shape {W : World} {n0 : Nat} {ob : Option Nat} {u : Value} {l : List Val} (h : NewAt W n0 ob u l) : ShapeAt W n0 W.heap.size ob u l.length := by
  obtain ⟨ad, c, rfl, hc, h⟩ := h
  refine ⟨ad, c, rfl, ?_⟩
  rcases h with rfl | ⟨bl, cs, E, rfl, h1, h2, h3, r, h4⟩
  · exact .inl rfl
  · refine .inr ⟨bl, cs, E, rfl, h1, lt_of_heap h2, h3, h2, fun j hj => ?_⟩
    have hv := List.getElem?_eq_getElem hj
    have g : ∀ i, i < 3 → cs[j * 3 + i]? = (valC l[j])[i]? := fun i hi => by
      have := valsC_get l j i _ hv hi
      rw [← Array.getElem?_toList, h4, ← this, List.getElem?_append_left]
      obtain ⟨x, hx⟩ : ∃ x, (valC l[j])[i]? = some x := ⟨(valC l[j])[i]'(by show i < 3; exact hi), List.getElem?_eq_getElem (by show i < 3; exact hi)⟩
      rw [hx] at this
      exact (List.getElem?_eq_some_iff.1 this).1
    exact ⟨⟨_, (g 0 (by omega)).trans rfl⟩, ⟨_, (g 1 (by omega)).trans rfl⟩⟩
theorem ShapeAt.kept {W W' : World} {n0 n1 : Nat} {ob : Option Nat} {u : Value} {n : Nat} (h : ShapeAt W n0 n1 ob u n) (hk : ∀ b, b < n1 → W'.heap[b]? = W.heap[b]?) : ShapeAt W' n0 n1 ob u n := by
  obtain ⟨ad, c, rfl, h⟩ := h
  exact ⟨ad, c, rfl, h.imp id fun ⟨bl, cs, E, e1, h1, h2, h3, h4, h5⟩ => ⟨bl, cs, E, e1, h1, h2, h3, (hk bl h2).trans h4, h5⟩⟩
theorem ShapeAt.set {W : World} {n0 n1 : Nat} {ob : Option Nat} {u : Value} {n : Nat} (h : ShapeAt W n0 n1 ob u n) (b m : Nat) (z : Int) : ShapeAt (W.setCell ⟨b, m, none⟩ (.int .i64 z)) n0 n1 ob u n := by
  obtain ⟨ad, c, rfl, h⟩ := h
  refine ⟨ad, c, rfl, h.imp id fun ⟨bl, cs, E, e1, h1, h2, h3, h4, h5⟩ => ?_⟩
  by_cases hb : b = bl
  · subst hb
    refine ⟨b, _, E, e1, h1, h2, h3, set_same h4, fun j hj => ?_⟩
    have g : ∀ i : Nat, (∃ z : Int, cs[i]? = some (Value.int .i64 z)) → ∃ z' : Int, (cs.setIfInBounds m (.int .i64 z))[i]? = some (Value.int .i64 z') := fun i ⟨q, hq⟩ => by
      rw [Array.getElem?_setIfInBounds]
      by_cases e : m = i
      · subst e
        rw [if_pos rfl, if_pos (Array.getElem?_eq_some_iff.1 hq).1]; exact ⟨z, rfl⟩
      · rw [if_neg e]; exact ⟨q, hq⟩
    exact ⟨g _ (h5 j hj).1, g _ (h5 j hj).2⟩
  · exact ⟨bl, cs, E, e1, h1, h2, h3, (Below.heap_setCell _ _ _ bl (fun e => hb e.symm)).trans h4, h5⟩
/-- While what is told is written over. -/
structure KeepI (w : World) (n0 n1 : Nat) (T : TypeId) (V : Vis) (v : Value) (L : List Opr) (us : List (Value × Value)) (W : World) : Prop where
  b : Below w.heap.size w W
  lo : w.heap.size ≤ n0
  sz : n1 ≤ W.heap.size
  vis : VisOk V W
  far : ∀ b o x, V b o = some x → b < n0 ∨ n1 ≤ b
  row : W.ownsRow n0 T 12 v L.length (rowsC L us)
  at' : ∀ k, v.ownBlock = some k → k < n1
  len : us.length = L.length
  sh : ∀ (i : Nat) (o : Opr) (u : Value × Value), L[i]? = some o → us[i]? = some u → ShapeAt W n0 n1 v.ownBlock u.1 o.2.2.2.2.1.length ∧ ShapeAt W n0 n1 v.ownBlock u.2 o.2.2.2.2.2.1.length
theorem KeepI.below {w W W' : World} {n0 n1 : Nat} {T : TypeId} {V : Vis} {v : Value} {L : List Opr} {us : List (Value × Value)} (h : KeepI w n0 n1 T V v L us W) (hb : Below W.heap.size W W') : KeepI w n0 n1 T V v L us W' := by
  have hk : ∀ b, b < n1 → W'.heap[b]? = W.heap[b]? := fun b hb' => hb.block b (Nat.lt_of_lt_of_le hb' h.sz)
  refine ⟨h.b.trans (hb.mono h.b.size), h.lo, Nat.le_trans h.sz hb.size, fun b o x e => ?_, h.far, ⟨h.row.1, ?_⟩, h.at', h.len, fun i o u e1 e2 => ⟨(h.sh i o u e1 e2).1.kept hk, (h.sh i o u e1 e2).2.kept hk⟩⟩
  · have h1 := h.vis b o x e
    rw [← h1]
    exact hb.cell (p := ⟨b, o, none⟩) (World.block_lt_of_cell? W _ h1)
  · rcases h.row.2 with h0 | ⟨g, cap, cur, e, h1, hgb, h2⟩
    · exact .inl h0
    · exact .inr ⟨g, cap, cur, e, h1, (hb.block g (lt_of_heap hgb)).trans hgb, h2⟩
theorem KeepI.alloc {w W : World} {n0 n1 : Nat} {T : TypeId} {V : Vis} {v : Value} {L : List Opr} {us : List (Value × Value)} (h : KeepI w n0 n1 T V v L us W) (o : Obj) : KeepI w n0 n1 T V v L us (W.alloc o) := h.below ((Below.refl _ W).alloc (Nat.le_refl _) o)
theorem KeepI.drew {w W : World} {n0 n1 : Nat} {T : TypeId} {V : Vis} {v : Value} {L : List Opr} {us : List (Value × Value)} (h : KeepI w n0 n1 T V v L us W) : KeepI w n0 n1 T V v L us W.drew := h.below (Below.refl _ W).drew
theorem KeepI.set {w W : World} {n0 n1 : Nat} {T : TypeId} {V : Vis} {v : Value} {L : List Opr} {us : List (Value × Value)} (h : KeepI w n0 n1 T V v L us W) {bl : Nat} (h0 : n0 ≤ bl) (h1 : bl < n1) (hne : some bl ≠ v.ownBlock) (m : Nat) (z : Int) : KeepI w n0 n1 T V v L us (W.setCell ⟨bl, m, none⟩ (.int .i64 z)) := by
  refine ⟨h.b.setCell (p := ⟨bl, m, none⟩) (by have := h.lo; show w.heap.size ≤ bl; omega) _, h.lo, by have := h.sz; simpa using this, fun b o x e => ?_, h.far, ownsRow_setCell_other h.row (fun e => hne e.symm) _, h.at', h.len, fun i o u e1 e2 => ⟨(h.sh i o u e1 e2).1.set bl m z, (h.sh i o u e1 e2).2.set bl m z⟩⟩
  have hb : b ≠ bl := fun e' => by have := h.far b o x e; omega
  exact (World.cell?_of_block (w := W) (a := ⟨b, o, none⟩) (Below.heap_setCell W ⟨bl, m, none⟩ _ b hb)).trans (h.vis b o x e)
theorem KeepI.begin {w W : World} {n0 : Nat} {T : TypeId} {V : Vis} {v : Value} {L : List Opr} {us : List (Value × Value)} {W2 : World} (hO : OutAt W2 n0 T v L us) (hlo : w.heap.size ≤ n0) (hb : Below w.heap.size w W2) (hb2 : Below W2.heap.size W2 W) (hv : VisOk V W) (far : ∀ b o x, V b o = some x → b < n0 ∨ W2.heap.size ≤ b) : KeepI w n0 W2.heap.size T V v L us W := by
  have hk : ∀ b, b < W2.heap.size → W.heap[b]? = W2.heap[b]? := fun b hb' => hb2.block b hb'
  refine ⟨hb.trans (hb2.mono hb.size), hlo, hb2.size, hv, far, (hO.below hb2).row, fun k e => (hO.row.lt k e).2, hO.len, fun i o u e1 e2 => ⟨(hO.at' i o u e1 e2).1.shape.kept hk, (hO.at' i o u e1 e2).2.shape.kept hk⟩⟩
/-- Where a row's list stands. -/
theorem KeepI.cell {w W : World} {n0 n1 : Nat} {T : TypeId} {V : Vis} {v : Value} {L : List Opr} {us : List (Value × Value)} (h : KeepI w n0 n1 T V v L us W) {i : Nat} {o : Opr} (hi : L[i]? = some o) : ∃ g cap u, v = .slice (some ⟨g, 0, none⟩) L.length cap ∧ us[i]? = some u ∧ W.cell? ⟨g, i * 12 + 8, none⟩ = some u.1 ∧ W.cell? ⟨g, i * 12 + 9, none⟩ = some u.2 ∧ v.ownBlock = some g := by
  have hl := (List.getElem?_eq_some_iff.1 hi).1
  obtain ⟨g, cap, rfl, _⟩ := h.row.form (by omega)
  obtain ⟨u, hu⟩ : ∃ u, us[i]? = some u := ⟨_, List.getElem?_eq_getElem (by rw [h.len]; exact hl)⟩
  refine ⟨g, cap, u, rfl, hu, ?_, ?_, rfl⟩
  · rw [h.row.cellAt (i * 12 + 8) (by omega), rowsC_get L us i 8 o u hi hu (by omega)]; rfl
  · rw [h.row.cellAt (i * 12 + 9) (by omega), rowsC_get L us i 9 o u hi hu (by omega)]; rfl

section
variable {P : Program}
/-- Appending what may be nothing. -/
theorem wpList_append_any {ops : Array Oper} {rest : List Oper} {o : Oper} {a : Act} {Q : Exit → Act → World → Prop} (w : World) (hgd : o.guard = none) (s x : Operand) (t : TypeId)
    (ho : o.op = .call { callee := .builtin .append, args := #[s, x], argTypes := #[t, t] })
    (base : Nat) (e : TypeId) (i : TypeInfo) (z : Value) (size bytes : Nat) (ht : P.underlying t = some (.slice e)) (hi : P.info? e = some i) (hz : i.zero = some z)
    (hsize : i.size = size) (hby : i.bytes = bytes) (hzs : z.cells.size = size) (hsz : 0 < size)
    (v : Value) (n : Nat) (xs : List Value) (hs : a.eval s = v) (hown : w.ownsRow base e size v n xs)
    (ad : Option Addr) (m c : Nat) (news : List Value) (hx : a.eval x = .slice ad m c) (hl : news.length = m * size) (hnews : ∀ j u, news[j]? = some u → ∃ A, ad = some A ∧ w.cell? (A.add j) = some u) (h1 : ∀ u ∈ news, u.oneCell' = true)
    (h63 : n + m ≤ maxLen) (hbytes : (n + m) * bytes ≤ 140737488355328) (hbase : base ≤ w.heap.size)
    (h : ∀ v' w', w'.ownsRow base e size v' (n + m) (xs ++ news) → w.grownBy w' v.ownBlock → (v'.ownBlock = v.ownBlock ∨ v'.ownBlock = some w.heap.size) → wpList P ops Q rest (a.put o.dst v') w') : wpList P ops Q (o :: rest) a w := by
  by_cases hm : m = 0
  · subst hm
    have hn0 : news = [] := List.eq_nil_of_length_eq_zero (by rw [hl, Nat.zero_mul])
    subst hn0
    refine wpList_plain hgd fun _ hK => ?_
    obtain ⟨adv, cv, hve, hnc⟩ : ∃ adv cv, v = .slice adv n cv ∧ n ≤ cv := by
      rcases hown.2 with ⟨e1, e2⟩ | ⟨g, cap, cur, e1, _, _, e2, _⟩
      · exact ⟨none, 0, by rw [e1, e2], by omega⟩
      · exact ⟨_, _, e1, e2⟩
    have hr := run_append_zero (P := P) (w := w) t o.type e i ht hi adv ad n cv c hnc
    unfold Oper.wp execOp
    simp only [ho, resolve, invoke, builtin, Sem.run_bind, Sem.run_pure, Result.andThen_ok, List.map_toArray, List.map_cons, List.map_nil, hs, hx, hve, hr]
    refine hK _ _ (h (.slice adv n cv) w ?_ ⟨rfl, rfl, rfl, Nat.le_refl _, fun _ _ _ => rfl⟩ (.inl (by rw [hve])))
    rw [Nat.add_zero, List.append_nil, ← hve]; exact hown
  · have h0 : 0 < news.length := by rw [hl]; exact Nat.mul_pos (by omega) hsz
    obtain ⟨A, rfl, _⟩ := hnews 0 news[0] (List.getElem?_eq_getElem h0)
    refine wpList_append_lies w hgd s x t ho base e i z size bytes ht hi hz hsize hby hzs hsz v n xs hs hown A m c news hx hl (fun j u hj => ?_) h1 (by omega) h63 hbytes hbase _ rfl fun g cap w' h2 h3 h4 h5 => h _ w' h2 h3 ?_
    · obtain ⟨A', e', h'⟩ := hnews j u hj
      cases e'; exact h'
    · rcases h4 with h4 | h4
      · exact .inl h4.symm
      · exact .inr (by rw [h4]; rfl)
end
theorem oneC {V : Vis} : ∀ {xs : List Opr} {es : List Value}, RepArr (RepT V OPT) xs es → es.length = xs.length * 12 ∧ ∀ u ∈ es, u.oneCell' = true
  | [], _, e => by
    have : _ = ([] : List Value) := e
    subst this
    exact ⟨rfl, fun u hu => by cases hu⟩
  | z :: xs, _, ⟨c1, c2, e, h1, h2⟩ => by
    obtain ⟨u1, u2, hc, ⟨a1, k1, _, e1, _⟩, ⟨a2, k2, _, e2, _⟩⟩ := opr_cs h1
    obtain rfl : u1 = .slice a1 _ k1 := by simpa using e1
    obtain rfl : u2 = .slice a2 _ k2 := by simpa using e2
    obtain ⟨h3, h4⟩ := oneC h2
    subst e hc
    refine ⟨by rw [List.length_append, h3]; show 12 + xs.length * 12 = (xs.length + 1) * 12; omega, fun u hu => ?_⟩
    rcases List.mem_append.1 hu with hu | hu
    · simp only [List.mem_cons, List.mem_nil_iff, or_false] at hu
      rcases hu with rfl | rfl | rfl | rfl | rfl | rfl | rfl | rfl | rfl | rfl | rfl | rfl <;> rfl
    · exact h4 u hu
theorem row_slice {W : World} {n0 n : Nat} {e : TypeId} {size : Nat} {v : Value} {xs : List Value} (h : W.ownsRow n0 e size v n xs) : ∃ ad cap, v = .slice ad n cap := by
  rcases h.2 with ⟨rfl, rfl⟩ | ⟨g, cap, cur, rfl, _⟩
  · exact ⟨none, 0, rfl⟩
  · exact ⟨_, cap, rfl⟩
/-- A row of operations, seen. -/
theorem row_seen {W : World} {n0 : Nat} {T : TypeId} {v : Value} {L : List Opr} {es : List Value} {V : Vis} (hrow : W.ownsRow n0 T 12 v L.length es) (hr : RepArr (RepT V OPT) L es) (hV : ∀ b o, n0 ≤ b → V b o = W.cell? ⟨b, o, none⟩) : RepT V (.sl OPT) L [v] := by
  obtain ⟨hl, (⟨rfl, h0⟩ | ⟨gb, cap, cur, rfl, hb, hgb, hle, _, hsz, htk⟩)⟩ := hrow
  · have := List.eq_nil_of_length_eq_zero h0
    subst this
    exact ⟨none, 0, [], rfl, Nat.le_refl _, rfl, fun j v e => by simp at e⟩
  · refine ⟨_, cap, es, rfl, hle, hr, fun j v e => ⟨gb, 0, rfl, ?_⟩⟩
    rw [Nat.zero_add, hV _ _ hb]
    rw [← htk, List.getElem?_take] at e
    split at e
    · simp [World.cell?, hgb, ← Array.getElem?_toList, e]
    · cases e
/-- What is old is seen as it was, what is new whole. -/
def newSeen (V : Vis) (n : Nat) (w : World) : Vis := fun b o => if b < n then V b o else w.cell? ⟨b, o, none⟩
theorem newSeen_new {V : Vis} {n : Nat} {w : World} : ∀ b o, n ≤ b → newSeen V n w b o = w.cell? ⟨b, o, none⟩ := fun b o h => by
  unfold newSeen; rw [if_neg (by omega)]
theorem newSeen_ok {V : Vis} {n : Nat} {w0 w : World} (hv : VisOk V w0) (hn : n = w0.heap.size) (hb : Below n w0 w) : VisOk (newSeen V n w) w ∧ VLe V (newSeen V n w) := by
  have hlt : ∀ b o v, V b o = some v → b < n := fun b o v e => by rw [hn]; exact World.block_lt_of_cell? w0 _ (hv b o v e)
  refine ⟨fun b o v e => ?_, fun b o v e => ?_⟩
  · unfold newSeen at e
    split at e
    · rename_i h
      exact (hb.cell (p := ⟨b, o, none⟩) h).trans (hv b o v e)
    · exact e
  · unfold newSeen
    rw [if_pos (hlt b o v e)]; exact e
end Go.WKeep
