/- The contract of part.Objects. Own text of this session. -/
import Derived.Test.YtiodlajaecaoaaaW0
import Derived.Test.YtiodlajaecaoaaaObj
set_option linter.unusedVariables false
set_option linter.unusedSimpArgs false
namespace Go.L19
open Go Go.RowKit Go.Abs Go.Inc Go.WObj

theorem ops_cs {V : Vis} {o : Opr} {cs : List Value} (h : RepT V OPT o cs) : ∃ a1 n1 c1 a2 n2 c2, cs = [.int .i64 o.1.1, .int .i64 o.1.2.1, .string o.1.2.2.1, .int .i64 o.2.1, .int .i64 o.2.2.1.1, .int .i64 o.2.2.1.2.1, .string o.2.2.1.2.2.1, .int .i64 o.2.2.2.1, .slice a1 n1 c1, .slice a2 n2 c2, .int .i64 o.2.2.2.2.2.2.1, .int .i64 o.2.2.2.2.2.2.2.1] := by
  obtain ⟨_, _, rfl, ⟨_, _, rfl, e1, _, _, rfl, e2, _, _, rfl, e3, e4⟩, _, _, rfl, e5, _, _, rfl, ⟨_, _, rfl, e6, _, _, rfl, e7, _, _, rfl, e8, e9⟩, _, _, rfl, e10, _, _, rfl, ⟨a1, c1, _, e11, _⟩, _, _, rfl, ⟨a2, c2, _, e12, _⟩, _, _, rfl, e13, _, _, rfl, e14, e15⟩ := h
  cases e1; cases e2; cases e3; cases e4; cases e5; cases e6; cases e7; cases e8; cases e9; cases e10; cases e11; cases e12; cases e13; cases e14; cases e15
  exact ⟨_, _, _, _, _, _, rfl⟩
theorem rows12 {V : Vis} : ∀ {xs : List Opr} {es : List Value}, RepArr (RepT V OPT) xs es → ∀ i o, xs[i]? = some o → ∃ a1 n1 c1 a2 n2 c2, (es.drop (i * 12)).take 12 = [.int .i64 o.1.1, .int .i64 o.1.2.1, .string o.1.2.2.1, .int .i64 o.2.1, .int .i64 o.2.2.1.1, .int .i64 o.2.2.1.2.1, .string o.2.2.1.2.2.1, .int .i64 o.2.2.2.1, .slice a1 n1 c1, .slice a2 n2 c2, .int .i64 o.2.2.2.2.2.2.1, .int .i64 o.2.2.2.2.2.2.2.1]
  | [], _, _, i, y, e => by simp at e
  | z :: xs, _, ⟨c1, c2, rfl, h1, h2⟩, 0, y, e => by
    obtain ⟨a1, n1, q1, a2, n2, q2, hc⟩ := ops_cs h1
    simp only [List.getElem?_cons_zero, Option.some.injEq] at e
    subst e
    subst hc
    exact ⟨a1, n1, q1, a2, n2, q2, rfl⟩
  | z :: xs, _, ⟨c1, c2, rfl, h1, h2⟩, i + 1, y, e => by
    obtain ⟨a1, n1, q1, a2, n2, q2, hc⟩ := ops_cs h1
    have := rows12 h2 i y (by simpa using e)
    subst hc
    rw [show (i + 1) * 12 = i * 12 + 12 by omega]
    simpa using this
theorem opsAt_of {V : Vis} {w : World} (hv : VisOk V w) {ops : List Opr} {v : Value} (h : RepT V (.sl OPT) ops [v]) : ∃ ad c, v = .slice ad ops.length c ∧ OpsAt w.heap.size w (.slice ad ops.length c) ops := by
  obtain ⟨ad, c, es, e, hle, hr, hd⟩ := h
  obtain rfl : v = .slice ad ops.length c := by simpa using e
  refine ⟨ad, c, rfl, ad, c, rfl, fun i o ho => ?_⟩
  obtain ⟨a1, n1, c1, a2, n2, c2, hc⟩ := rows12 hr i o ho
  have hg : ∀ j, j < 12 → es[i * 12 + j]? = ((es.drop (i * 12)).take 12)[j]? := fun j hj => by
    rw [List.getElem?_take, if_pos hj, List.getElem?_drop]
  rw [hc] at hg
  obtain ⟨b, off, rfl, h0⟩ := hd (i * 12 + 0) _ ((hg 0 (by omega)).trans rfl)
  have hcell : ∀ j u, j < 12 → es[i * 12 + j]? = some u → w.cell? ⟨b, off + i * 12 + j, none⟩ = some u := fun j u hj e => by
    obtain ⟨b', off', e', h'⟩ := hd _ _ e
    cases e'
    have := hv _ _ _ h'
    rwa [show off + (i * 12 + j) = off + i * 12 + j by omega] at this
  exact ⟨b, off, a1, n1, c1, a2, n2, c2, rfl, World.block_lt_of_cell? w _ (hv _ _ _ h0), hcell 0 _ (by omega) ((hg 0 (by omega)).trans rfl), hcell 1 _ (by omega) ((hg 1 (by omega)).trans rfl), hcell 2 _ (by omega) ((hg 2 (by omega)).trans rfl), hcell 3 _ (by omega) ((hg 3 (by omega)).trans rfl), hcell 4 _ (by omega) ((hg 4 (by omega)).trans rfl), hcell 5 _ (by omega) ((hg 5 (by omega)).trans rfl), hcell 6 _ (by omega) ((hg 6 (by omega)).trans rfl), hcell 7 _ (by omega) ((hg 7 (by omega)).trans rfl), hcell 8 _ (by omega) ((hg 8 (by omega)).trans rfl), hcell 9 _ (by omega) ((hg 9 (by omega)).trans rfl), hcell 10 _ (by omega) ((hg 10 (by omega)).trans rfl), hcell 11 _ (by omega) ((hg 11 (by omega)).trans rfl)⟩

/-- All that is new is seen. -/
def newV (V : Vis) (n : Nat) (w : World) : Vis := fun b o => if b < n then V b o else w.cell? ⟨b, o, none⟩
theorem row_rep {V : Vis} {n0 : Nat} {w : World} {u : Value} {g : List Int} (h : w.ownsRow n0 3 1 u g.length (g.map (Value.int .i64))) : RepT (newV V n0 w) (.sl (.int .i64)) g [u] := by
  have harr : ∀ g : List Int, RepArr (RepT (newV V n0 w) (.int .i64)) g (g.map (Value.int .i64)) := fun g => by
    induction g with
    | nil => rfl
    | cons x g ih => exact ⟨[.int .i64 x], _, rfl, rfl, ih⟩
  obtain ⟨hl, (⟨rfl, h0⟩ | ⟨gb, cap, cur, rfl, hb, hgb, hle, _, hsz, htk⟩)⟩ := h
  · obtain rfl := List.eq_nil_of_length_eq_zero h0
    exact ⟨none, 0, [], rfl, Nat.le_refl _, rfl, fun j v e => by simp at e⟩
  · refine ⟨_, cap, _, rfl, hle, harr g, fun j v e => ⟨gb, 0, rfl, ?_⟩⟩
    show (if _ then _ else _) = _
    rw [if_neg (by omega), Nat.zero_add]
    rw [← htk, List.getElem?_take] at e
    split at e
    · simp [World.cell?, hgb, ← Array.getElem?_toList, e]
    · cases e
theorem rows_rep {V : Vis} {n0 : Nat} {w : World} {vs : List Value} {gs : List (List Int)} (hI : Inner w n0 vs gs) (hl : vs.length = gs.length) : RepArr (RepT (newV V n0 w) (.sl (.int .i64))) gs vs := by
  have key : ∀ (gs : List (List Int)) (vs : List Value), vs.length = gs.length → (∀ (j : Nat) (u : Value) (g : List Int), vs[j]? = some u → gs[j]? = some g → RepT (newV V n0 w) (.sl (.int .i64)) g [u]) → RepArr (RepT (newV V n0 w) (.sl (.int .i64))) gs vs := by
    intro gs
    induction gs with
    | nil => intro vs hl _; exact List.eq_nil_of_length_eq_zero hl
    | cons g gs ih =>
      intro vs hl h
      cases vs with
      | nil => simp at hl
      | cons u vs => exact ⟨[u], vs, rfl, h 0 u g rfl rfl, ih vs (by simpa using hl) fun j u' g' h1 h2 => h (j + 1) u' g' (by simpa using h1) (by simpa using h2)⟩
  exact key gs vs hl fun j u g h1 h2 => row_rep (hI.row j u g h1 h2)

theorem ok8 {gl : List (Nat × AVal)} : SpecOK Go.Proofs.Try.prog gl 8 S8 := by
  intro V w x vs hpre hg hv hr
  obtain ⟨ops, ⟨⟩⟩ := x
  have hlen : ops.length ≤ 1000 := of_decide_eq_true hpre
  obtain ⟨v, r, rfl, hr1, hr2⟩ := hr
  obtain rfl : r = [] := hr2
  obtain ⟨ad, c, rfl, hL⟩ := opsAt_of hv (show RepT V (.sl OPT) ops [v] from hr1.1)
  refine (Objects_in ops hlen ad c w hL).mono ?_
  rintro e w' ⟨v', M, rfl, hR⟩
  obtain ⟨vs, hrow, hI⟩ := hR.vs
  have hvl : vs.length = (objRun 0 ops ([], [])).1.length := by have := hrow.1; omega
  refine ⟨v', newV V w.heap.size w', rfl, fun b o u h => ?_, fun b o u h => ?_, fun b o hb => if_pos hb, ⟨?_, fun _ _ => trivial⟩, hR.b⟩
  · unfold newV at h
    split at h
    · exact hv.below hR.b b o u h
    · exact h
  · show (if _ then _ else _) = _
    rw [if_pos (World.block_lt_of_cell? w _ (hv b o u h))]; exact h
  · show RepT (newV V w.heap.size w') (.sl (.sl (.int .i64))) (objects ops) [v']
    obtain ⟨hl, (⟨rfl, h0⟩ | ⟨gb, cap, cur, rfl, hb, hgb, hle, _, hsz, htk⟩)⟩ := hrow
    · have : objects ops = [] := List.eq_nil_of_length_eq_zero h0
      rw [this]
      exact ⟨none, 0, [], rfl, Nat.le_refl _, rfl, fun j v e => by simp at e⟩
    · refine ⟨_, cap, vs, rfl, hle, rows_rep hI hvl, fun j v e => ⟨gb, 0, rfl, ?_⟩⟩
      show (if _ then _ else _) = _
      rw [if_neg (by omega), Nat.zero_add]
      rw [← htk, List.getElem?_take] at e
      split at e
      · simp [World.cell?, hgb, ← Array.getElem?_toList, e]
      · cases e
end Go.L19
