/- The contract of pair.all. Own text of this session. -/
import Derived.Test.YtkkkjcpfahhhpaaDoorW0
import Derived.Test.YtkkkjcpfahhhpaaDoorPall
import Derived.Test.YtkkkjcpfahhhpaaDoorAbs25
import Derived.Test.YtkkkjcpfahhhpaaDoorAbs18
set_option linter.unusedVariables false
set_option linter.unusedSimpArgs false
namespace Go.K12
open Go Go.RowKit Go.Abs Go.Inc Go.WPall

theorem val_cs {V : Vis} {d : Val} {cs : List Value} (h : RepT V VT d cs) : cs = [.int .i64 d.1, .int .i64 d.2.1, .string d.2.2.1] := by
  obtain ⟨c1, c2, rfl, h1, c3, c4, rfl, h2, c5, c6, rfl, h3, h4⟩ := h
  cases h1; cases h2; cases h3; cases h4; rfl
theorem evs_cs {V : Vis} {x : Evt} {cs : List Value} (h : RepT V EVT x cs) : ∃ a1 n1 c1 a2 n2 c2, cs = (evtV x a1 n1 c1 a2 n2 c2).toList ∧ RepT V (.sl VT) (Ev.out x) [.slice a2 n2 c2] := by
  obtain ⟨_, _, rfl, e0, _, _, rfl, hc, _, _, rfl, e5, _, _, rfl, e6, _, _, rfl, hk, _, _, rfl, e10, _, _, rfl, ha, _, _, rfl, ho, _, _, rfl, e13, _, _, rfl, e14, e15⟩ := h
  have h1 := val_cs hc
  have h2 := val_cs hk
  obtain ⟨a1, c1, s1, e11, g1⟩ := ha
  obtain ⟨a2, c2, s2, e12, g2⟩ := ho
  cases e0; cases e5; cases e6; cases e10; cases e11; cases e12; cases e13; cases e14; cases e15
  subst h1; subst h2
  exact ⟨_, _, _, _, _, _, rfl, a2, c2, s2, rfl, g2⟩
theorem rows14 {V : Vis} : ∀ {xs : List Evt} {es : List Value}, RepArr (RepT V EVT) xs es → ∀ i x, xs[i]? = some x → RepT V EVT x ((es.drop (i * 14)).take 14)
  | [], _, _, i, y, e => by simp at e
  | z :: xs, _, ⟨c1, c2, rfl, h1, h2⟩, 0, y, e => by
    obtain ⟨a1, n1, q1, a2, n2, q2, hc, _⟩ := evs_cs h1
    simp only [List.getElem?_cons_zero, Option.some.injEq] at e
    subst e
    rw [Nat.zero_mul, List.drop_zero, List.take_append_of_le_length (by rw [hc]; exact Nat.le_refl _), List.take_of_length_le (by rw [hc]; exact Nat.le_refl _)]
    exact h1
  | z :: xs, _, ⟨c1, c2, rfl, h1, h2⟩, i + 1, y, e => by
    obtain ⟨a1, n1, q1, a2, n2, q2, hc, _⟩ := evs_cs h1
    have := rows14 h2 i y (by simpa using e)
    have hl : c1.length = 14 := by rw [hc]; rfl
    rw [show (i + 1) * 14 = c1.length + i * 14 by omega, List.drop_append, List.drop_eq_nil_of_le (by omega), List.nil_append, show c1.length + i * 14 - c1.length = i * 14 by omega]
    exact this
theorem evsAt_of {gl : List (Nat × AVal)} (h33 : SpecOK Go.Proofs.Tryd.prog gl 33 S33) (h34 : SpecOK Go.Proofs.Tryd.prog gl 34 S34) {V : Vis} {w : World} (hg : GlobOk gl V) (hv : VisOk V w) {h : List Evt} (hok : okAll h = true) {v : Value} (hr : RepT V (.sl EVT) h [v]) : EvsAt w w v h := by
  obtain ⟨ad, c, es, e, hle, hra, hd⟩ := hr
  obtain rfl : v = .slice ad h.length c := by simpa using e
  simp only [okAll, Bool.and_eq_true, List.all_eq_true] at hok
  obtain ⟨hH, _, hL⟩ := hok
  refine ⟨ad, c, rfl, fun i x hx => ?_⟩
  have hrx := rows14 hra i x hx
  have hmem : x ∈ h := List.mem_of_getElem? hx
  obtain ⟨a1, n1, c1, a2, n2, c2, hc, ho⟩ := evs_cs hrx
  have hgj : ∀ j, j < 14 → es[i * 14 + j]? = (evtV x a1 n1 c1 a2 n2 c2).toList[j]? := fun j hj => by
    rw [← hc, List.getElem?_take, if_pos hj, List.getElem?_drop]
  obtain ⟨b, off, rfl, h0⟩ := hd (i * 14 + 0) _ ((hgj 0 (by omega)).trans rfl)
  have hx1 : okE x = true := by
    have : List.all h (wfD EVT) = true := by
      have := hH
      simp only [Inc.okH, wfD, Bool.and_eq_true] at this
      exact this.2
    exact List.all_eq_true.1 this x hmem
  refine ⟨b, off, a1, n1, c1, a2, n2, c2, rfl, World.block_lt_of_cell? w _ (hv _ _ _ h0), fun j u hj => ?_, fun W' hW => ?_, fun hrx W' m o hW => ?_⟩
  · have hj14 : j < 14 := by
      have := (Array.getElem?_eq_some_iff.1 hj).1
      simpa using this
    obtain ⟨b', off', e', h'⟩ := hd (i * 14 + j) u ((hgj j hj14).trans (by simpa using hj))
    cases e'
    have := hv _ _ _ h'
    rwa [show off + (i * 14 + j) = off + i * 14 + j by omega] at this
  · refine (h33 V W' (x, ()) [.agg (evtV x a1 n1 c1 a2 n2 c2)] ?_ hg (hv.below hW) ⟨_, _, rfl, ⟨_, ?_, repCs_enc (x := bare V) hrx⟩, rfl⟩).mono ?_
    · show okEv x = true
      exact hx1
    · rw [hc]
    · rintro e W2 ⟨v, V', rfl, _, _, _, hrv, hbl⟩
      have hrv : [v] = [Value.bool (rightE x)] := hrv
      cases hrv
      exact ⟨rfl, hbl⟩
  · refine (h34 V W' (m, (o, (Ev.out x, ()))) [.int .i64 m, .int .i64 o, .slice a2 n2 c2] ?_ hg (hv.below hW) ⟨_, _, rfl, rfl, _, _, rfl, rfl, _, _, rfl, ⟨ho, fun _ _ => trivial⟩, rfl⟩).mono ?_
    · show okF2 m o (Ev.out x) = true
      have := hL x hmem
      simp only [evLen, hrx, Bool.not_true, Bool.false_or, decide_eq_true_eq] at this
      have ho' : okVs (Ev.out x) = true := by
        have h1 : (wfD (.int .i64) (Ev.time x) && (wfD VT (Ev.cli x) && (wfD (.int .i64) (Ev.typ x) && (wfD (.int .i64) (Ev.mod x) && (wfD VT (Ev.key x) && (wfD (.int .i64) (Ev.op x) && (wfD (.sl VT) (Ev.args x) && (wfD (.sl VT) (Ev.out x) && wfD (.pr .bool (.pr .str .un)) x.2.2.2.2.2.2.2.2)))))))) = true := hx1
        simp only [Bool.and_eq_true] at h1
        exact h1.2.2.2.2.2.2.2.1
      simp only [okF2, okL2, ho', Bool.true_and, decide_eq_true_eq]
      omega
    · rintro e W2 ⟨v, V', rfl, _, _, _, hrv, hbl⟩
      obtain ⟨vs, rfl, v1, r1, rfl, ⟨⟨a, c', es', e1, _⟩, _⟩, v2, r2, rfl, e2, e3⟩ := (show RepV (bare V') (.tu (.pr (.sl (.int .i64) (signOuts m o (Ev.out x)).1 .no) (.pr (.b (signOuts m o (Ev.out x)).2) .un))) v from hrv)
      cases e1
      cases e2
      cases e3
      exact ⟨_, _, _, rfl, hbl⟩

/-- All that is new is seen, but one block. -/
def newV (V : Vis) (n bc : Nat) (w : World) : Vis := fun b o => if b < n then V b o else if b = bc then none else w.cell? ⟨b, o, none⟩
theorem ints_rep {V : Vis} : ∀ g : List Int, RepArr (RepT V (.int .i64)) g (g.map (Value.int .i64))
  | [] => rfl
  | x :: g => ⟨[.int .i64 x], _, rfl, rfl, ints_rep g⟩
theorem newV_at {V : Vis} {n bc b : Nat} {w : World} {cs : Array Value} {E : TypeId} (hb : n ≤ b) (hne : b ≠ bc) (h : w.heap[b]? = some (.cells cs E (0, 0))) (j : Nat) : newV V n bc w b j = cs[j]? := by
  show (if _ then _ else _) = _
  rw [if_neg (by omega), if_neg hne]
  simp [World.cell?, h]
theorem row_rep {V : Vis} {n0 bc : Nat} {w : World} {u : Value} {g : List Int} (h : w.ownsRow n0 3 1 u g.length (g.map (Value.int .i64))) (hne : u.ownBlock ≠ some bc) : RepT (newV V n0 bc w) (.sl (.int .i64)) g [u] := by
  obtain ⟨hl, (⟨rfl, h0⟩ | ⟨gb, cap, cur, rfl, hb, hgb, hle, _, hsz, htk⟩)⟩ := h
  · obtain rfl := List.eq_nil_of_length_eq_zero h0
    exact ⟨none, 0, [], rfl, Nat.le_refl _, rfl, fun j v e => by simp at e⟩
  · refine ⟨_, cap, _, rfl, hle, ints_rep g, fun j v e => ⟨gb, 0, rfl, ?_⟩⟩
    rw [Nat.zero_add, newV_at hb (fun e' => hne (by rw [← e']; rfl)) hgb, ← Array.getElem?_toList]
    rw [← htk, List.getElem?_take] at e
    split at e
    · exact e
    · cases e

theorem okD20 {gl : List (Nat × AVal)} (h33 : SpecOK Go.Proofs.Tryd.prog gl 33 S33) (h34 : SpecOK Go.Proofs.Tryd.prog gl 34 S34) : XOK Go.Proofs.Tryd.prog gl 20 X20 := by
  intro V w D pin x v vs hpre hlen hpin hR
  obtain ⟨h, ⟨⟩⟩ := v
  have hok : okAll h = true := hpre
  have hlen' : h.length ≤ 1000 := by
    simp only [okAll, Bool.and_eq_true, decide_eq_true_eq] at hok
    exact hok.2.1
  match vs, hlen, hR with
  | [va], _, hR =>
  have h0 : RepV x (.sl EVT h .no) va := hR.slots 0 _ rfl
  have hgok := hR.good.gok
  have hgx : GlobOk gl x.V := fun g A e => by
    obtain ⟨t, d, es, e1, e2, e3⟩ := hgok g A e
    exact ⟨t, d, es, e1, e2.mono hR.good.grow, e3.mono hR.good.grow⟩
  refine (all_in h hlen' va w (evsAt_of h33 h34 hgx hR.good.vis hok h0.1)).mono ?_
  rintro e w' ⟨Bc, rfl, hw, mb, ml, eb, gv, hC⟩
  have hV' : VisOk (newV x.V w.heap.size Bc w') w' := fun b o u e => by
    unfold newV at e
    split at e
    · exact hR.good.vis.below hw b o u e
    · split at e
      · cases e
      · exact e
  have hlow : ∀ b o, b < w.heap.size → newV x.V w.heap.size Bc w' b o = x.V b o := fun b o hb => if_pos hb
  have hle : VLe x.V (newV x.V w.heap.size Bc w') := fun b o u e => (hlow b o (World.block_lt_of_cell? w _ (hR.good.vis b o u e))).trans e
  obtain ⟨x', hR'⟩ := hR.boxV (d := 0) (b0 := Bc) (E := 58) (sz := (5, 1)) (V' := newV x.V w.heap.size Bc w') (w' := w') hC.hB (cs := (clkRow mb ml (Ck.last (pairAll h).1) gv eb (Ck.ends (pairAll h).1).length).toList)
    (c := .pr .junk (.pr .junk (.pr (.i .i64 (Ck.last (pairAll h).1)) (.pr (.sl (.int .i64) (Ck.gone (pairAll h).1) .no) (.pr (.sl (.int .i64) (Ck.ends (pairAll h).1) .no) .un))))) (A := .bx 0 0) (v := .pointer (some ⟨Bc, 0, none⟩))
    (by show 0 < 1; omega) rfl hw hV' hle hlow (fun _ o => by show (if _ then _ else _) = _; rw [if_neg (by have := hC.hB; omega), if_pos rfl])
    (.inr ⟨by decide, hC.row, ⟨[.map (some mb)], _, rfl, ⟨_, rfl, rfl⟩, [.map (some ml)], _, rfl, ⟨_, rfl, rfl⟩, [.int .i64 (Ck.last (pairAll h).1)], _, rfl, rfl, [gv], _, rfl, ⟨row_rep hC.g hC.gB, fun _ _ => trivial⟩, [.slice (some ⟨eb, 0, none⟩) (Ck.ends (pairAll h).1).length (Ck.ends (pairAll h).1).length], [], rfl, ⟨⟨_, _, _, rfl, Nat.le_refl _, ints_rep _, fun j u e => ⟨eb, 0, rfl, by show newV x.V w.heap.size Bc w' eb (0 + j) = some u; rw [Nat.zero_add, newV_at hC.he hC.eB hC.e, ← Array.getElem?_toList]; exact e⟩⟩, fun _ _ => trivial⟩, rfl⟩, fun t xs e => nomatch e⟩)
    (fun k e => by simp [mentions] at e) (fun y e => ⟨Bc, (5, 1), e, rfl, by decide⟩) (fun k e => by have := Nat.eq_of_beq_eq_true e; omega)
  have hren := hR'.ren (m := [(0, 1000)]) (V1 := V) (B := ⟨w, D, pin⟩) (ch := .pr (.bx 0 0) (.pr (.pr (.i .i64 (pairAll h).2.1) (.pr (.i .i64 (pairAll h).2.2.1) .un)) .un)) (vs := [.pointer (some ⟨Bc, 0, none⟩), .agg #[.int .i64 (pairAll h).2.1, .int .i64 (pairAll h).2.2.1]]) (bs := _) rfl rfl
    ⟨_, _, rfl, hR'.slots 0 _ rfl, _, _, rfl, ⟨_, rfl, [.int .i64 (pairAll h).2.1], _, rfl, rfl, [.int .i64 (pairAll h).2.2.1], [], rfl, rfl, rfl⟩, rfl⟩ hR'.good.grow hR'.good.old (fun j k bl sz hm hs hz => (hR'.good.sgs j bl sz hs hz).1) hR'.good.bel hR'.good.gok
    (fun k p e => by
      have := hpin k p e
      simp [X20, XAll] at this)
    (fun k p e => by
      have := hpin k p e
      simp [X20, XAll] at this)
  exact ⟨_, _, rfl, rfl, hren⟩
end Go.K12
