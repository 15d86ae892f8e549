/- Own text of this session: pair.Opers and the statement, walked by hand. -/
import Derived.Test.YtkkkjcpfahhhpaaDoorOk
import Derived.Test.YtkkkjcpfahhhpaaDoorPall
import Derived.Test.YtkkkjcpfahhhpaaDoorFresh
import Derived.Deep.Cut
import Derived.Deep.RegionHeld3

set_option linter.unusedVariables false
set_option linter.unusedSimpArgs false
namespace Go.K12
open Go Go.RowKit Go.Shelf Go.Abs Go.Inc Go.WKeep

theorem glob_mono {gl : List (Nat × AVal)} {V V' : Vis} (h : GlobOk gl V) (hle : VLe V V') : GlobOk gl V' := fun g A e => by
  obtain ⟨t, d, es, e1, e2, e3⟩ := h g A e
  exact ⟨t, d, es, e1, e2.mono hle, e3.mono hle⟩
theorem evt_cs {V : Vis} {x : Evt} {cs : List Value} (h : RepT V EVT x cs) : ∃ a1 c1 a2 c2, cs = (Go.WPall.evtV x a1 (Ev.args x).length c1 a2 (Ev.out x).length c2).toList ∧ RepT V (.sl VT) (Ev.args x) [.slice a1 (Ev.args x).length c1] ∧ RepT V (.sl VT) (Ev.out x) [.slice a2 (Ev.out x).length c2] := by
  obtain ⟨_, _, rfl, e0, _, _, rfl, hc, _, _, rfl, e5, _, _, rfl, e6, _, _, rfl, hk, _, _, rfl, e10, _, _, rfl, ha, _, _, rfl, ho, _, _, rfl, e13, _, _, rfl, e14, e15⟩ := h
  have h1 := Go.WKeep.val_cs hc
  have h2 := Go.WKeep.val_cs hk
  obtain ⟨a1, c1, s1, e11, g1⟩ := ha
  obtain ⟨a2, c2, s2, e12, g2⟩ := ho
  cases e0; cases e5; cases e6; cases e10; cases e11; cases e12; cases e13; cases e14; cases e15
  subst h1; subst h2
  exact ⟨a1, c1, a2, c2, rfl, ⟨a1, c1, s1, rfl, g1⟩, ⟨a2, c2, s2, rfl, g2⟩⟩
theorem evts_at {V : Vis} : ∀ {xs : List Evt} {es : List Value}, RepArr (RepT V EVT) xs es → ∀ (i : Nat) (x : Evt), xs[i]? = some x → ∃ a1 c1 a2 c2, (∀ j, j < 14 → es[i * 14 + j]? = (Go.WPall.evtV x a1 (Ev.args x).length c1 a2 (Ev.out x).length c2)[j]?) ∧ RepT V (.sl VT) (Ev.args x) [.slice a1 (Ev.args x).length c1] ∧ RepT V (.sl VT) (Ev.out x) [.slice a2 (Ev.out x).length c2]
  | [], _, _, i, y, e => by simp at e
  | z :: xs, _, ⟨c1, c2, e, h1, h2⟩, 0, y, ey => by
    obtain ⟨u1, k1, u2, k2, hc, ha, ho⟩ := evt_cs h1
    simp only [List.getElem?_cons_zero, Option.some.injEq] at ey
    subst ey
    refine ⟨u1, k1, u2, k2, fun j hj => ?_, ha, ho⟩
    rw [e, hc, Nat.zero_mul, Nat.zero_add, List.getElem?_append_left (by show j < 14; exact hj), Array.getElem?_toList]
  | z :: xs, _, ⟨c1, c2, e, h1, h2⟩, i + 1, y, ey => by
    obtain ⟨u1, k1, u2, k2, hc, ha, ho⟩ := evt_cs h1
    obtain ⟨v1, l1, v2, l2, h3, h4⟩ := evts_at h2 i y (by simpa using ey)
    refine ⟨v1, l1, v2, l2, fun j hj => ?_, h4⟩
    rw [e, hc, List.getElem?_append_right (by show 14 ≤ _; omega)]
    show c2[(i + 1) * 14 + j - 14]? = _
    rw [show (i + 1) * 14 + j - 14 = i * 14 + j by omega]
    exact h3 j hj
/-- A slice of events that is seen. -/
theorem evs_seen {V : Vis} {h : List Evt} {v : Value} (hr : RepT V (.sl EVT) h [v]) : ∃ ad c, v = .slice ad h.length c ∧ h.length ≤ c ∧ ∀ (i : Nat) (x : Evt), h[i]? = some x → ∃ b off a1 c1 a2 c2, ad = some ⟨b, off, none⟩ ∧ (∀ j u, (Go.WPall.evtV x a1 (Ev.args x).length c1 a2 (Ev.out x).length c2)[j]? = some u → V b (off + i * 14 + j) = some u) ∧ RepT V (.sl VT) (Ev.args x) [.slice a1 (Ev.args x).length c1] ∧ RepT V (.sl VT) (Ev.out x) [.slice a2 (Ev.out x).length c2] := by
  obtain ⟨ad, c, es, e, hle, hra, hd⟩ := hr
  obtain rfl : v = .slice ad h.length c := by simpa using e
  refine ⟨ad, c, rfl, hle, fun i x hx => ?_⟩
  obtain ⟨a1, c1, a2, c2, h1, h2, h3⟩ := evts_at hra i x hx
  obtain ⟨b, off, rfl, _⟩ := hd (i * 14 + 0) _ ((h1 0 (by omega)).trans rfl)
  refine ⟨b, off, a1, c1, a2, c2, rfl, fun j u hu => ?_, h2, h3⟩
  have hj : j < 14 := (Array.getElem?_eq_some_iff.1 hu).1
  obtain ⟨b', off', e', h'⟩ := hd (i * 14 + j) u ((h1 j hj).trans hu)
  cases e'
  rwa [show off + (i * 14 + j) = off + i * 14 + j by omega] at h'
theorem ints_row {W : World} {n0 : Nat} {u : Value} {g : List Int} (h : W.ownsRow n0 3 1 u g.length (g.map (Value.int .i64))) {V : Vis} (hV : ∀ b o, n0 ≤ b → V b o = W.cell? ⟨b, o, none⟩) : RepT V (.sl (.int .i64)) g [u] := by
  obtain ⟨hl, (⟨rfl, h0⟩ | ⟨gb, cap, cur, rfl, hb, hgb, hle, _, hsz, htk⟩)⟩ := h
  · obtain rfl := List.eq_nil_of_length_eq_zero h0
    exact ⟨none, 0, [], rfl, Nat.le_refl _, rfl, fun j v e => by simp at e⟩
  · refine ⟨_, cap, _, rfl, hle, ints_rep g, fun j v e => ⟨gb, 0, rfl, ?_⟩⟩
    rw [Nat.zero_add, hV _ _ hb]
    rw [← htk, List.getElem?_take] at e
    split at e
    · simp [World.cell?, hgb, ← Array.getElem?_toList, e]
    · cases e
/-- Is it among them? -/
theorem has_in {V : Vis} (hg : GlobOk gl V) {W : World} (hv : VisOk V W) {n0 : Nat} {u : Value} {g : List Int} (hlo : ∀ b o x, V b o = some x → b < n0) (h : W.ownsRow n0 3 1 u g.length (g.map (Value.int .i64))) (hl : g.length ≤ 1000000) (i : Int) :
    Calls Go.Proofs.Tryd.prog 22 #[u, .int .i64 i] W fun e W' => e = .returned (.bool (hasI g i)) ∧ Below W.heap.size W W' := by
  have hle : VLe V (allSeen W) := fun b o x e => hv b o x e
  refine (ok22 (allSeen W) W (g, (i, ())) [u, .int .i64 i] ?_ (glob_mono hg hle) (fun _ _ _ e => e) ⟨_, _, rfl, ⟨ints_row h (fun _ _ _ => rfl), fun _ _ => trivial⟩, _, _, rfl, rfl, rfl⟩).mono ?_
  · show okIdxI g i = true
    exact decide_eq_true hl
  · rintro e W' ⟨v, V', rfl, _, _, _, hh, hb⟩
    have h' : RepV (bare V') (.b (hasI g i)) v := hh
    have hv : v = .bool (hasI g i) := by simpa [RepV, RepV1, RepCs] using h'
    subst hv
    exact ⟨rfl, hb⟩
theorem grow_set (W : World) (b m : Nat) (v : Value) : W.grownBy (W.setCell ⟨b, m, none⟩ v) (some b) :=
  ⟨rfl, rfl, rfl, (KeepsWalks.setCell W _ v).size, fun k _ hk => Below.heap_setCell _ _ _ k (fun e => hk (by rw [e]))⟩
theorem OutAt_setLow {W : World} {n0 : Nat} {T : TypeId} {v : Value} {L : List Opr} {us : List (Value × Value)} (h : OutAt W n0 T v L us) {b : Nat} (hb : b < n0) (m : Nat) (u : Value) : OutAt (W.setCell ⟨b, m, none⟩ u) n0 T v L us := h.other (grow_set W b m u) (fun k e => by cases e; exact hb)
theorem OutAt_drew {W : World} {n0 : Nat} {T : TypeId} {v : Value} {L : List Opr} {us : List (Value × Value)} (h : OutAt W n0 T v L us) : OutAt W.drew n0 T v L us := h.below (Below.refl _ W).drew
theorem OutAt_lo {W : World} {n0 n1 : Nat} {T : TypeId} {v : Value} {L : List Opr} {us : List (Value × Value)} (h : OutAt W n0 T v L us) : ∀ k, v.ownBlock = some k → n0 ≤ k ∧ k < W.heap.size := h.row.lt
theorem wp_join3R {P : Program} {c : Code} {K : Exit → Act → World → Prop} {a : Act} {w : World} {α β γ : Type} (A : α → β → γ → Act) (R : World → α → β → γ → Prop) (reg : ∀ N : Act → World → Prop, (∀ w' x y z, R w' x y z → N (A x y z) w') → c.wp P (onlyN N) a w) (cont : ∀ w' x y z, R w' x y z → K .normal (A x y z) w') : c.wp P K a w :=
  Code.wp_mono (fun e a w h => by cases e with | normal => exact h | _ => exact h.elim) (reg (fun a w => K .normal a w) cont)
theorem keep_set {W : World} {b c m : Nat} {v : Value} {o : Option Obj} (h : W.heap[b]? = o) (hne : b ≠ c) : (W.setCell ⟨c, m, none⟩ v).heap[b]? = o := (Below.heap_setCell _ _ _ _ hne).trans h
theorem keep_set12 {W : World} {b c : Nat} {v0 v1 v2 v3 v4 v5 v6 v7 v8 v9 v10 v11 : Value} {o : Option Obj} (h : W.heap[b]? = o) (hne : b ≠ c) : (((((((((((((W).setCell ⟨c, 0, none⟩ v0).setCell ⟨c, 1, none⟩ v1).setCell ⟨c, 2, none⟩ v2).setCell ⟨c, 3, none⟩ v3).setCell ⟨c, 4, none⟩ v4).setCell ⟨c, 5, none⟩ v5).setCell ⟨c, 6, none⟩ v6).setCell ⟨c, 7, none⟩ v7).setCell ⟨c, 8, none⟩ v8).setCell ⟨c, 9, none⟩ v9).setCell ⟨c, 10, none⟩ v10).setCell ⟨c, 11, none⟩ v11).heap[b]? = o := keep_set (keep_set (keep_set (keep_set (keep_set (keep_set (keep_set (keep_set (keep_set (keep_set (keep_set (keep_set (h) hne) hne) hne) hne) hne) hne) hne) hne) hne) hne) hne) hne
theorem below_set {B : Nat} {a W : World} {c m : Nat} {v : Value} (h : Below B a W) (hc : B ≤ c) : Below B a (W.setCell ⟨c, m, none⟩ v) := h.setCell (p := ⟨c, m, none⟩) hc v
theorem below_set12 {B : Nat} {a W : World} {c : Nat} {v0 v1 v2 v3 v4 v5 v6 v7 v8 v9 v10 v11 : Value} (h : Below B a W) (hc : B ≤ c) : Below B a (((((((((((((W).setCell ⟨c, 0, none⟩ v0).setCell ⟨c, 1, none⟩ v1).setCell ⟨c, 2, none⟩ v2).setCell ⟨c, 3, none⟩ v3).setCell ⟨c, 4, none⟩ v4).setCell ⟨c, 5, none⟩ v5).setCell ⟨c, 6, none⟩ v6).setCell ⟨c, 7, none⟩ v7).setCell ⟨c, 8, none⟩ v8).setCell ⟨c, 9, none⟩ v9).setCell ⟨c, 10, none⟩ v10).setCell ⟨c, 11, none⟩ v11) := below_set (below_set (below_set (below_set (below_set (below_set (below_set (below_set (below_set (below_set (below_set (below_set (h) hc) hc) hc) hc) hc) hc) hc) hc) hc) hc) hc) hc
theorem new_set {W : World} {n0 : Nat} {u : Value} {l : List Val} {c m : Nat} {v : Value} (h : NewAt W n0 none u l) (hc : c < n0) : NewAt (W.setCell ⟨c, m, none⟩ v) n0 none u l := h.setLow hc v
theorem new_set12 {W : World} {n0 : Nat} {u : Value} {l : List Val} {c : Nat} {v0 v1 v2 v3 v4 v5 v6 v7 v8 v9 v10 v11 : Value} (h : NewAt W n0 none u l) (hc : c < n0) : NewAt (((((((((((((W).setCell ⟨c, 0, none⟩ v0).setCell ⟨c, 1, none⟩ v1).setCell ⟨c, 2, none⟩ v2).setCell ⟨c, 3, none⟩ v3).setCell ⟨c, 4, none⟩ v4).setCell ⟨c, 5, none⟩ v5).setCell ⟨c, 6, none⟩ v6).setCell ⟨c, 7, none⟩ v7).setCell ⟨c, 8, none⟩ v8).setCell ⟨c, 9, none⟩ v9).setCell ⟨c, 10, none⟩ v10).setCell ⟨c, 11, none⟩ v11) n0 none u l := new_set (new_set (new_set (new_set (new_set (new_set (new_set (new_set (new_set (new_set (new_set (new_set (h) hc) hc) hc) hc) hc) hc) hc) hc) hc) hc) hc) hc
theorem row_set12 {W : World} {c : Nat} {t : TypeId} {x0 x1 x2 x3 x4 x5 x6 x7 x8 x9 x10 x11 v0 v1 v2 v3 v4 v5 v6 v7 v8 v9 v10 v11 : Value} (h : W.heap[c]? = some (.cells #[x0, x1, x2, x3, x4, x5, x6, x7, x8, x9, x10, x11] t (0, 0))) : (((((((((((((W).setCell ⟨c, 0, none⟩ v0).setCell ⟨c, 1, none⟩ v1).setCell ⟨c, 2, none⟩ v2).setCell ⟨c, 3, none⟩ v3).setCell ⟨c, 4, none⟩ v4).setCell ⟨c, 5, none⟩ v5).setCell ⟨c, 6, none⟩ v6).setCell ⟨c, 7, none⟩ v7).setCell ⟨c, 8, none⟩ v8).setCell ⟨c, 9, none⟩ v9).setCell ⟨c, 10, none⟩ v10).setCell ⟨c, 11, none⟩ v11).heap[c]? = some (.cells #[v0, v1, v2, v3, v4, v5, v6, v7, v8, v9, v10, v11] t (0, 0)) := by
  have e := set_same (i := 11) (v := v11) (set_same (i := 10) (v := v10) (set_same (i := 9) (v := v9) (set_same (i := 8) (v := v8) (set_same (i := 7) (v := v7) (set_same (i := 6) (v := v6) (set_same (i := 5) (v := v5) (set_same (i := 4) (v := v4) (set_same (i := 3) (v := v3) (set_same (i := 2) (v := v2) (set_same (i := 1) (v := v1) (set_same (i := 0) (v := v0) (h))))))))))))
  simpa only [List.setIfInBounds_toArray, List.set_cons_zero, List.set_cons_succ] using e
theorem nine {W : World} {b : Nat} {x : Evt} {a1 a2 : Option Addr} {n1 c1 n2 c2 : Nat} (h : W.heap[b]? = some (.cells (Go.WPall.evtV x a1 n1 c1 a2 n2 c2) 47 (0, 0))) : W.cell? ⟨b, 1, none⟩ = some (.int .i64 (Ev.cli x).1) ∧ W.cell? ⟨b, 2, none⟩ = some (.int .i64 (Ev.cli x).2.1) ∧ W.cell? ⟨b, 3, none⟩ = some (.string (Ev.cli x).2.2.1) ∧ W.cell? ⟨b, 5, none⟩ = some (.int .i64 (Ev.mod x)) ∧ W.cell? ⟨b, 6, none⟩ = some (.int .i64 (Ev.key x).1) ∧ W.cell? ⟨b, 7, none⟩ = some (.int .i64 (Ev.key x).2.1) ∧ W.cell? ⟨b, 8, none⟩ = some (.string (Ev.key x).2.2.1) ∧ W.cell? ⟨b, 9, none⟩ = some (.int .i64 (Ev.op x)) ∧ W.cell? ⟨b, 10, none⟩ = some (.slice a1 n1 c1) :=
  ⟨cellAt (i := 1) h rfl, cellAt (i := 2) h rfl, cellAt (i := 3) h rfl, cellAt (i := 5) h rfl, cellAt (i := 6) h rfl, cellAt (i := 7) h rfl, cellAt (i := 8) h rfl, cellAt (i := 9) h rfl, cellAt (i := 10) h rfl⟩
theorem in_drew {W : World} {b : Nat} {o : Option Obj} (h : W.heap[b]? = o) : W.drew.heap[b]? = o := h
theorem new_swap {W : World} {n0 : Nat} {ob ob' : Option Nat} {u : Value} {l : List Val} (h : NewAt W n0 ob u l) (ho : ∀ k, ob' = some k → k < n0) : NewAt W n0 ob' u l := by
  obtain ⟨ad, c, e, hc, h⟩ := h
  exact ⟨ad, c, e, hc, h.imp id fun ⟨bl, cs, E, e1, h1, h2, h3, h4⟩ => ⟨bl, cs, E, e1, h1, h2, fun e => by have := ho bl e.symm; omega, h4⟩⟩
theorem new_nil (W : World) (n0 : Nat) (ob : Option Nat) : NewAt W n0 ob (.slice none 0 0) [] := ⟨none, 0, rfl, Nat.le_refl _, .inl rfl⟩
theorem new_own {W : World} {n0 b m : Nat} {u v : Value} {l : List Val} (h : NewAt W n0 (some b) u l) : NewAt (W.setCell ⟨b, m, none⟩ v) n0 (some b) u l := h.grown (grow_set W b m v) (.inl rfl)
end Go.K12

set_option linter.unusedVariables false
set_option linter.unusedSimpArgs false
namespace Go.K12
open Go Go.RowKit Go.Shelf Go.Abs Go.Inc Go.WKeep

set_option maxRecDepth 100000 in
set_option maxHeartbeats 10000000 in
theorem opers_in {V : Vis} (hg : GlobOk gl V) (h : List Evt) (hok : okAll h = true) (hal : ∀ e ∈ h, (Ev.args e).length ≤ 2000 ∧ (Ev.out e).length ≤ 2000) (w : World) (hv : VisOk V w) (sv : Value) (hs : RepT V (.sl EVT) h [sv]) :
    Calls Go.Proofs.Tryd.prog 12 #[sv] w fun e w' => ∃ u us n1, e = .returned (.tuple #[u, .agg #[.int .i64 (pairAll h).2.1, .int .i64 (pairAll h).2.2.1]]) ∧ Below w.heap.size w w' ∧ w.heap.size ≤ n1 ∧ n1 ≤ w'.heap.size ∧ OutAt w' n1 41 u (pairOpers h).1 us := by
  have hlen : h.length ≤ 1000 := (okAll_parts hok).2.1
  have hE : Go.WPall.EvsAt w w sv h := evsAt_of ok33 ok34 hg hv hok hs
  obtain ⟨ad, c, rfl, hle, hevs⟩ := evs_seen hs
  obtain ⟨i0, z0, hti, htz, hts, htb, htc⟩ := infoN (P := Go.Proofs.Tryd.prog) (T := 41) (s := 12) (b := 144) (by kernel_rfl)
  go_enter Go.Proofs.Tryd.func12, Go.Proofs.Tryd.ntmps12
  have hw1 : Below w.heap.size w (w.alloc (.cells #[.int .i64 0, .int .i64 0] 27)) := (Below.refl _ w).alloc (Nat.le_refl _) _
  have hA := Go.WPall.all_in h hlen _ _ ((hE.below hw1).up (.cells #[.int .i64 0, .int .i64 0] 27))
  go_upto_region 2 with (go_at_call 20; refine hA.mono ?_; rintro e W1 ⟨Bc, rfl, hb1, hC⟩)
  have hf0 := World.alloc_heap_new w (.cells #[.int .i64 0, .int .i64 0] 27)
  have hws : (w.alloc (.cells #[.int .i64 0, .int .i64 0] 27)).heap.size = w.heap.size + 1 := by simp
  rw [hws] at hb1 hC
  have hp0 := (hb1.block w.heap.size (by omega)).trans hf0
  have hsz1 := hb1.size
  rw [hws] at hsz1
  have hB1 := hw1.trans (hb1.mono (by omega))
  generalize hcode : (pairAll h).2.1 = code at *
  generalize hline : (pairAll h).2.2.1 = line at *
  have hC2 : Go.WPall.ClkAt (w.heap.size + 1) (W1.alloc (.cells #[.int .i64 code, .int .i64 line] 27)) Bc (pairAll h).1 := by
    obtain ⟨mb, ml, eb, gv, k⟩ := hC
    exact ⟨mb, ml, eb, gv, k.below ((Below.refl _ W1).alloc (Nat.le_refl _) _)⟩
  have hp2 : (W1.alloc (.cells #[.int .i64 code, .int .i64 line] 27)).heap[w.heap.size]? = some (.cells #[.int .i64 0, .int .i64 0] 27 (0, 0)) := (Below.heap_alloc _ _ _ (by omega)).trans hp0
  have hq2 := World.alloc_heap_new W1 (.cells #[.int .i64 code, .int .i64 line] 27)
  have hB2 := hB1.alloc hB1.size (.cells #[.int .i64 code, .int .i64 line] 27)
  have hsz2 : (W1.alloc (.cells #[.int .i64 code, .int .i64 line] 27)).heap.size = W1.heap.size + 1 := by simp
  clear hC hp0 hb1 hB1 hA hf0 hws
  generalize W1.alloc (.cells #[.int .i64 code, .int .i64 line] 27) = W2 at *
  have r0 := cellAt (i := 0) hq2 rfl
  have r1 := cellAt (i := 1) hq2 rfl
  have s0 := cellAt (i := 0) hp2 rfl
  have s1 := cellAt (i := 1) hp2 rfl
  have f0 := frozAt (i := 0) hp2
  have f1 := frozAt (i := 1) hp2
  by_cases hz : code = 0
  · subst hz
    obtain ⟨hIn, hW⟩ := (all_ref h (h.length + 1) 0 _ (Go.Inc.CInv.begin h) (by omega) (by omega)).2 hcode
    have hWF : WellF h := fun j hj => hW j (by omega) hj
    obtain ⟨mb, ml, eb, gv, hk⟩ := hC2
    have hop : (pairOpers h).1 = (List.range h.length).filterMap (pairOper h (pairAll h).1) := by
      unfold pairOpers
      rw [hcode]; rfl
    change Go.Inc.CInv h h.length (pairAll h).1 at hIn
    generalize (pairAll h).1 = ck at *
    have hvis : ∀ W', Below w.heap.size w W' → VisOk V W' := fun W' hW b o v e => by
      have h1 := hv b o v e
      rw [← h1]
      exact hW.cell (p := ⟨b, o, none⟩) (World.block_lt_of_cell? w _ h1)
    have hVlo : ∀ b o x, V b o = some x → b < w.heap.size + 1 := fun b o x e => by have := World.block_lt_of_cell? w _ (hv b o x e); simp at this; omega
    have hsz2' := hB2.size
    go_upto_region 6 with (fail)
    go_loopw [6, 22] (fun p q wr => ∃ (i : Nat) (us : List (Value × Value)), q = .int .i64 (i : Int) ∧ i ≤ h.length ∧ Below W2.heap.size W2 wr ∧ OutAt wr W2.heap.size 41 p ((List.range i).filterMap (pairOper h ck)) us) (fun _ q _ => 2000 - (intOf q).toNat)
    case atStart => exact ⟨0, [], rfl, Nat.zero_le _, Below.refl _ _, OutAt.nil _ _ _⟩
    case round =>
      obtain ⟨i, us, rfl, hi, hBr, hO⟩ := hrel
      have hw2 : IntKind.i64.wrap ((i : Int) + 1) = (i : Int) + 1 := by rw [IntKind.wrap_i64]; omega
      by_cases hlt : i < h.length
      · obtain ⟨x, hx⟩ : ∃ x, h[i]? = some x := ⟨_, List.getElem?_eq_getElem hlt⟩
        have hxd : h.getD i noE = x := by rw [List.getD_eq_getElem?_getD, hx]; rfl
        have hc : (i : Int) < (h.length : Int) := by omega
        have hi0 : (0 : Int) ≤ (i : Int) := by omega
        obtain ⟨b, off, a1, c1, a2, c2, rfl, hcell, hr1, _⟩ := hevs i x hx
        have hBw : Below w.heap.size w wr := hB2.trans (hBr.mono hsz2')
        have hnext : (List.range (i + 1)).filterMap (pairOper h ck) = (List.range i).filterMap (pairOper h ck) ++ (pairOper h ck i).toList := by
          rw [List.range_succ, List.filterMap_append]
          show _ ++ List.filterMap _ [i] = _
          cases hq : pairOper h ck i <;> simp [List.filterMap_cons, hq]
        have hcw := fun j u e => (hvis wr hBw) _ _ _ (hcell j u e)
        have k0 := hcw 0 _ rfl
        have k1 := hcw 1 _ rfl
        have k2 := hcw 2 _ rfl
        have k3 := hcw 3 _ rfl
        have k4 := hcw 4 _ rfl
        have k5 := hcw 5 _ rfl
        have k6 := hcw 6 _ rfl
        have k7 := hcw 7 _ rfl
        have k8 := hcw 8 _ rfl
        have k9 := hcw 9 _ rfl
        have k10 := hcw 10 _ rfl
        have k11 := hcw 11 _ rfl
        have k12 := hcw 12 _ rfl
        have k13 := hcw 13 _ rfl
        simp only [Nat.add_zero] at k0
        clear hcw hcell
        go_upto_region 8 with (fail)
        have hxb := World.alloc_heap_new wr (.cells (Go.WPall.evtV x a1 (Ev.args x).length c1 a2 (Ev.out x).length c2) 47)
        have hBa := hBr.alloc hBr.size (.cells (Go.WPall.evtV x a1 (Ev.args x).length c1 a2 (Ev.out x).length c2) 47)
        have hOa := hO.below ((Below.refl _ wr).alloc (Nat.le_refl _) (.cells (Go.WPall.evtV x a1 (Ev.args x).length c1 a2 (Ev.out x).length c2) 47))
        have hsa : (wr.alloc (.cells (Go.WPall.evtV x a1 (Ev.args x).length c1 a2 (Ev.out x).length c2) 47)).heap.size = wr.heap.size + 1 := by simp
        have hsr := hBr.size
        have hlow : ∀ k, u6.ownBlock = some k → k < wr.heap.size := fun k e => (hO.row.lt k e).2
        clear k0 k1 k2 k3 k4 k5 k6 k7 k8 k9 k10 k11 k12 k13 hO
        generalize wr.alloc (.cells (Go.WPall.evtV x a1 (Ev.args x).length c1 a2 (Ev.out x).length c2) 47) = wa at *
        have hka := hk.below hBa
        have q4 := cellAt (i := 4) hxb rfl
        by_cases ht : Ev.typ x = 1
        · have hpp : pairOper h ck i = bif (Ck.gone ck).any (· == (i : Int)) then none else bif decide ((Ck.ends ck).getD i 0 > 0) then some (operOf x i ((Ck.ends ck).getD i 0) (Ev.out (h.getD ((Ck.ends ck).getD i 0).toNat noE))) else some (operOf x i (-1) []) := by
            unfold pairOper
            dsimp only
            rw [hxd, show (Ev.typ x != 1) = false from by rw [ht]; rfl, Bool.false_or]
          have hgl : (Ck.gone ck).length ≤ 1000000 := by have := hIn.glen; omega
          have p3 := cellAt (i := 3) hka.row rfl
          have hhas := has_in hg (hvis wa (hB2.trans (hBa.mono hsz2'))) hVlo hka.g hgl (i : Int)
          cases hh : hasI (Ck.gone ck) (i : Int) with
          | true =>
            rw [hh] at hhas
            rw [show (Ck.gone ck).any (· == (i : Int)) = true from hh, cond_true] at hpp
            rw [hpp] at hnext
            go_wp2_with (go_at_call 22; refine hhas.mono ?_; rintro e W4 ⟨rfl, hb4⟩)
            exact ⟨⟨i + 1, us, by simp, by omega, hBa.trans (hb4.mono (by omega)), by rw [hnext]; simpa using hOa.below hb4⟩, by simp [intOf]; omega⟩
          | false =>
            rw [hh] at hhas
            rw [show (Ck.gone ck).any (· == (i : Int)) = false from hh, cond_false] at hpp
            go_upto_region 9 with (go_at_call 22; refine hhas.mono ?_; rintro e W4 ⟨rfl, hb4⟩)
            have hx4 := (hb4.block wr.heap.size (by omega)).trans hxb
            have hO4 := hOa.below hb4
            have hk4 := hka.below hb4
            have hB4 := hBa.trans (hb4.mono (by omega))
            have hs4 := hb4.size
            have hax := List.mem_of_getElem? hx
            have hc1 : ∀ W', Below W4.heap.size W4 W' → Calls Go.Proofs.Tryd.prog 23 #[.slice a1 (Ev.args x).length c1] W' fun e W'' => ∃ u', e = .returned u' ∧ Below W'.heap.size W' W'' ∧ NewAt W'' W'.heap.size none u' (Ev.args x) := fun W' hW' =>
              clone_new clone23 hg (hvis W' ((hB2.trans (hB4.mono hsz2')).trans (hW'.mono (by have := hB2.size; omega)))) hr1 (by have := (hal x hax).1; omega)
            clear hxb hOa hka hBa q4 p3 hhas
            have q1 := cellAt (i := 1) hx4 rfl
            have q2 := cellAt (i := 2) hx4 rfl
            have q3 := cellAt (i := 3) hx4 rfl
            have q5 := cellAt (i := 5) hx4 rfl
            have q6 := cellAt (i := 6) hx4 rfl
            have q7 := cellAt (i := 7) hx4 rfl
            have q8 := cellAt (i := 8) hx4 rfl
            have q9 := cellAt (i := 9) hx4 rfl
            have q10 := cellAt (i := 10) hx4 rfl
            have hwl : wr.heap.size < W4.heap.size := by omega
            have hwne : wr.heap.size ≠ W4.heap.size := by omega
            have hx4d : W4.drew.heap[wr.heap.size]? = some (.cells (Go.WPall.evtV x a1 (Ev.args x).length c1 a2 (Ev.out x).length c2) 47 (0, 0)) := hx4
            refine wp_join3R (α := Option Addr) (β := Nat) (γ := Nat) ?A (fun w' r1 s1 b9 => w'.heap[b9]? = some (.cells (oprV (operOf x i (-1) []) (.slice r1 (Ev.args x).length s1) (.slice none 0 0)) 41 (0, 0)) ∧ Below W4.heap.size W4 w' ∧ W4.heap.size ≤ b9 ∧ NewAt w' W4.heap.size (some b9) (.slice r1 (Ev.args x).length s1) (Ev.args x)) ?reg ?cont
            case reg =>
              intro Q hQ
              go_region_held3 (fun w' => w'.cell? ⟨wr.heap.size, 1, none⟩ = some (.int .i64 (Ev.cli x).1) ∧ w'.cell? ⟨wr.heap.size, 2, none⟩ = some (.int .i64 (Ev.cli x).2.1) ∧ w'.cell? ⟨wr.heap.size, 3, none⟩ = some (.string (Ev.cli x).2.2.1) ∧ w'.cell? ⟨wr.heap.size, 5, none⟩ = some (.int .i64 (Ev.mod x)) ∧ w'.cell? ⟨wr.heap.size, 6, none⟩ = some (.int .i64 (Ev.key x).1) ∧ w'.cell? ⟨wr.heap.size, 7, none⟩ = some (.int .i64 (Ev.key x).2.1) ∧ w'.cell? ⟨wr.heap.size, 8, none⟩ = some (.string (Ev.key x).2.2.1) ∧ w'.cell? ⟨wr.heap.size, 9, none⟩ = some (.int .i64 (Ev.op x)) ∧ w'.cell? ⟨wr.heap.size, 10, none⟩ = some (.slice a1 (Ev.args x).length c1))
                (first
                  | with_reducible exact nine hx4d
                  | with_reducible exact nine e5
                  | with_reducible exact nine (keep_set12 e5 hwne)
                  | with_reducible exact nine ((Below.heap_alloc W5 _ _ (lt_of_heap e5)).trans e5)
                  | with_reducible exact nine (in_drew ((Below.heap_alloc W4 _ _ hwl).trans hx4)))
                (first
                  | (go_at_call 23; refine (hc1 _ (Below.refl _ W4).drew).mono ?_; rintro e W5 ⟨u', rfl, hb5, hn5⟩; obtain ⟨r1, s1, rfl, _⟩ := id hn5; have e5 := (hb5.block wr.heap.size hwl).trans hx4; have hB5 := (Below.refl _ W4).drew.trans hb5)
                  | (go_at_call 23; refine (hc1 _ (((Below.refl _ W4).alloc (Nat.le_refl _) _).drew)).mono ?_; rintro e W5 ⟨u', rfl, hb5, hn5⟩; obtain ⟨r1, s1, rfl, _⟩ := id hn5; have e5 := (hb5.block wr.heap.size (lt_of_heap (in_drew ((Below.heap_alloc W4 _ _ hwl).trans hx4)))).trans (in_drew ((Below.heap_alloc W4 _ _ hwl).trans hx4)); have hB5 := (((Below.refl _ W4).alloc (Nat.le_refl _) _).drew).trans (hb5.mono (Nat.le_of_lt (lt_of_heap (in_drew (World.alloc_heap_new W4 _))))); have e9 := (hb5.block W4.heap.size (lt_of_heap (in_drew (World.alloc_heap_new W4 _)))).trans (in_drew (World.alloc_heap_new W4 _)); have z0 := cellAt (i := 0) e9 rfl; have fz0 := frozAt (i := 0) e9; have z1 := cellAt (i := 1) e9 rfl; have fz1 := frozAt (i := 1) e9; have z2 := cellAt (i := 2) e9 rfl; have fz2 := frozAt (i := 2) e9; have z3 := cellAt (i := 3) e9 rfl; have fz3 := frozAt (i := 3) e9; have z4 := cellAt (i := 4) e9 rfl; have fz4 := frozAt (i := 4) e9; have z5 := cellAt (i := 5) e9 rfl; have fz5 := frozAt (i := 5) e9; have z6 := cellAt (i := 6) e9 rfl; have fz6 := frozAt (i := 6) e9; have z7 := cellAt (i := 7) e9 rfl; have fz7 := frozAt (i := 7) e9; have z8 := cellAt (i := 8) e9 rfl; have fz8 := frozAt (i := 8) e9; have z9 := cellAt (i := 9) e9 rfl; have fz9 := frozAt (i := 9) e9; have z10 := cellAt (i := 10) e9 rfl; have fz10 := frozAt (i := 10) e9; have z11 := cellAt (i := 11) e9 rfl; have fz11 := frozAt (i := 11) e9))
              · obtain ⟨b9, hb9⟩ : ∃ b, b = W5.heap.size := ⟨_, rfl⟩
                rw [← hb9]
                refine hQ _ r1 s1 b9 ⟨by rw [hb9]; exact World.alloc_heap_new W5 _, hB5.alloc hB5.size _, by rw [hb9]; exact hB5.size, ?_⟩
                exact ((hn5.near (Nat.le_of_eq hb9.symm)).below ((Below.refl _ W5).alloc (Nat.le_refl _) _)).mono (Nat.le_refl _)
              · refine hQ _ r1 s1 W4.heap.size ⟨row_set12 e9, below_set12 hB5 (Nat.le_refl _), Nat.le_refl _, ?_⟩
                exact ((new_set12 hn5 (lt_of_heap (in_drew (World.alloc_heap_new W4 _)))).far (fun k e => by cases e; exact lt_of_heap (in_drew (World.alloc_heap_new W4 _)))).mono (Nat.le_of_lt (lt_of_heap (in_drew (World.alloc_heap_new W4 _))))
            case cont =>
              rintro w' r1 s1 b9 ⟨hrow, hb', hge, hn⟩
              have hkw := hk4.below hb'
              have hOw := hO4.below hb'
              have hBw' := hB4.trans (hb'.mono (by omega))
              have hel : i < (Ck.ends ck).length := by rw [hIn.elen]; exact hlt
              have p4 := cellAt (i := 4) hkw.row rfl
              have ce : w'.cell? ⟨eb, i, none⟩ = some (.int .i64 ((Ck.ends ck).getD i 0)) := cellAt (i := i) hkw.e (by rw [List.getD_eq_getElem?_getD]; simp [hel])
              have hci : (i : Int) < ((Ck.ends ck).length : Int) := by omega
              generalize hed : (Ck.ends ck).getD i 0 = ed at *
              have hLl : ((List.range i).filterMap (pairOper h ck)).length ≤ i := by
                have := List.length_filterMap_le (pairOper h ck) (List.range i)
                rwa [List.length_range] at this
              generalize hLi : (List.range i).filterMap (pairOper h ck) = L at *
              have hlow4 : ∀ k, u6.ownBlock = some k → k < W4.heap.size := fun k e => by have := hlow k e; omega
              have hm1 := (new_swap hn hlow4).mono (n0 := W2.heap.size) (by have := hB4.size; omega)
              rcases hIn.ends i hlt with ⟨e0, _⟩ | ⟨j, hj, e0, _, hjl⟩
              · have : ed = 0 := hed.symm.trans e0
                subst this
                rw [decide_eq_false (by omega : ¬ ((0 : Int) > 0)), cond_false] at hpp
                have q0 := cellAt (i := 0) hrow rfl
                have q1 := cellAt (i := 1) hrow rfl
                have q2 := cellAt (i := 2) hrow rfl
                have q3 := cellAt (i := 3) hrow rfl
                have q4 := cellAt (i := 4) hrow rfl
                have q5 := cellAt (i := 5) hrow rfl
                have q6 := cellAt (i := 6) hrow rfl
                have q7 := cellAt (i := 7) hrow rfl
                have q8 := cellAt (i := 8) hrow rfl
                have q9 := cellAt (i := 9) hrow rfl
                have q10 := cellAt (i := 10) hrow rfl
                have q11 := cellAt (i := 11) hrow rfl
                have hsb := hBw'.size
                go_wp2_with (at_builtin; (refine wpList_append_lies _ rfl _ _ 32 rfl W2.heap.size 41 i0 z0 12 144 Go.Proofs.Tryd.underlying32 hti htz hts htb htc (by decide) u6 L.length (rowsC L us) rfl (hOw.row.alloc _) ⟨w'.heap.size, 0, none⟩ 1 1 (oprC (operOf x i (-1) []) (.slice r1 (Ev.args x).length s1) (.slice none 0 0)) rfl rfl (cells_new _ _ _ _ rfl) (by simp [Value.oneCell']) (by decide) (by unfold maxLen; omega) (by omega) (by simp; omega) _ rfl ?_); intro g cap W9 hown hgrow hat hlt9)
                have hpush := OutAt.push (o := (operOf x i (-1) [])) (hOw.below ((Below.refl _ w').alloc (Nat.le_refl _) (.cells (oprV (operOf x i (-1) []) (.slice r1 (Ev.args x).length s1) (.slice none 0 0)) 41))) rfl hown hgrow (by
                  rcases hat with h | h
                  · exact .inl h.symm
                  · exact .inr (by rw [h]; rfl)) (hm1.below ((Below.refl _ w').alloc (Nat.le_refl _) _)) ((new_nil w' W2.heap.size u6.ownBlock).below ((Below.refl _ w').alloc (Nat.le_refl _) _))
                exact ⟨⟨i + 1, _, by simp, by omega, (hBw'.alloc hBw'.size _).grown hgrow (by have := hBw'.size; simp; omega) (fun k e => (hOw.row.lt k e).1), by rw [hnext, hpp]; exact hpush⟩, by simp [intOf]; omega⟩
              · have : ed = (j : Int) := hed.symm.trans e0
                subst this
                have hij := ((lastN_iff h _ j i).1 hjl).1
                obtain ⟨y, hy⟩ : ∃ y, h[j]? = some y := ⟨_, List.getElem?_eq_getElem hj⟩
                have hyd : h.getD j noE = y := by rw [List.getD_eq_getElem?_getD, hy]; rfl
                rw [decide_eq_true (by omega : ((j : Int) > 0)), cond_true, Int.toNat_natCast, hyd] at hpp
                obtain ⟨b', off', a1', c1', a2', c2', e3, hcellj, _, hr2⟩ := hevs j y hy
                obtain ⟨rfl, rfl⟩ : b = b' ∧ off = off' := by cases e3; exact ⟨rfl, rfl⟩
                have hWw : Below w.heap.size w w' := hB2.trans (hBw'.mono hsz2')
                have k11 := (hvis w' hWw) _ _ _ (hcellj 11 _ rfl)
                clear hcellj
                have hcj : (j : Int) < (h.length : Int) := by omega
                have hj0 : (0 : Int) ≤ (j : Int) := by omega
                have hjp : (0 : Int) < (j : Int) := by omega
                have hc2 := clone_new clone23 hg (hvis w' hWw) hr2 (by have := (hal y (List.mem_of_getElem? hy)).2; omega)
                go_upto_region 13 with (go_at_call 23; refine hc2.mono ?_; rintro e W6 ⟨u', rfl, hb6, hn6⟩; obtain ⟨r2, s2, rfl, _⟩ := id hn6; have row6 := (hb6.block b9 (lt_of_heap hrow)).trans hrow; have z9 := cellAt (i := 9) row6 rfl; have z11 := cellAt (i := 11) row6 rfl; have fz9 := frozAt (i := 9) row6; have fz11 := frozAt (i := 11) row6)
                have rowc := set_same (i := 9) (v := .slice r2 (Ev.out y).length s2) (set_same (i := 11) (v := .int .i64 (j : Int)) row6)
                have hBc := below_set (m := 9) (v := .slice r2 (Ev.out y).length s2) (below_set (m := 11) (v := .int .i64 (j : Int)) (hBw'.trans (hb6.mono hBw'.size)) (show W2.heap.size ≤ b9 by have := hB4.size; omega)) (show W2.heap.size ≤ b9 by have := hB4.size; omega)
                have hu9 : ∀ k, u6.ownBlock = some k → k ≠ b9 := fun k e => by have := hlow4 k e; omega
                have hOc := hO4.below (below_set (m := 9) (v := .slice r2 (Ev.out y).length s2) (below_set (m := 11) (v := .int .i64 (j : Int)) (hb'.trans (hb6.mono hb'.size)) hge) hge)
                have hn1c := (new_own (m := 9) (v := .slice r2 (Ev.out y).length s2) (new_own (m := 11) (v := .int .i64 (j : Int)) (hn.below hb6)))
                have hm1c := (new_swap hn1c hlow4).mono (n0 := W2.heap.size) (by have := hB4.size; omega)
                have hn2c := (new_set (m := 9) (v := .slice r2 (Ev.out y).length s2) (new_set (m := 11) (v := .int .i64 (j : Int)) hn6 (lt_of_heap hrow)) (lt_of_heap hrow))
                have hm2c := (new_swap hn2c (fun k e => by have := hlow4 k e; have := hb'.size; omega)).mono (n0 := W2.heap.size) hBw'.size
                have rowc' : ((W6.setCell ⟨b9, 11, none⟩ (.int .i64 (j : Int))).setCell ⟨b9, 9, none⟩ (.slice r2 (Ev.out y).length s2)).heap[b9]? = some (.cells (oprV (operOf x i j (Ev.out y)) (.slice r1 (Ev.args x).length s1) (.slice r2 (Ev.out y).length s2)) 41 (0, 0)) := rowc
                clear rowc z9 z11 fz9 fz11
                generalize (W6.setCell ⟨b9, 11, none⟩ (.int .i64 (j : Int))).setCell ⟨b9, 9, none⟩ (.slice r2 (Ev.out y).length s2) = Wc at *
                have hsb := hBc.size
                have q0 := cellAt (i := 0) rowc' rfl
                have q1 := cellAt (i := 1) rowc' rfl
                have q2 := cellAt (i := 2) rowc' rfl
                have q3 := cellAt (i := 3) rowc' rfl
                have q4 := cellAt (i := 4) rowc' rfl
                have q5 := cellAt (i := 5) rowc' rfl
                have q6 := cellAt (i := 6) rowc' rfl
                have q7 := cellAt (i := 7) rowc' rfl
                have q8 := cellAt (i := 8) rowc' rfl
                have q9 := cellAt (i := 9) rowc' rfl
                have q10 := cellAt (i := 10) rowc' rfl
                have q11 := cellAt (i := 11) rowc' rfl
                go_wp2_with (at_builtin; (refine wpList_append_lies _ rfl _ _ 32 rfl W2.heap.size 41 i0 z0 12 144 Go.Proofs.Tryd.underlying32 hti htz hts htb htc (by decide) u6 L.length (rowsC L us) rfl (hOc.row.alloc _) ⟨Wc.heap.size, 0, none⟩ 1 1 (oprC (operOf x i j (Ev.out y)) (.slice r1 (Ev.args x).length s1) (.slice r2 (Ev.out y).length s2)) rfl rfl (cells_new _ _ _ _ rfl) (by simp [Value.oneCell']) (by decide) (by unfold maxLen; omega) (by omega) (by simp; omega) _ rfl ?_); intro g cap W9 hown hgrow hat hlt9)
                have hpush := OutAt.push (o := (operOf x i j (Ev.out y))) (hOc.below ((Below.refl _ Wc).alloc (Nat.le_refl _) (.cells (oprV (operOf x i j (Ev.out y)) (.slice r1 (Ev.args x).length s1) (.slice r2 (Ev.out y).length s2)) 41))) rfl hown hgrow (by
                  rcases hat with h | h
                  · exact .inl h.symm
                  · exact .inr (by rw [h]; rfl)) (hm1c.below ((Below.refl _ Wc).alloc (Nat.le_refl _) _)) (hm2c.below ((Below.refl _ Wc).alloc (Nat.le_refl _) _))
                exact ⟨⟨i + 1, _, by simp, by omega, (hBc.alloc hBc.size _).grown hgrow (by have := hBc.size; simp; omega) (fun k e => (hOc.row.lt k e).1), by rw [hnext, hpp]; exact hpush⟩, by simp [intOf]; omega⟩
        · have hty : (Ev.typ x == 1) = false := beq_eq_false_iff_ne.2 ht
          have hpp : pairOper h ck i = none := by
            unfold pairOper
            dsimp only
            rw [hxd, show (Ev.typ x != 1) = true from bne_iff_ne.2 ht]; rfl
          rw [hpp] at hnext
          go_wp2
          exact ⟨⟨i + 1, us, by simp, by omega, hBa, by rw [hnext]; simpa using hOa⟩, by simp [intOf]; omega⟩
      · have hc : ¬ ((i : Int) < (h.length : Int)) := by omega
        obtain rfl : i = h.length := by omega
        have hp3 := (hBr.block w.heap.size (by omega)).trans hp2
        have hq3 := (hBr.block W1.heap.size (by omega)).trans hq2
        have x0 := cellAt (i := 0) hq3 rfl
        have x1 := cellAt (i := 1) hq3 rfl
        have y0 := cellAt (i := 0) hp3 rfl
        have y1 := cellAt (i := 1) hp3 rfl
        have g0 := frozAt (i := 0) hp3
        have g1 := frozAt (i := 1) hp3
        obtain ⟨a6, c6, rfl⟩ := row_slice hO.row
        go_wp2
        go_region
        go_wp2
        have hl0 : w.heap.size < W2.heap.size := by omega
        have t0 : (((wr.setCell ⟨w.heap.size, 0, none⟩ (.int .i64 0)).setCell ⟨w.heap.size, 1, none⟩ (.int .i64 line)).drew).cell? ⟨w.heap.size, 0, none⟩ = some (.int .i64 0) := cellAt (W := (wr.setCell ⟨w.heap.size, 0, none⟩ (.int .i64 0)).setCell ⟨w.heap.size, 1, none⟩ (.int .i64 line)) (i := 0) (set_same (i := 1) (v := .int .i64 line) (set_same (i := 0) (v := .int .i64 0) hp3)) rfl
        have t1 : (((wr.setCell ⟨w.heap.size, 0, none⟩ (.int .i64 0)).setCell ⟨w.heap.size, 1, none⟩ (.int .i64 line)).drew).cell? ⟨w.heap.size, 1, none⟩ = some (.int .i64 line) := cellAt (W := (wr.setCell ⟨w.heap.size, 0, none⟩ (.int .i64 0)).setCell ⟨w.heap.size, 1, none⟩ (.int .i64 line)) (i := 1) (set_same (i := 1) (v := .int .i64 line) (set_same (i := 0) (v := .int .i64 0) hp3)) rfl
        refine bodyPost_ret (v := .tuple #[.slice a6 ((List.range h.length).filterMap (pairOper h ck)).length c6, .agg #[.int .i64 0, .int .i64 line]]) (by simp [results, Go.Proofs.Tryd.results12, go_sem, t0, t1]) rfl ?_
        refine ⟨_, us, W2.heap.size, by rw [hcode, hline], ((((hB2.trans (hBr.mono hsz2')).setCell (p := ⟨w.heap.size, 0, none⟩) (Nat.le_refl _) _).setCell (p := ⟨w.heap.size, 1, none⟩) (Nat.le_refl _) _).drew), hsz2', ?_, ?_⟩
        · show W2.heap.size ≤ ((wr.setCell ⟨w.heap.size, 0, none⟩ (.int .i64 0)).setCell ⟨w.heap.size, 1, none⟩ (.int .i64 line)).heap.size
          have := hBr.size
          simp; omega
        · rw [hop]
          exact OutAt_drew (OutAt_setLow (OutAt_setLow hO hl0 0 _) hl0 1 _)
  · go_wp2
    go_region
    go_wp2
    have t0 : (((W2.setCell ⟨w.heap.size, 0, none⟩ (.int .i64 code)).setCell ⟨w.heap.size, 1, none⟩ (.int .i64 line)).drew).cell? ⟨w.heap.size, 0, none⟩ = some (.int .i64 code) := cellAt (W := (W2.setCell ⟨w.heap.size, 0, none⟩ (.int .i64 code)).setCell ⟨w.heap.size, 1, none⟩ (.int .i64 line)) (i := 0) (set_same (i := 1) (v := .int .i64 line) (set_same (i := 0) (v := .int .i64 code) hp2)) rfl
    have t1 : (((W2.setCell ⟨w.heap.size, 0, none⟩ (.int .i64 code)).setCell ⟨w.heap.size, 1, none⟩ (.int .i64 line)).drew).cell? ⟨w.heap.size, 1, none⟩ = some (.int .i64 line) := cellAt (W := (W2.setCell ⟨w.heap.size, 0, none⟩ (.int .i64 code)).setCell ⟨w.heap.size, 1, none⟩ (.int .i64 line)) (i := 1) (set_same (i := 1) (v := .int .i64 line) (set_same (i := 0) (v := .int .i64 code) hp2)) rfl
    refine bodyPost_ret (v := .tuple #[.slice none 0 0, .agg #[.int .i64 code, .int .i64 line]]) (by simp [results, Go.Proofs.Tryd.results12, go_sem, t0, t1]) rfl ?_
    refine ⟨.slice none 0 0, [], w.heap.size, by rw [hcode, hline], ((hB2.setCell (p := ⟨w.heap.size, 0, none⟩) (Nat.le_refl _) _).setCell (p := ⟨w.heap.size, 1, none⟩) (Nat.le_refl _) _).drew, Nat.le_refl _, ?_, ?_⟩
    · show w.heap.size ≤ ((W2.setCell ⟨w.heap.size, 0, none⟩ (.int .i64 code)).setCell ⟨w.heap.size, 1, none⟩ (.int .i64 line)).heap.size
      have := hB2.size
      simp; omega
    · have : (pairOpers h).1 = [] := by
        unfold pairOpers
        rw [hcode, show (code != 0) = true from bne_iff_ne.2 hz]; rfl
      rw [this]; exact OutAt.nil _ _ _
end Go.K12
