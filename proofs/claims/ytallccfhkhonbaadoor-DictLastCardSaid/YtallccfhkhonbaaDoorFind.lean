/- Contracts of functions that look through a list of pairs. Own text of this session. -/
import Derived.Test.YtallccfhkhonbaaDoorDict
import Derived.Test.YtallccfhkhonbaaDoorAbs25
set_option linter.unusedVariables false
set_option linter.unusedSimpArgs false
namespace Go.Abs
open Go Go.RowKit Go.Inc

section
variable {P : Program} {gl : List (Nat × AVal)} {V0 : Vis} {w0 : Base} {nt : Nat} {x : Ctx} {ρ : St} {a : Act} {w : World}

@[reducible] def shV : Sh := .pr (.i .i64) (.pr (.i .i64) (.pr .st .un))
def XFind : XSpec := { hin := [(0, (.os 1000)), (2, shV), (2001, (.ar VT))], hout := [(0, (.i .i64)), (2, .bo), (2001, (.ar VT))], np := 2, nr := 2, multi := true, pins := [1000], pre := fun x => okFind x.1 x.2.2.1, val := fun x => findX x.2.1 x.2.2.1 }
def XScan : XSpec := { hin := [(0, (.os 1000)), (2, shV), (4, shV), (2001, (.ar VT))], hout := [(0, (.sl VT .no)), (2001, (.ar VT))], np := 3, nr := 1, multi := false, pins := [1000], pre := fun x => okFind x.1 x.2.2.2.1, val := fun x => scanX x.2.1 x.2.2.1 x.2.2.2.1 }

theorem val_cs {V : Vis} {d : Val} {cs : List Value} (h : RepT V VT d cs) : cs = [.int .i64 d.1, .int .i64 d.2.1, .string d.2.2.1] := by
  obtain ⟨c1, c2, rfl, h1, c3, c4, rfl, h2, c5, c6, rfl, h3, h4⟩ := h
  cases h1; cases h2; cases h3; cases h4; rfl
theorem val_of {d : Val} {v : Value} (h : RepV x (encS shV d) v) : v = aggV d := by
  obtain ⟨cs, rfl, c1, c2, rfl, h1, c3, c4, rfl, h2, c5, c6, rfl, h3, h4⟩ := h
  cases h1; cases h2; cases h3; cases h4; rfl
theorem rows_at {V : Vis} : ∀ {xs : List Val} {es : List Value}, RepArr (RepT V VT) xs es → ∀ i y, xs[i]? = some y → es[i * 3]? = some (.int .i64 y.1) ∧ es[i * 3 + 1]? = some (.int .i64 y.2.1) ∧ es[i * 3 + 2]? = some (.string y.2.2.1)
  | [], _, _, i, y, e => by simp at e
  | z :: xs, _, ⟨c1, c2, rfl, h1, h2⟩, 0, y, e => by
    rw [val_cs h1]
    simp only [List.getElem?_cons_zero, Option.some.injEq] at e
    subst e
    exact ⟨rfl, rfl, rfl⟩
  | z :: xs, _, ⟨c1, c2, rfl, h1, h2⟩, i + 1, y, e => by
    rw [val_cs h1]
    have := rows_at h2 i y (by simpa using e)
    rw [show (i + 1) * 3 = i * 3 + 3 by omega, show i * 3 + 3 + 1 = i * 3 + 1 + 3 by omega, show i * 3 + 3 + 2 = i * 3 + 2 + 3 by omega]
    exact this
theorem rows_of {V : Vis} : ∀ xs : List Val, RepArr (RepT V VT) xs (cellsV xs)
  | [] => rfl
  | z :: xs => ⟨_, _, rfl, ⟨[.int .i64 z.1], _, rfl, rfl, [.int .i64 z.2.1], _, rfl, rfl, [.string z.2.2.1], [], rfl, rfl, rfl⟩, rows_of xs⟩

theorem R.sl {k : Nat} {xs : List Val} {va : Value} (h : R gl V0 w0 nt x ρ a w) (hk : get ρ (br k) = some (.ar VT xs)) (hv : RepV x (.os k xs.length) va) :
    ∃ ad c, va = .slice ad xs.length c ∧ SlAt w.heap.size w (.slice ad xs.length c) xs := by
  obtain ⟨bl, sz, ad, hsg, hva, hle, had⟩ := hv
  have hva : va = .slice ad xs.length sz.2 := by simpa using hva
  refine ⟨ad, sz.2, hva, ad, sz.2, rfl, fun i y hy => ?_⟩
  have hz : sz.2 ≠ 0 := fun e => by
    have : xs.length = 0 := by omega
    rw [List.eq_nil_of_length_eq_zero this] at hy
    simp at hy
  obtain ⟨cur, E, hb1, ⟨c1, c2, hb2, hb3, hb4⟩, hb5⟩ := h.good.at hk hsg hz
  obtain ⟨s1, s2, s3⟩ := h.good.sgs k bl sz hsg hz
  obtain ⟨q1, q2, q3⟩ := rows_at hb3 i y hy
  have hc : ∀ j v, c1[j]? = some v → w.cell? ⟨bl, 0 + j, none⟩ = some v := fun j v e => by
    rw [Nat.zero_add, cell_of_row w bl j cur E (0, 0) hb1, ← Array.getElem?_toList, hb2]
    exact getElem?_append_some e
  exact ⟨bl, 0, had hz, s2, hc _ _ q1, hc _ _ q2, hc _ _ q3⟩

/-- Behind a call that has turned nothing. -/
theorem R.calm {w' : World} (h : R gl V0 w0 nt x ρ a w) (hw : Below w.heap.size w w') : R gl V0 w0 nt x ρ a w' :=
  h.ext (V' := x.V) hw (h.good.vis.below hw) (VLe.refl _) (fun _ _ _ => rfl)

theorem xok_find {f : Nat} (hF : ∀ (xs : List Val) (key : Val) (ad : Option Addr) (c : Nat) (w : World) (V : Vis), xs.length ≤ 1000 → SlAt w.heap.size w (.slice ad xs.length c) xs → GlobOk gl V → VisOk V w →
      Calls P f #[.slice ad xs.length c, aggV key] w fun e w' => e = .returned (.tuple #[.int .i64 (findK key xs.length (kpairs 0 xs)).1, .bool (findK key xs.length (kpairs 0 xs)).2]) ∧ Below w.heap.size w w') : XOK P gl f XFind := by
  intro V w D pin x v vs hpre hlen hpin hR
  obtain ⟨n, d, xs, ⟨⟩⟩ := v
  simp only [XFind, okFind, Bool.and_eq_true, decide_eq_true_eq] at hpre
  obtain ⟨hn, hbig⟩ := hpre
  subst hn
  match vs, hlen, hR with
  | [va, vk], _, hR =>
  have h0 : RepV x (.os 1000 (List.length xs)) va := hR.slots 0 _ rfl
  have h1 : RepV x (encS shV d) vk := hR.slots 1 _ rfl
  have h1' := val_of h1
  subst h1'
  have hk : get (encH XFind.hin (List.length xs, d, xs, ())) (br 1000) = some (.ar VT xs) := rfl
  obtain ⟨ad, c, rfl, hsl⟩ := hR.sl hk h0
  have hgok := hR.good.gok
  refine (hF xs d ad c w x.V hbig hsl (fun g A e => by
    obtain ⟨t, d, es, e1, e2, e3⟩ := hgok g A e
    exact ⟨t, d, es, e1, e2.mono hR.good.grow, e3.mono hR.good.grow⟩) hR.good.vis).mono ?_
  rintro e w' ⟨rfl, hw⟩
  have hR' := hR.calm hw
  have hren := hR'.ren (m := [(1000, 1000)]) (V1 := V) (B := ⟨w, D, pin⟩) (ch := .pr (.i .i64 ((findL d xs).1 : Int)) (.pr (.b (findL d xs).2) .un)) (vs := [.int .i64 ((findL d xs).1 : Int), .bool (findL d xs).2]) (bs := [(br 1000, .ar VT xs)]) rfl rfl
    ⟨_, _, rfl, rfl, _, _, rfl, rfl, rfl⟩ hR'.good.grow hR'.good.old (fun j k bl sz hm hs hz => (hR'.good.sgs j bl sz hs hz).1) hR'.good.bel hR'.good.gok
    (fun k p e => by
      have := hpin k p e
      simp only [XFind, List.mem_singleton] at this
      subst this
      exact (renC_sg (m := [(1000, 1000)]) rfl rfl).trans (hR'.good.pin _ _ e))
    (fun k p e => by
      have := hpin k p e
      simp only [XFind, List.mem_singleton] at this
      subst this; exact (show (2 : Nat) ≤ 1000 by omega))
  exact ⟨_, _, rfl, rfl, hren⟩

theorem xok_scan {f : Nat} (hF : ∀ (xs : List Val) (fr to : Val) (ad : Option Addr) (c : Nat) (w : World) (V : Vis), xs.length ≤ 1000 → SlAt w.heap.size w (.slice ad xs.length c) xs → GlobOk gl V → VisOk V w →
      Calls P f #[.slice ad xs.length c, aggV fr, aggV to] w fun e w' => ∃ v, e = .returned v ∧ Below w.heap.size w w' ∧
        ∃ base t, w.heap.size ≤ base ∧ w'.ownsRow base t 3 v (scanL fr to xs).length (cellsV (scanL fr to xs))) : XOK P gl f XScan := by
  intro V w D pin x v vs hpre hlen hpin hR
  obtain ⟨n, d, u, xs, ⟨⟩⟩ := v
  simp only [XScan, okFind, Bool.and_eq_true, decide_eq_true_eq] at hpre
  obtain ⟨hn, hbig⟩ := hpre
  subst hn
  match vs, hlen, hR with
  | [va, vk, vl], _, hR =>
  have h0 : RepV x (.os 1000 (List.length xs)) va := hR.slots 0 _ rfl
  have h1 : RepV x (encS shV d) vk := hR.slots 1 _ rfl
  have h2 : RepV x (encS shV u) vl := hR.slots 2 _ rfl
  have h1' := val_of h1
  have h2' := val_of h2
  subst h1' h2'
  have hk : get (encH XScan.hin (List.length xs, d, u, xs, ())) (br 1000) = some (.ar VT xs) := rfl
  obtain ⟨ad, c, rfl, hsl⟩ := hR.sl hk h0
  have hgok := hR.good.gok
  refine (hF xs d u ad c w x.V hbig hsl (fun g A e => by
    obtain ⟨t, d, es, e1, e2, e3⟩ := hgok g A e
    exact ⟨t, d, es, e1, e2.mono hR.good.grow, e3.mono hR.good.grow⟩) hR.good.vis).mono ?_
  rintro e w' ⟨v, rfl, hw, base, t, hbase, hrow⟩
  have hR' := hR.calm hw
  have last : ∀ x' : Ctx, R gl V ⟨w, D, pin⟩ [Value.slice ad (List.length xs) c, aggV d, aggV u].length x' (encH XScan.hin (List.length xs, d, u, xs, ())) { tmps := [Value.slice ad (List.length xs) c, aggV d, aggV u].toArray, defers := [] } w' →
      RepV x' (.sl VT (scanL d u xs) .no) v → ∃ x' rs, Ending.returned v = .returned (retV rs) ∧ rs.length = XScan.nr ∧ R gl V ⟨w, D, pin⟩ rs.length x' (encH XScan.hout (XScan.val (List.length xs, d, u, xs, ()))) { tmps := rs.toArray, defers := [] } w' := fun x' hR' hv => by
    have hren := hR'.ren (m := [(1000, 1000)]) (V1 := V) (B := ⟨w, D, pin⟩) (ch := .pr (.sl VT (scanL d u xs) .no) .un) (vs := [v]) (bs := [(br 1000, .ar VT xs)]) rfl rfl
      ⟨_, _, rfl, hv, rfl⟩ hR'.good.grow hR'.good.old (fun j k bl sz hm hs hz => (hR'.good.sgs j bl sz hs hz).1) hR'.good.bel hR'.good.gok
      (fun k p e => by
        have := hpin k p e
        simp only [XScan, List.mem_singleton] at this
        subst this
        exact (renC_sg (m := [(1000, 1000)]) rfl rfl).trans (hR'.good.pin _ _ e))
      (fun k p e => by
        have := hpin k p e
        simp only [XScan, List.mem_singleton] at this
        subst this; exact (show (1 : Nat) ≤ 1000 by omega))
    exact ⟨_, [v], rfl, rfl, hren⟩
  obtain ⟨hl, (⟨rfl, h0⟩ | ⟨g, cap, cur, rfl, hg, hgb, hle, _, hsz, htk⟩)⟩ := hrow
  · refine last x hR' ⟨⟨none, 0, [], ?_, ?_, ?_, fun j v e => by simp at e⟩, fun v _ => trivial⟩
    · rw [show (scanL d u xs).length = 0 from h0]
    · rw [show (scanL d u xs).length = 0 from h0]; exact Nat.le_refl _
    · rw [List.eq_nil_of_length_eq_zero h0]; rfl
  · have hgw : w.heap.size ≤ g := Nat.le_trans hbase hg
    have hsee := hR'.see (bl := g) (cs := cur) (E := t) hgb (.inl hgw) (fun o => vis_new hR.good.vis hgw o) (fun k sz e => by
      apply Classical.byContradiction
      intro hz
      have := (hR.good.sgs k g sz e hz).2.1
      omega) (fun q n' c' s e => by
      apply Classical.byContradiction
      intro hnc
      obtain ⟨ad', n'', c'', e1, _, e2⟩ := hR.good.tag q _ _ e
      cases e1
      obtain ⟨b, cur', E2, a1, _, a3, _⟩ := e2.resolve_left hnc
      cases a1
      have := (Array.getElem?_eq_some_iff.1 a3).1
      omega)
    refine last _ hsee ⟨⟨some ⟨g, 0, none⟩, cap, cellsV (scanL d u xs), rfl, hle, rows_of _, fun j v e => ⟨g, 0, rfl, ?_⟩⟩, fun v _ => trivial⟩
    show (if _ then _ else _) = _
    rw [if_pos rfl, Nat.zero_add, ← Array.getElem?_toList]
    rw [← htk] at e
    rw [List.getElem?_take] at e
    split at e
    · exact e
    · cases e
end
end Go.Abs
