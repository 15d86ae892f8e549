/- Own text of this session: pair.Opers and the statement, walked by hand. -/
import Derived.Test.YtkkkjcpfahhhpaaDoorH
import Derived.Test.YtkkkjcpfahhhpaaDoorSized
import Derived.Deep.RegionLaw

set_option linter.unusedVariables false
set_option linter.unusedSimpArgs false
namespace Go.K12
open Go Go.RowKit Go.Shelf Go.Abs Go.Inc Go.WKeep

/-- What a text or a list may hold at most. -/
abbrev RB : Nat := 140737488351232
def okVR (v : Val) : Bool := decide (v.2.2.1.size ≤ RB)
def okER (e : Evt) : Bool := (okVR (Ev.cli e) && (okVR (Ev.key e) && decide ((Ev.note e).size ≤ RB))) && ((Ev.args e).all okVR && (Ev.out e).all okVR)
def okKeeps (h : List Evt) : Bool := Inc.okH h && h.all okER
theorem addW_wide : ∀ {l : List Val} {t : Int}, (∀ v ∈ l, v.2.2.1.size ≤ RB) → 0 ≤ t → t ≤ 4 * 140737488351232 → 0 ≤ addW t l ∧ addW t l ≤ 4 * 140737488351232 ∧ (addW t l ≤ 2000 → t + (l.length : Int) ≤ 2000)
  | [], t, _, h0, h1 => ⟨h0, h1, fun h => by have : t ≤ 2000 := h; simp; omega⟩
  | v :: l, t, hl, h0, h1 => by
    rw [addW]
    by_cases ht : t ≤ 2000
    · have hv : v.2.2.1.size ≤ 140737488351232 := hl v (List.mem_cons_self ..)
      rw [decide_eq_true ht, cond_true, wi64 (t + 1) (by omega) (by omega), wi64 _ (by omega) (by omega)]
      obtain ⟨a, b, c⟩ := addW_wide (l := l) (t := t + 1 + ((v.2.2.1.size : Nat) : Int)) (fun q hq => hl q (List.mem_cons_of_mem _ hq)) (by omega) (by omega)
      refine ⟨a, b, fun h => ?_⟩
      have := c h
      rw [List.length_cons]; omega
    · rw [decide_eq_false ht, cond_false]
      exact ⟨h0, h1, fun h => by omega⟩
theorem great_lens {e : Evt} (hr : okER e = true) (hg : greatE e = false) : (Ev.args e).length ≤ 2000 ∧ (Ev.out e).length ≤ 2000 := by
  unfold okER okVR at hr
  simp only [Bool.and_eq_true, decide_eq_true_eq, List.all_eq_true] at hr
  obtain ⟨⟨h1, h2, h3⟩, h4, h5⟩ := hr
  have h1' : (Ev.cli e).2.2.1.size ≤ 140737488351232 := h1
  have h2' : (Ev.key e).2.2.1.size ≤ 140737488351232 := h2
  have h3' : (Ev.note e).size ≤ 140737488351232 := h3
  unfold greatE at hg
  rw [decide_eq_false_iff_not] at hg
  have hs : startW e = (((Ev.cli e).2.2.1.size : Nat) : Int) + (((Ev.key e).2.2.1.size : Nat) : Int) + (((Ev.note e).size : Nat) : Int) := by
    unfold startW
    rw [wi64 ((((Ev.cli e).2.2.1.size : Nat) : Int) + (((Ev.key e).2.2.1.size : Nat) : Int)) (by omega) (by omega), wi64 _ (by omega) (by omega)]
  obtain ⟨a, b, c⟩ := addW_wide (l := Ev.args e) (t := startW e) h4 (by omega) (by omega)
  obtain ⟨a', b', c'⟩ := addW_wide (l := Ev.out e) (t := addW (startW e) (Ev.args e)) h5 a b
  have q := c' (by omega)
  have := c (by omega)
  omega
theorem keeps_small {h : List Evt} (hk : okKeeps h = true) (hg : greatH h 60 = false) : h.length ≤ 60 ∧ ∀ e ∈ h, (Ev.args e).length ≤ 2000 ∧ (Ev.out e).length ≤ 2000 := by
  unfold okKeeps at hk
  rw [Bool.and_eq_true, List.all_eq_true] at hk
  unfold greatH at hg
  rw [Bool.or_eq_false_iff, decide_eq_false_iff_not, List.any_eq_false] at hg
  exact ⟨by omega, fun e he => great_lens (hk.2 e he) (by have := hg.2 e he; revert this; cases greatE e <;> simp)⟩

theorem wakes_in {V : Vis} (hg : GlobOk gl V) {W : World} (hv : VisOk V W) : Calls Go.Proofs.Tryd.prog 8 #[] W fun e W' => e = .returned (.bool true) ∧ Below W.heap.size W W' := by
  refine (ok8 V W () [] rfl hg hv rfl).mono ?_
  rintro e W' ⟨v, V', rfl, _, _, _, h, hb⟩
  have h' : RepV (bare V') (.b true) v := h
  have hv : v = .bool true := by simpa [RepV, RepV1, RepCs] using h'
  subst hv
  exact ⟨rfl, hb⟩
theorem great_in {V : Vis} (hg : GlobOk gl V) {W : World} (hv : VisOk V W) {h : List Evt} {sv : Value} (hs : RepT V (.sl EVT) h [sv]) (hk : Inc.okH h = true) : Calls Go.Proofs.Tryd.prog 9 #[sv, .int .i64 60] W fun e W' => e = .returned (.bool (greatH h 60)) ∧ Below W.heap.size W W' := by
  refine (ok9 V W (h, ((60 : Int), ())) [sv, .int .i64 60] hk hg hv ⟨_, _, rfl, ⟨hs, fun _ _ => trivial⟩, _, _, rfl, rfl, rfl⟩).mono ?_
  rintro e W' ⟨v, V', rfl, _, _, _, hh, hb⟩
  have h' : RepV (bare V') (.b (greatH h 60)) v := hh
  have hv : v = .bool (greatH h 60) := by simpa [RepV, RepV1, RepCs] using h'
  subst hv
  exact ⟨rfl, hb⟩
theorem copy_in {V : Vis} (hg : GlobOk gl V) {W : World} (hv : VisOk V W) {h : List Evt} {sv : Value} (hs : RepT V (.sl EVT) h [sv]) (hk : okCopyH h = true) : Calls Go.Proofs.Tryd.prog 16 #[sv] W fun e W' => ∃ v V', e = .returned v ∧ VisOk V' W' ∧ VLe V V' ∧ RepT V' (.sl EVT) h [v] ∧ Below W.heap.size W W' := by
  refine (ok16 V W (h, ()) [sv] hk hg hv ⟨_, _, rfl, ⟨hs, fun _ _ => trivial⟩, rfl⟩).mono ?_
  rintro e W' ⟨v, V', rfl, hv', hle, _, hh, hb⟩
  exact ⟨v, V', rfl, hv', hle, hh.1, hb⟩
theorem evt_rep {V : Vis} {x : Evt} {a1 a2 : Option Addr} {c1 c2 : Nat} (h1 : RepT V (.sl VT) (Ev.args x) [.slice a1 (Ev.args x).length c1]) (h2 : RepT V (.sl VT) (Ev.out x) [.slice a2 (Ev.out x).length c2]) : RepT V EVT x (Go.WPall.evtV x a1 (Ev.args x).length c1 a2 (Ev.out x).length c2).toList :=
  ⟨[.int .i64 x.1], _, rfl, rfl, valC (Ev.cli x), _, rfl, ⟨[.int .i64 (Ev.cli x).1], _, rfl, rfl, [.int .i64 (Ev.cli x).2.1], _, rfl, rfl, [.string (Ev.cli x).2.2.1], [], rfl, rfl, rfl⟩, [.int .i64 (Ev.typ x)], _, rfl, rfl, [.int .i64 (Ev.mod x)], _, rfl, rfl, valC (Ev.key x), _, rfl, ⟨[.int .i64 (Ev.key x).1], _, rfl, rfl, [.int .i64 (Ev.key x).2.1], _, rfl, rfl, [.string (Ev.key x).2.2.1], [], rfl, rfl, rfl⟩, [.int .i64 (Ev.op x)], _, rfl, rfl, [_], _, rfl, h1, [_], _, rfl, h2, [.bool (Ev.ntd x)], _, rfl, rfl, [.string (Ev.note x)], [], rfl, rfl, rfl⟩
theorem same_in {V : Vis} (hg : GlobOk gl V) {W : World} (hv : VisOk V W) {x : Evt} (hl : (Ev.args x).length ≤ 2000 ∧ (Ev.out x).length ≤ 2000) {cs1 cs2 : Array Value} (h1 : RepT V EVT x cs1.toList) (h2 : RepT V EVT x cs2.toList) :
    Calls Go.Proofs.Tryd.prog 17 #[.agg cs1, .agg cs2] W fun e W' => e = .returned (.bool true) ∧ Below W.heap.size W W' := by
  refine (ok17 V W (x, (x, ())) [.agg cs1, .agg cs2] ?_ hg hv ⟨_, _, rfl, ⟨_, ?_, repCs_enc (x := bare V) h1⟩, _, _, rfl, ⟨_, ?_, repCs_enc (x := bare V) h2⟩, rfl⟩).mono ?_
  · show (lenE x && lenE x) = true
    unfold lenE
    rw [decide_eq_true hl.1, decide_eq_true hl.2]; rfl
  · simp
  · simp
  · rintro e W' ⟨v, V', rfl, _, _, _, hh, hb⟩
    have hs : sameE x x = true := beq_self_eq_true x
    have h' : RepV (bare V') (.b (sameE x x)) v := hh
    rw [hs] at h'
    have hv : v = .bool true := by simpa [RepV, RepV1, RepCs] using h'
    subst hv
    exact ⟨rfl, hb⟩
theorem check_in {V : Vis} (hg : GlobOk gl V) {W : World} (hv : VisOk V W) {h : List Evt} {sv : Value} (hs : RepT V (.sl EVT) h [sv]) (hk : okAll h = true) : Calls Go.Proofs.Tryd.prog 10 #[sv] W fun e W' => e = .returned (.agg #[.int .i64 (pairAll h).2.1, .int .i64 (pairAll h).2.2.1]) ∧ Below W.heap.size W W' := by
  refine (ok10 V W (h, ()) [sv] hk hg hv ⟨_, _, rfl, ⟨hs, fun _ _ => trivial⟩, rfl⟩).mono ?_
  rintro e W' ⟨v, V', rfl, _, _, _, hh, hb⟩
  obtain ⟨cs, rfl, c1, r1, e1, h1, c2, r2, e2, h2, h3⟩ := (show RepV (bare V') (.pr (.i .i64 (pairAll h).2.1) (.pr (.i .i64 (pairAll h).2.2.1) .un)) v from hh)
  cases h1; cases h2; cases h3
  subst e2
  subst e1
  exact ⟨rfl, hb⟩
end Go.K12

set_option linter.unusedVariables false
set_option linter.unusedSimpArgs false
namespace Go.K12
open Go Go.RowKit Go.Shelf Go.Abs Go.Inc Go.WKeep

theorem getD_len {h : List Evt} (hal : ∀ e ∈ h, (Ev.args e).length ≤ 2000 ∧ (Ev.out e).length ≤ 2000) (i : Nat) : (Ev.args (h.getD i noE)).length ≤ 2000 ∧ (Ev.out (h.getD i noE)).length ≤ 2000 := by
  by_cases hi : i < h.length
  · exact hal _ (getD_mem hi)
  · rw [List.getD_eq_getElem?_getD, List.getElem?_eq_none (by omega)]
    exact ⟨Nat.zero_le _, Nat.zero_le _⟩
theorem opers_lens {h : List Evt} (hal : ∀ e ∈ h, (Ev.args e).length ≤ 2000 ∧ (Ev.out e).length ≤ 2000) : (pairOpers h).1.length ≤ h.length ∧ ∀ o ∈ (pairOpers h).1, o.2.2.2.2.1.length ≤ 2000 ∧ o.2.2.2.2.2.1.length ≤ 2000 := by
  unfold pairOpers
  cases ((pairAll h).2.1 != 0) with
  | true => exact ⟨Nat.zero_le _, fun o ho => by cases ho⟩
  | false =>
    refine ⟨Nat.le_trans (List.length_filterMap_le _ _) (by rw [List.length_range]; exact Nat.le_refl _), fun o ho => ?_⟩
    obtain ⟨i, _, e⟩ := List.mem_filterMap.1 ho
    unfold pairOper at e
    dsimp only at e
    cases hc : (Ev.typ (h.getD i noE) != 1 || (Ck.gone (pairAll h).1).any (· == (i : Int))) with
    | true => rw [hc] at e; cases e
    | false =>
      rw [hc, cond_false] at e
      cases hd : decide ((Ck.ends (pairAll h).1).getD i 0 > 0) with
      | true =>
        rw [hd, cond_true] at e
        obtain rfl := (Option.some.inj e).symm
        exact ⟨(getD_len hal i).1, (getD_len hal _).2⟩
      | false =>
        rw [hd, cond_false] at e
        obtain rfl := (Option.some.inj e).symm
        exact ⟨(getD_len hal i).1, Nat.zero_le _⟩

set_option maxRecDepth 100000 in
set_option maxHeartbeats 4000000 in
theorem law_in (h : List Evt) (hk : okKeeps h = true) {V : Vis} (hg : GlobOk gl V) (w : World) (hv : VisOk V w) (sv : Value) (hs : RepT V (.sl EVT) h [sv]) :
    Calls Go.Proofs.Tryd.prog 7 #[sv] w fun e w' => e = .returned (.bool true) ∧ Below w.heap.size w w' := by
  have hokH : Inc.okH h = true := (Bool.and_eq_true_iff.1 hk).1
  obtain ⟨ad, c, rfl, hle, hevs⟩ := evs_seen hs
  have hvis : ∀ W', Below w.heap.size w W' → VisOk V W' := fun W' hW b o v e => by
    have h1 := hv b o v e
    rw [← h1]
    exact hW.cell (p := ⟨b, o, none⟩) (World.block_lt_of_cell? w _ h1)
  have hG := fun W' hW => great_in hg (hvis W' hW) hs hokH
  go_enter Go.Proofs.Tryd.func7, Go.Proofs.Tryd.ntmps7
  cases hgr : greatH h 60 with
  | true =>
    rw [hgr] at hG
    go_wp2_with (first
      | (go_at_call 8; refine (wakes_in hg (hvis _ (Below.refl _ _))).mono ?_; rintro e W1 ⟨rfl, hb1⟩)
      | (go_at_call 9; refine (hG _ hb1).mono ?_; rintro e W2 ⟨rfl, hb2⟩))
    go_ret
    exact ⟨rfl, hb1.trans (hb2.mono hb1.size)⟩
  | false =>
    rw [hgr] at hG
    obtain ⟨hlen, hal⟩ := keeps_small hk hgr
    have hA := all_of_great hokH hgr
    have hC : okCopyH h = true := by
      show (Inc.okH h && (decide (h.length ≤ 1000) && h.all lenE)) = true
      rw [hokH, decide_eq_true (by omega : h.length ≤ 1000), Bool.true_and, Bool.true_and, List.all_eq_true]
      intro e he
      unfold lenE
      rw [decide_eq_true (hal e he).1, decide_eq_true (hal e he).2]; rfl
    have hCp := fun W' hW => copy_in hg (hvis W' hW) hs hC
    generalize hcode : (pairAll h).2.1 = code at *
    generalize hline : (pairAll h).2.2.1 = line at *
    go_upto_region 7 with (first
      | (go_at_call 8; refine (wakes_in hg (hvis _ (Below.refl _ _))).mono ?_; rintro e W1 ⟨rfl, hb1⟩)
      | (go_at_call 9; refine (hG _ hb1).mono ?_; rintro e W2 ⟨rfl, hb2⟩; have hB2 := hb1.trans (hb2.mono hb1.size))
      | (go_at_call 16; refine (hCp _ hB2).mono ?_; rintro e W3 ⟨v3, V3, rfl, hv3, hle3, hr3, hb3⟩; have hB3 := hB2.trans (hb3.mono hB2.size))
      | (go_at_call 12; refine (opers_in (glob_mono hg hle3) h hA hal W3 hv3 v3 hr3).mono ?_; rintro e W4 ⟨u, us, n1, rfl, hb4, hn0, hn1, hO⟩))
    obtain ⟨hLl, hLo⟩ := opers_lens hal
    generalize (pairOpers h).1 = L at *
    obtain ⟨a4, c4, rfl⟩ := row_slice hO.row
    obtain ⟨a3, c3, rfl, hle3', hevs3⟩ := evs_seen hr3
    have hB4 := hB3.trans (hb4.mono hB3.size)
    have hbox := World.alloc_heap_new W4 (.cells #[.int .i64 code, .int .i64 line] 27)
    have hb46 : Below W4.heap.size W4 (W4.alloc (.cells #[.int .i64 code, .int .i64 line] 27)) := (Below.refl _ W4).alloc (Nat.le_refl _) _
    have hlt3 : ∀ b o x, V3 b o = some x → b < W3.heap.size := fun b o x e => World.block_lt_of_cell? W3 _ (hv3 b o x e)
    have hK0 : KeepI w n1 W4.heap.size 41 V3 (.slice a4 L.length c4) L us (W4.alloc (.cells #[.int .i64 code, .int .i64 line] 27)) := KeepI.begin hO (Nat.le_trans hB3.size hn0) hB4 hb46 (fun b o x e => by
      rw [← hv3 b o x e]
      exact (hb4.trans (hb46.mono hb4.size)).cell (p := ⟨b, o, none⟩) (hlt3 b o x e)) (fun b o x e => .inl (Nat.lt_of_lt_of_le (hlt3 b o x e) hn0))
    generalize W4.alloc (.cells #[.int .i64 code, .int .i64 line] 27) = W6 at *
    go_wp2
    go_loopw [23] (fun q wr => ∃ i : Nat, q = .int .i64 (i : Int) ∧ i ≤ L.length ∧ KeepI w n1 W4.heap.size 41 V3 (.slice a4 L.length c4) L us wr ∧ wr.heap[W4.heap.size]? = some (.cells #[.int .i64 code, .int .i64 line] 27 (0, 0))) (fun q _ => 2000 - (intOf q).toNat)
    case atStart => exact ⟨0, rfl, Nat.zero_le _, hK0, hbox⟩
    case round =>
      obtain ⟨i, rfl, hi, hK, hbx⟩ := hrel
      have hw1 : IntKind.i64.wrap ((i : Int) + 1) = (i : Int) + 1 := by rw [IntKind.wrap_i64]; omega
      by_cases hlt : i < L.length
      · obtain ⟨o, ho⟩ : ∃ o, L[i]? = some o := ⟨_, List.getElem?_eq_getElem hlt⟩
        have hc : (i : Int) < (L.length : Int) := by omega
        have hi0 : (0 : Int) ≤ (i : Int) := by omega
        obtain ⟨hol1, hol2⟩ := hLo o (List.mem_of_getElem? ho)
        obtain ⟨g, cap, uu, hve, hu, hc8, _, hob⟩ := hK.cell ho
        obtain ⟨rfl, rfl⟩ : a4 = some ⟨g, 0, none⟩ ∧ c4 = cap := by simpa using hve
        obtain ⟨a1, k1, hue1, _⟩ := (hK.sh i o uu ho hu).1
        obtain ⟨a5, k5, hue2, _⟩ := (hK.sh i o uu ho hu).2
        rw [hue1] at hc8
        go_wp2
        go_loopw [32] (fun q wr => ∃ k : Nat, q = .int .i64 (k : Int) ∧ k ≤ o.2.2.2.2.1.length ∧ KeepI w n1 W4.heap.size 41 V3 (.slice (some ⟨g, 0, none⟩) L.length c4) L us wr ∧ wr.heap[W4.heap.size]? = some (.cells #[.int .i64 code, .int .i64 line] 27 (0, 0))) (fun q _ => 3000 - (intOf q).toNat)
        case atStart => exact ⟨0, rfl, Nat.zero_le _, hK, hbx⟩
        case round =>
          obtain ⟨k, rfl, hk', hK, hbx⟩ := hrel
          have hw2 : IntKind.i64.wrap ((k : Int) + 1) = (k : Int) + 1 := by rw [IntKind.wrap_i64]; omega
          obtain ⟨g', cap', u', hve', hu', hc8', hc9', _⟩ := hK.cell ho
          obtain ⟨rfl, rfl⟩ : g = g' ∧ c4 = cap' := by simpa using hve'
          obtain rfl : uu = u' := by rw [hu] at hu'; exact Option.some.inj hu'
          rw [hue1] at hc8'
          rw [hue2] at hc9'
          by_cases hkl : k < o.2.2.2.2.1.length
          · have hck : (k : Int) < (o.2.2.2.2.1.length : Int) := by omega
            have hk0 : (0 : Int) ≤ (k : Int) := by omega
            obtain ⟨a1', k1', hue', hin⟩ := (hK.sh i o uu ho hu).1
            rw [hue1] at hue'
            obtain ⟨rfl, rfl⟩ : a1 = a1' ∧ k1 = k1' := by simpa using hue'
            rcases hin with h0 | ⟨bl, cs, E, rfl, hl0, hl1', hne, hh, hcs⟩
            · omega
            obtain ⟨⟨z, hz⟩, _⟩ := hcs k hkl
            have z1 := cellAt hh hz
            have z2 := frozAt (i := k * 3) hh
            go_wp2
            exact ⟨⟨k + 1, by simp, by omega, hK.set hl0 hl1' hne (k * 3) 9, (Below.heap_setCell _ _ _ _ (by show W4.heap.size ≠ bl; omega)).trans hbx⟩, by simp [intOf]; omega⟩
          · have hck : ¬ ((k : Int) < (o.2.2.2.2.1.length : Int)) := by omega
            go_wp2
            go_loopw [50] (fun q wr => ∃ k : Nat, q = .int .i64 (k : Int) ∧ k ≤ o.2.2.2.2.2.1.length ∧ KeepI w n1 W4.heap.size 41 V3 (.slice (some ⟨g, 0, none⟩) L.length c4) L us wr ∧ wr.heap[W4.heap.size]? = some (.cells #[.int .i64 code, .int .i64 line] 27 (0, 0))) (fun q _ => 3000 - (intOf q).toNat)
            case atStart => exact ⟨0, rfl, Nat.zero_le _, hK, hbx⟩
            case round =>
              clear hck hkl hw2 hc8' hc9' hbx hK hk'
              obtain ⟨k2, rfl, hk', hK, hbx⟩ := hrel
              have hw2 : IntKind.i64.wrap ((k2 : Int) + 1) = (k2 : Int) + 1 := by rw [IntKind.wrap_i64]; omega
              obtain ⟨g', cap', u', hve', hu', _, hc9', _⟩ := hK.cell ho
              obtain ⟨rfl, rfl⟩ : g = g' ∧ c4 = cap' := by simpa using hve'
              obtain rfl : uu = u' := by rw [hu] at hu'; exact Option.some.inj hu'
              rw [hue2] at hc9'
              by_cases hkl : k2 < o.2.2.2.2.2.1.length
              · have hck : (k2 : Int) < (o.2.2.2.2.2.1.length : Int) := by omega
                have hk0 : (0 : Int) ≤ (k2 : Int) := by omega
                obtain ⟨a1', k1', hue', hin⟩ := (hK.sh i o uu ho hu).2
                rw [hue2] at hue'
                obtain ⟨rfl, rfl⟩ : a5 = a1' ∧ k5 = k1' := by simpa using hue'
                rcases hin with h0 | ⟨bl, cs, E, rfl, hl0, hl1', hne, hh, hcs⟩
                · omega
                obtain ⟨⟨z, hz⟩, _⟩ := hcs k2 hkl
                have z1 := cellAt hh hz
                have z2 := frozAt (i := k2 * 3) hh
                go_wp2
                exact ⟨⟨k2 + 1, by simp, by omega, hK.set hl0 hl1' hne (k2 * 3) 9, (Below.heap_setCell _ _ _ _ (by show W4.heap.size ≠ bl; omega)).trans hbx⟩, by simp [intOf]; omega⟩
              · have hck : ¬ ((k2 : Int) < (o.2.2.2.2.2.1.length : Int)) := by omega
                go_wp2
                exact ⟨⟨i + 1, by simp, by omega, hK, hbx⟩, by simp [intOf]; omega⟩
      · have hc : ¬ ((i : Int) < (L.length : Int)) := by omega
        go_wp2
        go_loopw [70] (fun q wr => ∃ i : Nat, q = .int .i64 (i : Int) ∧ i ≤ h.length ∧ KeepI w n1 W4.heap.size 41 V3 (.slice a4 L.length c4) L us wr ∧ wr.heap[W4.heap.size]? = some (.cells #[.int .i64 code, .int .i64 line] 27 (0, 0))) (fun q _ => 2000 - (intOf q).toNat)
        case atStart => exact ⟨0, rfl, Nat.zero_le _, hK, hbx⟩
        case round =>
          clear hc hlt hw1 hbx hK hi
          obtain ⟨i2, rfl, hi, hK, hbx⟩ := hrel
          have hw1 : IntKind.i64.wrap ((i2 : Int) + 1) = (i2 : Int) + 1 := by rw [IntKind.wrap_i64]; omega
          by_cases hlt : i2 < h.length
          · obtain ⟨x, hx⟩ : ∃ x, h[i2]? = some x := ⟨_, List.getElem?_eq_getElem hlt⟩
            have hc : (i2 : Int) < (h.length : Int) := by omega
            have hi0 : (0 : Int) ≤ (i2 : Int) := by omega
            obtain ⟨b, off, p1, d1, p2, d2, rfl, hcell, hr1, hr2⟩ := hevs i2 x hx
            obtain ⟨b', off', p1', d1', p2', d2', rfl, hcell', hr1', hr2'⟩ := hevs3 i2 x hx
            have hcw := fun j u e => hK.vis _ _ _ (hle3 _ _ _ (hcell j u e))
            have hcw' := fun j u e => hK.vis _ _ _ (hcell' j u e)
            have k0 := hcw 0 _ rfl
            have m0 := hcw' 0 _ rfl
            have k1 := hcw 1 _ rfl
            have m1 := hcw' 1 _ rfl
            have k2 := hcw 2 _ rfl
            have m2 := hcw' 2 _ rfl
            have k3 := hcw 3 _ rfl
            have m3 := hcw' 3 _ rfl
            have k4 := hcw 4 _ rfl
            have m4 := hcw' 4 _ rfl
            have k5 := hcw 5 _ rfl
            have m5 := hcw' 5 _ rfl
            have k6 := hcw 6 _ rfl
            have m6 := hcw' 6 _ rfl
            have k7 := hcw 7 _ rfl
            have m7 := hcw' 7 _ rfl
            have k8 := hcw 8 _ rfl
            have m8 := hcw' 8 _ rfl
            have k9 := hcw 9 _ rfl
            have m9 := hcw' 9 _ rfl
            have k10 := hcw 10 _ rfl
            have m10 := hcw' 10 _ rfl
            have k11 := hcw 11 _ rfl
            have m11 := hcw' 11 _ rfl
            have k12 := hcw 12 _ rfl
            have m12 := hcw' 12 _ rfl
            have k13 := hcw 13 _ rfl
            have m13 := hcw' 13 _ rfl
            simp only [Nat.add_zero] at k0 m0
            clear hcw hcw' hcell hcell'
            have hS := same_in (glob_mono hg hle3) hK.drew.vis (hal x (List.mem_of_getElem? hx)) (evt_rep hr1' hr2') (evt_rep (hr1.mono hle3) (hr2.mono hle3))
            go_upto_region 26 with (fail)
            go_region_with (go_at_call 17; refine hS.mono ?_; rintro e W7 ⟨rfl, hb7⟩)
            all_goals (go_wp2; exact ⟨⟨i2 + 1, by simp, by omega, hK.drew.below hb7, (hb7.block _ (lt_of_heap (show wr.drew.heap[W4.heap.size]? = _ from hbx))).trans hbx⟩, by simp [intOf]; omega⟩)
          · have hc : ¬ ((i2 : Int) < (h.length : Int)) := by omega
            have x0 := cellAt (i := 0) hbx rfl
            have x1 := cellAt (i := 1) hbx rfl
            have hCk := check_in (glob_mono hg hle3) hK.drew.vis hr3 hA
            rw [hcode, hline] at hCk
            go_upto_region 29 with (fail)
            go_region_with (go_at_call 10; refine hCk.mono ?_; rintro e W8 ⟨rfl, hb8⟩; have e8 := (hb8.block _ (lt_of_heap (show wr.drew.heap[W4.heap.size]? = _ from hbx))).trans hbx; have y0 := cellAt (i := 0) e8 rfl; have y1 := cellAt (i := 1) e8 rfl)
            all_goals (go_wp2; go_ret; exact ⟨rfl, hK.drew.b.trans (hb8.mono hK.drew.b.size)⟩)
end Go.K12

set_option linter.unusedVariables false
set_option linter.unusedSimpArgs false
namespace Go.K12
open Go Go.RowKit Go.Abs Go.Inc
def S7 : Abs.Spec := { ta := .pr (.sl EVT) .un, tr := .pr .bool .un, multi := false, pre := fun x => okKeeps x.1, val := fun x => (true, ()) }
theorem ok7 : SpecOK Go.Proofs.Tryd.prog gl 7 S7 := by
  intro V w x vs hpre hg hv hr
  obtain ⟨h, ⟨⟩⟩ := x
  obtain ⟨v, r, rfl, h1, h2⟩ := hr
  obtain rfl : r = [] := h2
  refine (law_in h hpre hg w hv v h1.1).mono ?_
  rintro e w' ⟨rfl, hb⟩
  refine ⟨_, V, rfl, fun b o u e => ?_, VLe.refl V, fun _ _ _ => rfl, ?_, hb⟩
  · have h4 := hv b o u e
    rw [← h4]
    exact hb.cell (p := ⟨b, o, none⟩) (World.block_lt_of_cell? w _ h4)
  · show RepV (bare V) (.b true) (.bool true)
    simp [RepV, RepV1, RepCs]
def bt (_ : Ty) : Nat := 0
theorem val_sz {v : Val} (h : szD bt VT v = true) : okVR v = true := by
  have h1 : (true && (true && (decide (v.2.2.1.size ≤ reachBytes) && true))) = true := h
  have hR : reachBytes = 140737488351232 := rfl
  simp only [Bool.true_and, Bool.and_true, hR] at h1
  exact h1
theorem pre_sz (x : S7.ta.den) (h : wfD S7.ta x = true) (hz : szD bt S7.ta x = true) : S7.pre x = true := by
  obtain ⟨hs, ⟨⟩⟩ := x
  have h0 : wfD (.sl EVT) hs = true := (Bool.and_eq_true_iff.1 h).1
  have h1 : szD bt (.sl EVT) hs = true := (Bool.and_eq_true_iff.1 hz).1
  have h2 : hs.all (szD bt EVT) = true := (Bool.and_eq_true_iff.1 h1).2
  show okKeeps hs = true
  unfold okKeeps
  have h00 : Inc.okH hs = true := h0
  rw [h00, Bool.true_and]
  rw [List.all_eq_true] at h2 ⊢
  intro e he
  have h3 : (true && (szD bt VT (Ev.cli e) && (true && (true && (szD bt VT (Ev.key e) && (true && (szD bt (.sl VT) (Ev.args e) && (szD bt (.sl VT) (Ev.out e) && (true && (decide ((Ev.note e).size ≤ reachBytes) && true)))))))))) = true := h2 e he
  simp only [Bool.true_and, Bool.and_true, Bool.and_eq_true, decide_eq_true_eq] at h3
  obtain ⟨k1, k2, k3, k4, k5⟩ := h3
  have k3' : (Ev.args e).all (szD bt VT) = true := (Bool.and_eq_true_iff.1 k3).2
  have k4' : (Ev.out e).all (szD bt VT) = true := (Bool.and_eq_true_iff.1 k4).2
  rw [List.all_eq_true] at k3' k4'
  have hR : reachBytes = 140737488351232 := rfl
  rw [hR] at k5
  unfold okER
  rw [val_sz k1, val_sz k2, decide_eq_true k5]
  simp only [Bool.true_and, Bool.and_eq_true, List.all_eq_true]
  exact ⟨fun v hv => val_sz (k3' v hv), fun v hv => val_sz (k4' v hv)⟩
end Go.K12
