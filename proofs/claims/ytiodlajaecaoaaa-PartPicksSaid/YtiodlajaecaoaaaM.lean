/- Own text of this session: a part of the proof; no condition of its own. -/
import Derived.Test.YtiodlajaecaoaaaC
import Derived.Test.YtiodlajaecaoaaaPick
import Derived.Deep.Cut
set_option linter.unusedVariables false
set_option linter.unusedSimpArgs false
namespace Go.L19
open Go Go.RowKit Go.Shelf Go.Abs Go.Inc Go.WKeep Go.WPick

theorem wakes_in (W : World) : Calls Go.Proofs.Try.prog 6 #[] W fun e W' => e = .returned (.bool true) ∧ Below W.heap.size W W' := by
  refine (ok6 (fun _ _ => none) W () [] rfl (fun _ _ h => by cases h) (fun _ _ _ h => by cases h) rfl).mono ?_
  rintro e W' ⟨v, V', rfl, _, _, _, h, hb⟩
  have h' : RepV (bare V') (.b true) v := h
  have hv : v = .bool true := by simpa [RepV, RepV1, RepCs] using h'
  subst hv
  exact ⟨rfl, hb⟩
theorem pickref_in {V : Vis} {W : World} (hv : VisOk V W) {ops : List Opr} {pl : List Int} {sv pv : Value} (hs : RepT V (.sl OPT) ops [sv]) (hp : RepT V (.sl (.int .i64)) pl [pv]) (h1 : ops.length ≤ 1000) (h2 : pl.length ≤ 1000) :
    Calls Go.Proofs.Try.prog 12 #[sv, pv] W fun e W' => ∃ v V', e = .returned v ∧ VisOk V' W' ∧ (∀ b o, b < W.heap.size → V' b o = V b o) ∧ RepT V' (.sl OPT) (pickL ops pl) [v] ∧ Below W.heap.size W W' := by
  refine (ok12 V W (ops, (pl, ())) [sv, pv] ?_ (fun _ _ h => by cases h) hv ⟨_, _, rfl, ⟨hs, fun _ _ => trivial⟩, _, _, rfl, ⟨hp, fun _ _ => trivial⟩, rfl⟩).mono ?_
  · show okPick ops pl = true
    simp [okPick, h1, h2]
  · rintro e W' ⟨v, V', rfl, hv', hle, hold, h, hb⟩
    exact ⟨v, V', rfl, hv', hold, h.1, hb⟩
theorem same_in {V : Vis} {W : World} (hv : VisOk V W) {a : List Opr} {va vb : Value} (ha : RepT V (.sl OPT) a [va]) (hb : RepT V (.sl OPT) a [vb]) (hk : okOpsW a a = true) :
    Calls Go.Proofs.Try.prog 11 #[va, vb] W fun e W' => e = .returned (.bool true) ∧ Below W.heap.size W W' := by
  refine (ok11 V W (a, (a, ())) [va, vb] hk (fun _ _ h => by cases h) hv ⟨_, _, rfl, ⟨ha, fun _ _ => trivial⟩, _, _, rfl, ⟨hb, fun _ _ => trivial⟩, rfl⟩).mono ?_
  rintro e W' ⟨v, V', rfl, _, _, _, h, hbl⟩
  have h' : RepV (bare V') (.b (sameOps a a)) v := h
  have hs : sameOps a a = true := beq_self_eq_true a
  rw [hs] at h'
  have hv : v = .bool true := by simpa [RepV, RepV1, RepCs] using h'
  subst hv
  exact ⟨rfl, hbl⟩
def okPicks (ops : List Opr) (pl : List Int) : Bool := ops.all fun o => decide (o.2.2.2.2.1.length * 32 ≤ 140737488351232) && decide (o.2.2.2.2.2.1.length * 32 ≤ 140737488351232)

set_option maxRecDepth 100000 in
set_option maxHeartbeats 2000000 in
theorem law_in (ops : List Opr) (pl : List Int) (hk : okPicks ops pl = true) {V : Vis} (w : World) (hv : VisOk V w) (sv pv : Value) (hs : RepT V (.sl OPT) ops [sv]) (hp : RepT V (.sl (.int .i64)) pl [pv]) :
    Calls Go.Proofs.Try.prog 5 #[sv, pv] w fun e w' => e = .returned (.bool true) ∧ Below w.heap.size w w' := by
  obtain ⟨ad, c, rfl, hle, hops⟩ := slice_seen hs
  obtain ⟨ap, cp, rfl, hpls⟩ := ints_seen hp
  obtain ⟨i0, z0, hti, htz, hts, htb, htc⟩ := infoN (P := Go.Proofs.Try.prog) (T := 34) (s := 12) (b := 144) (by kernel_rfl)
  go_enter Go.Proofs.Try.func5, Go.Proofs.Try.ntmps5
  by_cases hl1 : 60 < ops.length
  · have hi1 : (60 : Int) < (ops.length : Int) := by omega
    go_wp2_with (go_at_call 6; refine (wakes_in _).mono ?_; rintro e W1 ⟨rfl, hb1⟩)
    go_ret
    exact ⟨rfl, hb1⟩
  · have hi1 : ¬ (60 : Int) < (ops.length : Int) := by omega
    by_cases hl2 : 100 < pl.length
    · have hi2 : (100 : Int) < (pl.length : Int) := by omega
      go_wp2_with (go_at_call 6; refine (wakes_in _).mono ?_; rintro e W1 ⟨rfl, hb1⟩)
      go_ret
      exact ⟨rfl, hb1⟩
    · have hi2 : ¬ (100 : Int) < (pl.length : Int) := by omega
      obtain ⟨ad', c', es, e, _, hra, hd⟩ := id hs
      have e' : ad' = ad := by simp at e; exact e.1.symm
      subst e'
      clear e
      obtain ⟨hel, hone⟩ := oneC hra
      have hN : ∀ W', Below w.heap.size w W' → ∀ j u, es[j]? = some u → ∃ A, ad' = some A ∧ W'.cell? (A.add j) = some u := fun W' hW j u hj => by
        obtain ⟨bl, off, e1, e2⟩ := hd j u hj
        refine ⟨⟨bl, off, none⟩, e1, ?_⟩
        have h1 := hv _ _ _ e2
        have h2 : W'.cell? ⟨bl, off + j, none⟩ = some u := (hW.cell (p := ⟨bl, off + j, none⟩) (World.block_lt_of_cell? w _ h1)).trans h1
        by_cases hj0 : j = 0
        · subst hj0; simpa [Addr.add] using h2
        · simpa [Addr.add, hj0] using h2
      have hvis : ∀ W', Below w.heap.size w W' → VisOk V W' := fun W' hW b o v e => by
        have h1 := hv b o v e
        rw [← h1]
        exact hW.cell (p := ⟨b, o, none⟩) (World.block_lt_of_cell? w _ h1)
      have hsz : ∀ o ∈ ops, o.2.2.2.2.1.length * 32 ≤ 140737488351232 ∧ o.2.2.2.2.2.1.length * 32 ≤ 140737488351232 := fun o ho => by
        have := List.all_eq_true.1 hk o ho
        simpa [Bool.and_eq_true] using this
      have hP := fun W' hW => pickref_in (hvis W' hW) hs hp (by omega) (by omega)
      have hoW : okOpsW (pickL ops pl) (pickL ops pl) = true := by
        have h1 := pickL_len ops pl
        have h2 : ∀ o ∈ pickL ops pl, okOneW o o = true := fun o ho => by
          have := hsz o (pick_mem ho)
          have hm : maxLen = 9223372036854775807 := rfl
          simp only [okOneW, Bool.and_eq_true, decide_eq_true_eq]
          omega
        simp only [okOpsW, Bool.and_eq_true, decide_eq_true_eq, List.all_eq_true]
        exact ⟨⟨⟨by omega, by omega⟩, h2⟩, h2⟩
      generalize hL : pickL ops pl = L at *
      go_wp2_with (first
        | (go_at_call 6; refine (wakes_in _).mono ?_; rintro e W1 ⟨rfl, hb1⟩)
        | (at_builtin; go_loud (refine wpList_append_any _ rfl _ _ 22 rfl W1.heap.size 34 i0 z0 12 144 Go.Proofs.Try.underlying22 hti htz hts htb htc (by decide) (.slice (some ⟨W1.heap.size, 0, none⟩) 0 0) 0 [] rfl (World.ownsRow_made W1 #[] 0 (Nat.le_refl _) (by decide) rfl) ad' ops.length c es rfl hel (hN _ (hb1.alloc hb1.size _)) hone (by unfold maxLen; omega) (by omega) (by simp) ?_)
           intro v1 W2 hown1 hgr1 hat1
           go_loud (have hbA := (hb1.alloc hb1.size (.cells #[] 34)).grown hgr1 (by have := hb1.size; simp; omega) (fun k e => by have := hb1.size; have e2 : W1.heap.size = k := Option.some.inj e; omega))
           go_loud (obtain ⟨hS, hSle⟩ := newSeen_ok hv rfl hbA)
           go_loud (rw [Nat.zero_add, List.nil_append] at hown1)
           go_loud (have hr1 := row_seen hown1 (hra.imp fun _ _ r => RepT.mono hSle r) (V := newSeen V w.heap.size W2) (fun b o hb => newSeen_new b o (Nat.le_trans hb1.size hb)))
           have hp1 := RepT.mono hSle hp)
        | (go_at_call 10; go_loud (refine (pick_in clone14 (fun _ _ h => by cases h) ops pl (by omega) (by omega) hsz W2 hS v1 _ hr1 hp1).mono ?_); rintro e W3 ⟨v2, us, rfl, hb3, hO⟩; have hB3 := hbA.trans (hb3.mono hbA.size); rw [hL] at hO; obtain ⟨a2, c2, rfl⟩ := row_slice hO.row)
        | (go_at_call 12; refine (hP _ hB5).mono ?_; rintro e W6 ⟨v6, V6, rfl, hv6, hold6, hr6, hb6⟩; obtain ⟨a6, c6, rfl, hle6, hrows6⟩ := slice_seen hr6)
        | (go_at_call 12; refine (hP _ hB3).mono ?_; rintro e W4 ⟨v4, V4, rfl, hv4, hold4, hr4, hb4⟩)
        | (go_at_call 11; go_loud (refine (same_in (V := allSeen W4) (fun _ _ _ h => h) ((hO.below hb4).rep (fun _ _ _ => rfl)) (RepT.mono hv4 hr4) hoW).mono ?_); rintro e W5 ⟨rfl, hb5⟩; have hB5 := (hB3.trans (hb4.mono hB3.size)).trans (hb5.mono (hB3.trans (hb4.mono hB3.size)).size)))
      have hLl : L.length ≤ 100 := by have := pickL_len ops pl; rw [hL] at this; omega
      have hb36 : Below W3.heap.size W3 W6 := hb4.trans ((hb5.mono hb4.size).trans (hb6.mono (Nat.le_trans hb4.size hb5.size)))
      have hK0 : KeepI w W2.heap.size W3.heap.size 34 V6 (.slice a2 L.length c2) L us W6 := KeepI.begin hO hbA.size hB3 hb36 hv6 (fun b o x e => by
        by_cases hlt : b < W5.heap.size
        · rw [hold6 b o hlt] at e
          have := World.block_lt_of_cell? w _ (hv b o x e)
          exact .inl (Nat.lt_of_lt_of_le this hbA.size)
        · exact .inr (Nat.le_trans (Nat.le_trans hb4.size hb5.size) (by omega)))
      go_loopw [38] (fun q wr => ∃ i : Nat, q = .int .i64 (i : Int) ∧ i ≤ L.length ∧ KeepI w W2.heap.size W3.heap.size 34 V6 (.slice a2 L.length c2) L us wr) (fun q _ => 2000 - (intOf q).toNat)
      case atStart => exact ⟨0, rfl, Nat.zero_le _, hK0⟩
      case round =>
        obtain ⟨i, rfl, hi, hK⟩ := hrel
        have hw1 : IntKind.i64.wrap ((i : Int) + 1) = (i : Int) + 1 := by rw [IntKind.wrap_i64]; omega
        by_cases hlt : i < L.length
        · obtain ⟨o, ho⟩ : ∃ o, L[i]? = some o := ⟨_, List.getElem?_eq_getElem hlt⟩
          have hc : (i : Int) < (L.length : Int) := by omega
          have hi0 : (0 : Int) ≤ (i : Int) := by omega
          have hol : o.2.2.2.2.1.length * 32 ≤ 140737488351232 := (hsz o (pick_mem (ops := ops) (pl := pl) (by rw [hL]; exact List.mem_of_getElem? ho))).1
          obtain ⟨g, cap, u, hve, hu, hc8, _, hob⟩ := hK.cell ho
          obtain ⟨rfl, rfl⟩ : a2 = some ⟨g, 0, none⟩ ∧ c2 = cap := by simpa using hve
          obtain ⟨a1, k1, hue, _⟩ := (hK.sh i o u ho hu).1
          rw [hue] at hc8
          obtain ⟨b6, off6, w1, w2, rfl, hcell6, hrep1, _⟩ := hrows6 i o ho
          obtain ⟨a7, c7, rfl, hvals⟩ := vals_seen hrep1
          have kw := hcell6 8 _ rfl
          clear hcell6
          go_wp2
          go_loopw [47] (fun q wr => ∃ k : Nat, q = .int .i64 (k : Int) ∧ k ≤ o.2.2.2.2.1.length ∧ KeepI w W2.heap.size W3.heap.size 34 V6 (.slice (some ⟨g, 0, none⟩) L.length c2) L us wr) (fun q _ => o.2.2.2.2.1.length + 1 - (intOf q).toNat)
          case atStart => exact ⟨0, rfl, Nat.zero_le _, hK⟩
          case round =>
            obtain ⟨k, rfl, hk, hK⟩ := hrel
            have hw2 : IntKind.i64.wrap ((k : Int) + 1) = (k : Int) + 1 := by rw [IntKind.wrap_i64]; omega
            by_cases hkl : k < o.2.2.2.2.1.length
            · obtain ⟨vv, hvv⟩ : ∃ vv, o.2.2.2.2.1[k]? = some vv := ⟨_, List.getElem?_eq_getElem hkl⟩
              have hck : (k : Int) < (o.2.2.2.2.1.length : Int) := by omega
              have hk0 : (0 : Int) ≤ (k : Int) := by omega
              obtain ⟨b7, off7, rfl, x0, x1, x2⟩ := hvals k vv hvv
              have y0 := hK.vis _ _ _ x0
              have y1 := hK.vis _ _ _ x1
              have y2 := hK.vis _ _ _ x2
              have y3 := hK.vis _ _ _ kw
              go_upto_region 17 with (fail)
              have hKa := hK.alloc (.cells #[.int .i64 vv.1, .int .i64 vv.2.1, .string vv.2.2.1] 31)
              have hbx : (wr.alloc (.cells #[.int .i64 vv.1, .int .i64 vv.2.1, .string vv.2.2.1] 31)).heap[wr.heap.size]? = some (.cells #[.int .i64 vv.1, .int .i64 vv.2.1, .string vv.2.2.1] 31 (0, 0)) := World.alloc_heap_new wr _
              have hws3 := hK.sz
              clear y0 y1 y2 y3 hK
              generalize wr.alloc (.cells #[.int .i64 vv.1, .int .i64 vv.2.1, .string vv.2.2.1] 31) = Wa at *
              obtain ⟨g', cap', u', hve', hu', hc8', _, _⟩ := hKa.cell ho
              obtain ⟨rfl, rfl⟩ : g = g' ∧ c2 = cap' := by simpa using hve'
              obtain rfl : u = u' := by rw [hu] at hu'; exact Option.some.inj hu'
              obtain ⟨a1', k1', hue', hin⟩ := (hKa.sh i o u ho hu).1
              rw [hue] at hc8' hue'
              obtain ⟨rfl, rfl⟩ : a1 = a1' ∧ k1 = k1' := by simpa using hue'
              rcases hin with h0 | ⟨bl, cs, E, rfl, hl0, hl1', hne, hh, hcs⟩
              · omega
              obtain ⟨_, z, hz⟩ := hcs k hkl
              have z1 := cellAt hh hz
              have z2 := frozAt (i := k * 3 + 1) hh
              go_upto_region 18 with (fail)
              have hKb := hKa.set hl0 hl1' hne (k * 3 + 1) (wrap64 (z + 1))
              have hby : (Wa.setCell ⟨bl, k * 3 + 1, none⟩ (.int .i64 (wrap64 (z + 1)))).heap[wr.heap.size]? = some (.cells #[.int .i64 vv.1, .int .i64 vv.2.1, .string vv.2.2.1] 31 (0, 0)) := (Below.heap_setCell _ _ _ _ (by show wr.heap.size ≠ bl; omega)).trans hbx
              clear hKa hbx z1 z2 hh hcs hz hc8'
              generalize Wa.setCell ⟨bl, k * 3 + 1, none⟩ (.int .i64 (wrap64 (z + 1))) = Wb at *
              have y0 := hKb.vis _ _ _ x0
              have y1 := hKb.vis _ _ _ x1
              have y2 := hKb.vis _ _ _ x2
              have y3 := hKb.vis _ _ _ kw
              have q0 := cellAt (i := 0) hby rfl
              have q1 := cellAt (i := 1) hby rfl
              have q2 := cellAt (i := 2) hby rfl
              go_region
              go_wp2
              exact ⟨⟨k + 1, by simp, by omega, hKb.drew⟩, by simp [intOf]; omega⟩
            · have hck : ¬ ((k : Int) < (o.2.2.2.2.1.length : Int)) := by omega
              go_wp2
              exact ⟨⟨i + 1, by simp, by omega, hK⟩, by simp [intOf]; omega⟩
        · have hc : ¬ ((i : Int) < (L.length : Int)) := by omega
          go_wp2
          go_ret
          exact ⟨rfl, hK.b⟩
end Go.L19
