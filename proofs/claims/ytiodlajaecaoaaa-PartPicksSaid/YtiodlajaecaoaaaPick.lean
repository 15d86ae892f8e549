/- Own text of this session: a part of the proof; no condition of its own. -/
import Derived.Test.YtiodlajaecaoaaaPicks
import Derived.Deep.RegionLaw
import Derived.Deep.OwnRows
import Derived.Test.YtiodlajaecaoaaaProg
set_option linter.unusedVariables false
set_option linter.unusedSimpArgs false
namespace Go.WPick
open Go Go.RowKit Go.Shelf Go.Abs Go.Inc Go.WKeep

theorem ints_at {V : Vis} : ∀ {xs : List Int} {es : List Value}, RepArr (RepT V (Ty.int .i64)) xs es → ∀ (i : Nat) (x : Int), xs[i]? = some x → es[i]? = some (.int .i64 x)
  | [], _, _, i, y, e => by simp at e
  | z :: xs, _, ⟨c1, c2, e, h1, h2⟩, i, y, ey => by
    cases h1
    subst e
    cases i with
    | zero => simp at ey; subst ey; rfl
    | succ i => simpa using ints_at h2 i y (by simpa using ey)
theorem ints_seen {V : Vis} {xs : List Int} {v : Value} (h : RepT V (.sl (.int .i64)) xs [v]) : ∃ ad c, v = .slice ad xs.length c ∧ ∀ i x, xs[i]? = some x → ∃ b off, ad = some ⟨b, off, none⟩ ∧ V b (off + i) = some (.int .i64 x) := by
  obtain ⟨ad, c, es, e, hle, hra, hd⟩ := h
  obtain rfl : v = .slice ad xs.length c := by simpa using e
  exact ⟨ad, c, rfl, fun i x hx => hd i _ (ints_at hra i x hx)⟩

set_option maxRecDepth 100000 in
set_option maxHeartbeats 2000000 in
theorem pick_in {gl : List (Nat × AVal)} {V : Vis} (hcl : CloneOK Go.Proofs.Try.prog gl 14 VT 32) (hg : GlobOk gl V) (ops : List Opr) (pl : List Int) (hxl : ops.length ≤ 1000) (hpl : pl.length ≤ 1000)
    (hsz : ∀ o ∈ ops, o.2.2.2.2.1.length * 32 ≤ 140737488351232 ∧ o.2.2.2.2.2.1.length * 32 ≤ 140737488351232) (w : World) (hv : VisOk V w) (sv pv : Value) (hs : RepT V (.sl OPT) ops [sv]) (hp : RepT V (.sl (.int .i64)) pl [pv]) :
    Calls Go.Proofs.Try.prog 10 #[sv, pv] w fun e w' => ∃ u us, e = .returned u ∧ Below w.heap.size w w' ∧ OutAt w' w.heap.size 34 u (pickL ops pl) us := by
  obtain ⟨ad, c, rfl, hle, hops⟩ := slice_seen hs
  obtain ⟨ap, cp, rfl, hpls⟩ := ints_seen hp
  obtain ⟨i0, z0, hti, htz, hts, htb, htc⟩ := infoN (P := Go.Proofs.Try.prog) (T := 34) (s := 12) (b := 144) (by kernel_rfl)
  go_enter Go.Proofs.Try.func10, Go.Proofs.Try.ntmps10
  go_wp2
  go_loopw [5, 11] (fun p q wr => ∃ (i : Nat) (us : List (Value × Value)), q = .int .i64 (i : Int) ∧ i ≤ pl.length ∧ Below w.heap.size w wr ∧ OutAt wr w.heap.size 34 p (pickL ops (pl.take i)) us) (fun _ q _ => 2000 - (intOf q).toNat)
  case atStart =>
    exact ⟨0, [], rfl, Nat.zero_le _, Below.refl _ _, OutAt.nil _ _ _⟩
  case round =>
    obtain ⟨i, us, rfl, hi, hB, hO⟩ := hrel
    have hw1 : IntKind.i64.wrap ((i : Int) + 1) = (i : Int) + 1 := by rw [IntKind.wrap_i64]; omega
    have hlow : ∀ b o v, V b o = some v → wr.cell? ⟨b, o, none⟩ = some v := fun b o v e => by
      have h1 := hv b o v e
      rw [← h1]
      exact hB.cell (p := ⟨b, o, none⟩) (World.block_lt_of_cell? w _ h1)
    by_cases hlt : i < pl.length
    · obtain ⟨z, hz⟩ : ∃ z, pl[i]? = some z := ⟨_, List.getElem?_eq_getElem hlt⟩
      have hc : (i : Int) < (pl.length : Int) := by omega
      obtain ⟨bp, offp, rfl, hzc⟩ := hpls i z hz
      have kz := hlow _ _ _ hzc
      have hnext := pickL_succ (ops := ops) hz
      by_cases hz1 : 0 ≤ z ∧ z < (ops.length : Int)
      · obtain ⟨hz0, hz2⟩ := hz1
        obtain ⟨m, rfl⟩ : ∃ m : Nat, z = (m : Int) := ⟨z.toNat, by omega⟩
        obtain ⟨o, ho⟩ : ∃ o, ops[m]? = some o := ⟨_, List.getElem?_eq_getElem (by omega)⟩
        obtain ⟨b, off, u1, u2, rfl, hcell, hr1, hr2⟩ := hops m o ho
        obtain ⟨a1, c1, _, e1, _⟩ := id hr1
        obtain rfl : u1 = .slice a1 _ c1 := by simpa using e1
        obtain ⟨a2, c2, _, e2, _⟩ := id hr2
        obtain rfl : u2 = .slice a2 _ c2 := by simpa using e2
        clear e1 e2
        have hcw := fun j x e => hlow _ _ _ (hcell j x e)
        have k0 := hcw 0 _ rfl
        have k1 := hcw 1 _ rfl
        have k2 := hcw 2 _ rfl
        have k3 := hcw 3 _ rfl
        have k4 := hcw 4 _ rfl
        have k5 := hcw 5 _ rfl
        have k6 := hcw 6 _ rfl
        have k7 := hcw 7 _ rfl
        have k8 := hcw 8 _ rfl
        have k9 := hcw 9 _ rfl
        have k10 := hcw 10 _ rfl
        have k11 := hcw 11 _ rfl
        simp only [Nat.add_zero] at k0
        clear hcw hcell
        have hz3 : ¬ ((m : Int) < 0) := by omega
        have hz4 : ¬ ((ops.length : Int) ≤ (m : Int)) := by omega
        have hoo := List.mem_of_getElem? ho
        have hvis : ∀ W', Below w.heap.size w W' → VisOk V W' := fun W' hW b o v e => by
          have h1 := hv b o v e
          rw [← h1]
          exact hW.cell (p := ⟨b, o, none⟩) (World.block_lt_of_cell? w _ h1)
        have hc1 := fun W' hW => clone_new hcl hg (hvis W' hW) hr1 (hsz o hoo).1
        have hc2 := fun W' hW => clone_new hcl hg (hvis W' hW) hr2 (hsz o hoo).2
        go_wp2
        have hws : w.heap.size ≤ wr.heap.size := hB.size
        have hx0 : (wr.alloc (.cells (oprV o (.slice a1 o.2.2.2.2.1.length c1) (.slice a2 o.2.2.2.2.2.1.length c2)) 34)).heap[wr.heap.size]? = some (.cells (oprV o (.slice a1 o.2.2.2.2.1.length c1) (.slice a2 o.2.2.2.2.2.1.length c2)) 34 (0, 0)) := World.alloc_heap_new wr _
        have hBa : Below w.heap.size w (wr.alloc (.cells (oprV o (.slice a1 o.2.2.2.2.1.length c1) (.slice a2 o.2.2.2.2.2.1.length c2)) 34)) := hB.trans ((Below.refl _ wr).alloc hws _)
        have hBr : Below wr.heap.size wr (wr.alloc (.cells (oprV o (.slice a1 o.2.2.2.2.1.length c1) (.slice a2 o.2.2.2.2.2.1.length c2)) 34)) := (Below.refl _ wr).alloc (Nat.le_refl _) _
        have hsa : (wr.alloc (.cells (oprV o (.slice a1 o.2.2.2.2.1.length c1) (.slice a2 o.2.2.2.2.2.1.length c2)) 34)).heap.size = wr.heap.size + 1 := by simp
        generalize (wr.alloc (.cells (oprV o (.slice a1 o.2.2.2.2.1.length c1) (.slice a2 o.2.2.2.2.2.1.length c2)) 34)) = Wa at *
        have hsd : Wa.drew.heap.size = wr.heap.size + 1 := hsa
        have q8 := cellAt (i := 8) hx0 rfl
        have q9 := cellAt (i := 9) hx0 rfl
        refine wp_join4 ?A (fun w' r1 s1 r2 s2 => w'.heap[wr.heap.size]? = some (.cells (oprV o (.slice r1 o.2.2.2.2.1.length s1) (.slice r2 o.2.2.2.2.2.1.length s2)) 34 (0, 0)) ∧ Below wr.heap.size wr w' ∧ NewAt w' (wr.heap.size + 1) none (.slice r1 o.2.2.2.2.1.length s1) o.2.2.2.2.1 ∧ NewAt w' (wr.heap.size + 1) none (.slice r2 o.2.2.2.2.2.1.length s2) o.2.2.2.2.2.1) ?reg ?cont
        case reg =>
          intro Q hQ
          go_region_with (first
            | (go_at_call 14; refine (hc1 _ hBa.drew).mono ?_; rintro e W1 ⟨u1', rfl, hb1, hn1⟩; rw [hsd] at hb1 hn1; obtain ⟨r1, s1, rfl, _⟩ := id hn1; have x1 := (hb1.block wr.heap.size (by omega)).trans hx0; have y8 := cellAt (i := 8) x1 rfl; have y9 := cellAt (i := 9) x1 rfl; have g8 := frozAt (i := 8) x1; have g9 := frozAt (i := 9) x1; have hB1 := hBa.drew.trans (hb1.mono (by omega)); have hw1s := hb1.size; rw [hsd] at hw1s; have hB1r := hBr.drew.trans (hb1.mono (by omega)))
            | (go_at_call 14; refine (hc2 W1 hB1).mono ?_; rintro e W2 ⟨u2', rfl, hb2, hn2⟩; obtain ⟨r2, s2, rfl, _⟩ := id hn2; have x2 := (hb2.block wr.heap.size (lt_of_heap x1)).trans x1; have y8 := cellAt (i := 8) x2 rfl; have y9 := cellAt (i := 9) x2 rfl; have g8 := frozAt (i := 8) x2; have g9 := frozAt (i := 9) x2)
            | (go_at_call 14; refine (hc2 (W1.setCell ⟨wr.heap.size, 8, none⟩ (.slice r1 _ s1)) (hB1.setCell (p := ⟨wr.heap.size, 8, none⟩) hws _)).mono ?_; rintro e W2 ⟨u2', rfl, hb2, hn2⟩; obtain ⟨r2, s2, rfl, _⟩ := id hn2; have x2 := (hb2.block wr.heap.size (lt_of_heap (set_same x1))).trans (set_same (i := 8) (v := .slice r1 _ s1) x1); have y8 := cellAt (i := 8) x2 rfl; have y9 := cellAt (i := 9) x2 rfl; have g8 := frozAt (i := 8) x2; have g9 := frozAt (i := 9) x2))
          all_goals first
            | exact hQ _ _ _ _ _ ⟨set_same (set_same x2), ((hB1r.trans (hb2.mono (by omega))).setCell (p := ⟨wr.heap.size, 8, none⟩) (Nat.le_refl _) _).setCell (p := ⟨wr.heap.size, 9, none⟩) (Nat.le_refl _) _, ((hn1.below hb2).setLow (by omega) _).setLow (by omega) _, ((hn2.mono (by omega)).setLow (by omega) _).setLow (by omega) _⟩
            | exact hQ _ _ _ _ _ ⟨set_same x2, ((hB1r.setCell (p := ⟨wr.heap.size, 8, none⟩) (Nat.le_refl _) _).trans (hb2.mono (by simp; omega))).setCell (p := ⟨wr.heap.size, 9, none⟩) (Nat.le_refl _) _, ((hn1.setLow (by omega) _).below hb2).setLow (by omega) _, (hn2.mono (by simp; omega)).setLow (by omega) _⟩
        case cont =>
          rintro w' r1 s1 r2 s2 ⟨hx, hb, hn1, hn2⟩
          have hpo : pickO ops (m : Int) = some o := by
            unfold pickO
            rw [decide_eq_true (by omega : (0 : Int) ≤ (m : Int)), decide_eq_true hz2, Int.toNat_natCast]
            exact ho
          rw [hpo] at hnext
          have hOb := hO.below hb
          have hk : ∀ k, u5.ownBlock = some k → k < wr.heap.size + 1 := fun k e => by have := (hO.row.lt k e).2; omega
          have hm1 := (hn1.far hk).mono (n0 := w.heap.size) (by omega)
          have hm2 := (hn2.far hk).mono (n0 := w.heap.size) (by omega)
          have hws' : w.heap.size ≤ w'.heap.size := Nat.le_trans hws hb.size
          have hLl := pickL_len ops (pl.take i)
          rw [List.length_take] at hLl
          have q0 := cellAt (i := 0) hx rfl
          have q1 := cellAt (i := 1) hx rfl
          have q2 := cellAt (i := 2) hx rfl
          have q3 := cellAt (i := 3) hx rfl
          have q4 := cellAt (i := 4) hx rfl
          have q5 := cellAt (i := 5) hx rfl
          have q6 := cellAt (i := 6) hx rfl
          have q7 := cellAt (i := 7) hx rfl
          have q8 := cellAt (i := 8) hx rfl
          have q9 := cellAt (i := 9) hx rfl
          have q10 := cellAt (i := 10) hx rfl
          have q11 := cellAt (i := 11) hx rfl
          generalize pickL ops (pl.take i) = L at *
          go_wp2_with (at_builtin; go_loud (refine wpList_append_lies _ rfl _ _ 22 rfl w.heap.size 34 i0 z0 12 144 Go.Proofs.Try.underlying22 hti htz hts htb htc (by decide) u5 L.length (rowsC L us) rfl (hOb.row.alloc _) ⟨w'.heap.size, 0, none⟩ 1 1 (oprC o (.slice r1 o.2.2.2.2.1.length s1) (.slice r2 o.2.2.2.2.2.1.length s2)) rfl rfl (cells_new _ _ _ _ rfl) (by simp [Value.oneCell']) (by decide) (by unfold maxLen; omega) (by omega) (by simp; omega) _ rfl ?_); intro g cap W3 hown hgrow hat hlt3)
          go_roundw
          case rel =>
            have hOa := hOb.below ((Below.refl _ w').alloc (Nat.le_refl _) (.cells (oprV o (.slice r1 o.2.2.2.2.1.length s1) (.slice r2 o.2.2.2.2.2.1.length s2)) 34))
            have hp := OutAt.push hOa rfl hown hgrow (by
              rcases hat with h | h
              · exact .inl h.symm
              · exact .inr (by rw [h]; rfl)) (hm1.below ((Below.refl _ w').alloc (Nat.le_refl _) _)) (hm2.below ((Below.refl _ w').alloc (Nat.le_refl _) _))
            refine ⟨i + 1, _, by simp, by omega, ?_, by rw [hnext]; exact hp⟩
            exact ((hB.trans (hb.mono hws)).alloc hws' _).grown hgrow (by simp; omega) (fun k e => (hOb.row.lt k e).1)
          case measure => simp [intOf]; omega
      · have hno : pickO ops z = none := by
          unfold pickO
          by_cases h0 : 0 ≤ z
          · rw [decide_eq_true h0, decide_eq_false (fun h => hz1 ⟨h0, h⟩)]; rfl
          · rw [decide_eq_false h0]; rfl
        rw [hno] at hnext
        by_cases hzn : z < 0
        · go_wp2
          go_roundw
          case rel => exact ⟨i + 1, us, by simp, by omega, hB, by rw [hnext]; simpa using hO⟩
          case measure => simp [intOf]; omega
        · have hzl : (ops.length : Int) ≤ z := by omega
          go_wp2
          go_roundw
          case rel => exact ⟨i + 1, us, by simp, by omega, hB, by rw [hnext]; simpa using hO⟩
          case measure => simp [intOf]; omega
    · have hc : ¬ ((i : Int) < (pl.length : Int)) := by omega
      obtain rfl : i = pl.length := by omega
      rw [List.take_length] at hO
      go_wp2
      go_ret
      exact ⟨_, rfl, hB, us, hO⟩
end Go.WPick
