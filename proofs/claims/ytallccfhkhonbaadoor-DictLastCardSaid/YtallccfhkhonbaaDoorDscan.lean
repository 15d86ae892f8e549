/- Own text of this session: a part of the proof; no condition of its own. -/
import Derived.Test.YtallccfhkhonbaaDoorIter
import Derived.Test.YtallccfhkhonbaaDoorRound
set_option linter.unusedVariables false
set_option linter.unusedSimpArgs false
namespace Go.WIter
open Go Go.RowKit Go.Shelf Go.Abs Go.Inc
attribute [local go_sem] Oper.semAt_some

abbrev rowV (v : Val) : Array Value := #[.int .i64 v.1, .int .i64 v.2.1, .string v.2.2.1]
/-- What a round of dict.scan finds. -/
structure ScanI (w : World) (fr to : Val) (sl : Value) (xs : List Val) (pre : List (KAt xs)) (W : World) : Prop where
  b : Below w.heap.size w W
  l : Row W w.heap.size #[sl] 26
  f : Row W (w.heap.size + 1) (rowV fr) 25
  t : Row W (w.heap.size + 1 + 1) (rowV to) 25
  o : ∃ v, Row W (w.heap.size + 1 + 1 + 1) #[v] 26 ∧ W.ownsRow (w.heap.size + 1 + 1 + 1 + 1 + 1) 25 3 v ((pre.map (·.1)).flatMap (scanO fr to xs)).length (cellsV ((pre.map (·.1)).flatMap (scanO fr to xs)))
  s : Row W (w.heap.size + 1 + 1 + 1 + 1) #[sl] 26
theorem ownsRow_own {W W' : World} {base n : Nat} {e : TypeId} {size : Nat} {v : Value} {xs : List Value} {row : Option Nat} (h : W.ownsRow base e size v n xs) (hg : W.grownBy W' row) (hr : ∀ r, row = some r → ∃ o : Obj, W.heap[r]? = some o ∧ o.isCells = false) : W'.ownsRow base e size v n xs := by
  refine h.kept hg ?_
  rcases h.2 with ⟨rfl, _⟩ | ⟨g, cap, cur, rfl, _, hgb, _⟩
  · exact .inl rfl
  · refine .inr fun e' => ?_
    obtain ⟨o, ho, hc⟩ := hr g (by simpa [Value.ownBlock] using e'.symm)
    rw [hgb] at ho; cases ho; cases hc
theorem ownsRow_below {W W' : World} {base n : Nat} {e : TypeId} {size : Nat} {v : Value} {xs : List Value} (h : W.ownsRow base e size v n xs) (hb : Below W.heap.size W W') : W'.ownsRow base e size v n xs := by
  refine ⟨h.1, ?_⟩
  rcases h.2 with h0 | ⟨g, cap, cur, rfl, h1, hgb, h2⟩
  · exact .inl h0
  · exact .inr ⟨g, cap, cur, rfl, h1, (hb.block g (Array.getElem?_eq_some_iff.1 hgb).1).trans hgb, h2⟩
theorem ScanI.own {w : World} {fr to : Val} {sl : Value} {xs : List Val} {B : Nat} (hB : w.heap.size ≤ B) : OwnFrom B (ScanI w fr to sl xs) := fun s A C row hs hg hr => by
  have hd := fun r e => (hr r e).2
  obtain ⟨v, h1, h2⟩ := hs.o
  exact ⟨own_below (β := Unit) w (Nat.le_refl _) hB () A C row hs.b hg hr, hs.l.kept hg hd, hs.f.kept hg hd, hs.t.kept hg hd, ⟨v, h1.kept hg hd, ownsRow_own h2 hg hd⟩, hs.s.kept hg hd⟩
theorem ScanI.below {w : World} {fr to : Val} {sl : Value} {xs : List Val} {pre : List (KAt xs)} {W W' : World} (h : ScanI w fr to sl xs pre W) (hb : Below W.heap.size W W') : ScanI w fr to sl xs pre W' := by
  obtain ⟨v, h1, h2⟩ := h.o
  exact ⟨h.b.trans (hb.mono h.b.size), h.l.below hb, h.f.below hb, h.t.below hb, ⟨v, h1.below hb, ownsRow_below h2 hb⟩, h.s.below hb⟩

/-- What an append to an owned slice leaves as it lay. -/
theorem app_below {W w1 : World} {base : Nat} {e : TypeId} {size : Nat} {v : Value} {k : Nat} {xs : List Value} {tmp : Obj} (hrow : W.ownsRow base e size v k xs) (hb : base ≤ W.heap.size) (hg : (W.drew.alloc tmp).grownBy w1 v.ownBlock) : Below base W w1 ∧ KeepsOthers W w1 := by
  have h0 : Below base W W.drew := (Below.refl base W).drew
  have hrow' : W.drew.ownsRow base e size v k xs := hrow
  refine ⟨(h0.alloc (by exact hb) tmp).grown hg (by have : W.drew.heap.size = W.heap.size := rfl; simp [this]; omega) fun j ej => ?_, ((KeepsOthers.drew W).trans (KeepsOthers.alloc W.drew tmp)).trans (KeepsOthers.of_grownBy hg fun j o ej hj => ?_)⟩
  · rcases hrow.2 with ⟨rfl, _⟩ | ⟨g, cap, cur, rfl, hb', _, _⟩
    · simp [Value.ownBlock] at ej
    · obtain rfl : g = j := by simpa [Value.ownBlock] using ej
      exact hb'
  · rcases (hrow'.alloc tmp).2 with ⟨rfl, _⟩ | ⟨g, cap, cur, rfl, _, hgb, _⟩
    · simp [Value.ownBlock] at ej
    · obtain rfl : g = j := by simpa [Value.ownBlock] using ej
      rw [hgb] at hj; cases hj; rfl
theorem Row.under {W W' : World} {b n0 : Nat} {cs : Array Value} {t : TypeId} (h : Row W b cs t) (k : Below n0 W W') (hl : b < n0) : Row W' b cs t := (k.block b hl).trans h

theorem ownsRow_other {W : World} {base k B : Nat} {e : TypeId} {size : Nat} {v : Value} {xs : List Value} (h : W.ownsRow base e size v k xs) (hB : B < base) (u : Value) : (W.setCell ⟨B, 0, none⟩ u).ownsRow base e size v k xs := by
  refine h.kept (grownBy_setCell' W B u) ?_
  rcases h.2 with ⟨rfl, _⟩ | ⟨g, cap, cur, rfl, hg, _⟩
  · exact .inl rfl
  · exact .inr (fun e => by have : g = B := by simpa [Value.ownBlock] using e
                            omega)
/-- How a round of dict.scan ends that has listed a pair. -/
theorem scan_leaf {w W W4 w1 : World} {fr to : Val} {sl v v' : Value} {xs : List Val} {pre : List (KAt xs)} {x : KAt xs} {n' B : Nat} {cs : List Value} (hs5 : B = w.heap.size + 1 + 1 + 1 + 1 + 1) (hm : ScanI w fr to sl xs pre W4) (hk3 : Kept w.heap.size (w.heap.size + 1 + 1 + 1 + 1) W W4) (hk4 : KeepsFrom B W W4)
    (hb1 : Below (w.heap.size + 1 + 1 + 1 + 1 + 1) W4 w1) (hk1 : KeepsOthers W4 w1) (hv1 : Row w1 (w.heap.size + 1 + 1 + 1) #[v] 26) (hown : w1.ownsRow (w.heap.size + 1 + 1 + 1 + 1 + 1) 25 3 v' n' cs)
    (hn : n' = (((pre ++ [x]).map (·.1)).flatMap (scanO fr to xs)).length) (hc : cs = cellsV (((pre ++ [x]).map (·.1)).flatMap (scanO fr to xs))) :
    KeepsFrom B W (w1.setCell ⟨w.heap.size + 1 + 1 + 1, 0, none⟩ v') ∧ Kept w.heap.size (w.heap.size + 1 + 1 + 1 + 1) W (w1.setCell ⟨w.heap.size + 1 + 1 + 1, 0, none⟩ v') ∧ ScanI w fr to sl xs (pre ++ [x]) (w1.setCell ⟨w.heap.size + 1 + 1 + 1, 0, none⟩ v') := by
  subst hn hc
  have hb2 : Below w.heap.size W4 w1 := hb1.mono (by omega)
  refine ⟨(hk4.trans (hk1.from _)).trans ((KeepsOthers.setCell _ _ _).from _), hk3.trans ⟨hb2.setCell (p := ⟨w.heap.size + 1 + 1 + 1, 0, none⟩) (by simp; omega) _, (Below.heap_setCell _ _ _ _ (by simp)).trans (hb1.block _ (by omega))⟩, (hm.b.trans hb2).setCell (p := ⟨w.heap.size + 1 + 1 + 1, 0, none⟩) (by simp; omega) _,
    (hm.l.under hb1 (by omega)).other (by omega) _, (hm.f.under hb1 (by omega)).other (by omega) _, (hm.t.under hb1 (by omega)).other (by omega) _, ⟨v', hv1.set _, ownsRow_other hown (by omega) _⟩, (hm.s.under hb1 (by omega)).other (by omega) _⟩

/-- The widest fence. -/
def IsWide (F : Fence) : Prop := F = Fence.wide

/-- What is laid down has its cells. -/
theorem cells_new (W : World) (cs : Array Value) (t : TypeId) (j : Nat) (u : Value) (h : cs.toList[j]? = some u) : (W.alloc (.cells cs t)).cell? ((⟨W.heap.size, 0, none⟩ : Addr).add j) = some u := by
  have := (Row.new W cs t).cell (i := j) (v := u) (by simpa using h)
  unfold Addr.add
  split
  · rename_i e; subst e; exact this
  · simpa using this

set_option maxRecDepth 100000 in
set_option maxHeartbeats 4000000 in
theorem dict_scan_in (F : Fence) (n : Nat) (hF : IsWide F) (h4 : F.fn 25) (h5 : F.fn 33) (h6 : F.fn 43) (h7 : F.fn 34) (hro : F.round = none) (hn : 3 ≤ n)
    (xs : List Val) (fr to : Val) (hxl : xs.length ≤ 1000) (ad : Option Addr) (c : Nat) (w : World) (hL : SlAt w.heap.size w (.slice ad xs.length c) xs)
    (hcmp : ∀ a b W, Below w.heap.size w W → CallsIn F (n - 1 - 1 - 1) Go.Proofs.Tryd.prog 34 #[aggV a, aggV b] W fun e W' => e = .returned (.int .i64 (cmpV a b)) ∧ Below W.heap.size W W') :
    CallsIn F n Go.Proofs.Tryd.prog 25 #[.slice ad xs.length c, aggV fr, aggV to] w fun e w' => ∃ v, e = .returned v ∧ Below w.heap.size w w' ∧
      w'.ownsRow (w.heap.size + 1 + 1 + 1 + 1 + 1) 25 3 v ((kpairs 0 xs).flatMap (scanO fr to xs)).length (cellsV ((kpairs 0 xs).flatMap (scanO fr to xs))) := by
  have h1 : 1 ≤ n := by omega
  refine callsIn_of_wp_marks Go.Proofs.Tryd.func25 rfl h4 ?_ hro
  simp only [Go.Proofs.Tryd.ntmps25, List.size_toArray, List.length_cons, List.length_nil, Nat.reduceAdd, Nat.reduceSub, Array.replicate_succ, Array.replicate_zero, List.push_toArray, List.append_toArray, List.nil_append, List.cons_append]
  gi_wp2_with (gi_at_call 33; refine (keys_in F (n - 1) h5 hro _ xs _ _ rfl _).mono ?_; rintro e w' ⟨rfl, rfl⟩)
  generalize hA1 : w.alloc (.cells #[.slice ad xs.length c] 26) = A1
  generalize hA2 : A1.alloc (.cells (rowV fr) 25) = A2
  generalize hA3 : A2.alloc (.cells (rowV to) 25) = A3
  generalize hA4 : A3.alloc (.cells #[.slice none 0 0] 26) = A4
  generalize hA5 : A4.alloc (.cells #[.slice ad xs.length c] 26) = A5
  have s1 : A1.heap.size = w.heap.size + 1 := by rw [← hA1]; simp
  have s2 : A2.heap.size = w.heap.size + 1 + 1 := by rw [← hA2]; simp [s1]
  have s3 : A3.heap.size = w.heap.size + 1 + 1 + 1 := by rw [← hA3]; simp [s2]
  have s4 : A4.heap.size = w.heap.size + 1 + 1 + 1 + 1 := by rw [← hA4]; simp [s3]
  have s5 : A5.heap.size = w.heap.size + 1 + 1 + 1 + 1 + 1 := by rw [← hA5]; simp [s4]
  have hb4 : Below w.heap.size w A5 := by
    rw [← hA5, ← hA4, ← hA3, ← hA2, ← hA1]
    exact (((((Below.refl _ w).alloc (Nat.le_refl _) _).alloc (by simp) _).alloc (by simp; omega) _).alloc (by simp; omega) _).alloc (by simp; omega) _
  have r0 : Row A5 w.heap.size #[.slice ad xs.length c] 26 := by
    rw [← hA5, ← hA4, ← hA3, ← hA2, ← hA1]; exact ((((Row.new w _ _).alloc _).alloc _).alloc _).alloc _
  have r1 : Row A5 (w.heap.size + 1) (rowV fr) 25 := by
    rw [← hA5, ← hA4, ← hA3, ← hA2, ← s1]; exact (((Row.new A1 _ _).alloc _).alloc _).alloc _
  have r2 : Row A5 (w.heap.size + 1 + 1) (rowV to) 25 := by
    rw [← hA5, ← hA4, ← hA3, ← s2]; exact ((Row.new A2 _ _).alloc _).alloc _
  have r3 : Row A5 (w.heap.size + 1 + 1 + 1) #[.slice none 0 0] 26 := by
    rw [← hA5, ← hA4, ← s3]; exact (Row.new A3 _ _).alloc _
  have r4 : Row A5 (w.heap.size + 1 + 1 + 1 + 1) #[.slice ad xs.length c] 26 := by
    rw [← hA5, ← s4]; exact Row.new A4 _ _
  clear hA1 hA2 hA3 hA4 hA5 s1 s2 s3 s4
  have hinf : (Go.Proofs.Tryd.prog.info? 25).map (fun i => (i.size, i.zero.map (·.cells.size), i.bytes)) = some (3, some 3, 32) := by kernel_rfl
  obtain ⟨i0, hi0⟩ : ∃ i0, Go.Proofs.Tryd.prog.info? 25 = some i0 := by
    cases h : Go.Proofs.Tryd.prog.info? 25 with
    | none => rw [h] at hinf; cases hinf
    | some i0 => exact ⟨i0, rfl⟩
  rw [hi0] at hinf
  simp only [Option.map_some, Option.some.injEq, Prod.mk.injEq] at hinf
  obtain ⟨hz1, hz2, hz3⟩ := hinf
  obtain ⟨z0, hz0⟩ : ∃ z0, i0.zero = some z0 := by
    cases h : i0.zero with
    | none => rw [h] at hz2; cases hz2
    | some z0 => exact ⟨z0, rfl⟩
  rw [hz0] at hz2
  replace hz2 : z0.cells.size = 3 := by simpa using hz2
  refine wpIn_rangeFunc_ownH (α := KAt xs) hro h1 (gf := 43) (lb := #[.pointer (some ⟨w.heap.size + 1 + 1 + 1 + 1, 0, none⟩)]) rfl h6 (Go.Proofs.enters_of Go.Proofs.Tryd.func43 (by kernel_rfl) rfl)
    (Kp := Kept w.heap.size (w.heap.size + 1 + 1 + 1 + 1))
    (keys_stops_at F (n - 1) h6 hro (by omega) (w.heap.size + 1 + 1 + 1 + 1) w.heap.size _ (fun _ _ h => h) _ xs hxl A5 (by omega) (by omega) (r4.cell rfl) (hL.below hb4)) Kept.trans (Kept.put (by omega) (by omega)) (Below.refl _ _) (fun _ => rfl)
    (ScanI w fr to (.slice ad xs.length c) xs) (fun _ _ _ => False) (ScanI.own (by omega)) (fun _ _ _ _ _ h _ _ => h) ⟨hb4, r0, r1, r2, ⟨_, r3, World.ownsRow_nil _ _ _ _⟩, r4⟩
    (fun x a' W => ∃ b, Row W b (rowV x.1.2) 25 ∧ a' = { tmps := #[.slice ad xs.length c, aggV fr, aggV to, .pointer (some ⟨w.heap.size, 0, none⟩), .pointer (some ⟨w.heap.size + 1, 0, none⟩), .pointer (some ⟨w.heap.size + 1 + 1, 0, none⟩), .slice none 0 0, .pointer (some ⟨w.heap.size + 1 + 1 + 1, 0, none⟩), .int .i64 (x.1.1 : Nat), .pointer (some ⟨b, 0, none⟩), .slice ad xs.length c, .func (.func 43) #[] #[.pointer (some ⟨w.heap.size + 1 + 1 + 1 + 1, 0, none⟩)], .int .i64 (x.1.1 : Nat), aggV x.1.2, undef, undef, undef, undef, undef, undef, undef, undef, undef, undef, undef, undef, undef, undef, undef, undef, undef, undef, undef, undef], defers := [] })
    (fun x a' s A B row hs hg hr => by
      obtain ⟨b, h, e⟩ := hs
      exact ⟨b, h.kept hg (fun r e => (hr r e).2), e⟩)
    ?assign ?body ?done ?stop
  case assign =>
    rintro l pre ⟨⟨xi, xk⟩, hxm⟩ W K hi hK
    dsimp only [encP, aggV]
    gi_wp2
    have hbW : Below W.heap.size W (W.alloc (.cells (rowV xk) 25)) := (Below.refl _ W).alloc (Nat.le_refl _) _
    exact hK _ _ (keepsFrom_below hbW) (Kept.of_below hbW hi.b.size hi.s.lt) (hi.below hbW) ⟨_, Row.new W _ _, rfl⟩
  case body =>
    rintro l pre ⟨⟨xi, xk⟩, hxm⟩ a' W hl _ hi ⟨b, hb, rfl⟩ hlen
    dsimp only [aggV]
    obtain ⟨hin, hxk⟩ := kpairs_mem xs.length 0 (by simp) (xi, xk) hxm
    have c0 := hi.f.cell (i := 0) (v := .int .i64 fr.1) rfl
    have c1 := hi.f.cell (i := 1) (v := .int .i64 fr.2.1) rfl
    have c2 := hi.f.cell (i := 2) (v := .string fr.2.2.1) rfl
    have d0 := hb.cell (i := 0) (v := .int .i64 xk.1) rfl
    have d1 := hb.cell (i := 1) (v := .int .i64 xk.2.1) rfl
    have d2 := hb.cell (i := 2) (v := .string xk.2.2.1) rfl
    gi_wp2
    refine ⟨fun _ => by omega, ((hcmp xk fr W hi.b).inRound l).mono ?_⟩
    rintro e W3 ⟨rfl, hbl⟩
    have hj := hi.below hbl
    have hb3 := hb.below hbl
    clear c0 c1 c2 d0 d1 d2
    have c0 := hj.t.cell (i := 0) (v := .int .i64 to.1) rfl
    have c1 := hj.t.cell (i := 1) (v := .int .i64 to.2.1) rfl
    have c2 := hj.t.cell (i := 2) (v := .string to.2.2.1) rfl
    have d0 := hb3.cell (i := 0) (v := .int .i64 xk.1) rfl
    have d1 := hb3.cell (i := 1) (v := .int .i64 xk.2.1) rfl
    have d2 := hb3.cell (i := 2) (v := .string xk.2.2.1) rfl
    have hk3 : Kept w.heap.size (w.heap.size + 1 + 1 + 1 + 1) W W3 := Kept.of_below hbl hi.b.size hi.s.lt
    have hk4 : KeepsFrom A5.heap.size W W3 := keepsFrom_below hbl
    gi_wp2
    · have hge : 0 ≤ cmpV xk fr := by assumption
      refine ⟨fun _ => by omega, ((hcmp xk to W3 hj.b).inRound l).mono ?_⟩
      rintro e W4 ⟨rfl, hbl4⟩
      have hm := hj.below hbl4
      have hb4' := hb3.below hbl4
      have hk3' := hk3.trans (Kept.of_below hbl4 hj.b.size hj.s.lt)
      have hk4' := hk4.trans (keepsFrom_below (B := A5.heap.size) hbl4)
      clear c0 c1 c2 d0 d1 d2
      obtain ⟨v, hv, hrow⟩ := hm.o
      have c0 := hm.l.cell (i := 0) (v := .slice ad xs.length c) rfl
      have c1 := hv.cell (i := 0) (v := v) rfl
      have d0 := hb4'.cell (i := 0) (v := .int .i64 xk.1) rfl
      have d1 := hb4'.cell (i := 1) (v := .int .i64 xk.2.1) rfl
      have d2 := hb4'.cell (i := 2) (v := .string xk.2.2.1) rfl
      obtain ⟨ad', c', e', hcell⟩ := hL.below hm.b
      cases e'
      obtain ⟨u, hu⟩ : ∃ u, xs[xi + 1]? = some u := ⟨_, List.getElem?_eq_getElem hin⟩
      obtain ⟨bb, off, rfl, hbn, g0, g1, g2⟩ := hcell _ u hu
      have hw1 : IntKind.i64.wrap ((xi : Int) + 1) = (xi : Int) + 1 := by rw [IntKind.wrap_i64]; omega
      have hlt : (xi : Int) + 1 < (xs.length : Int) := by omega
      have h0i : (0 : Int) ≤ (xi : Int) + 1 := by omega
      have htn : ((xi : Int) + 1).toNat = xi + 1 := by omega
      gi_wp2
      · have hle : cmpV xk to ≤ 0 := by assumption
        have hs : scanO fr to xs (xi, xk) = [xk, u] := by
          unfold scanO
          rw [decide_eq_false (by simpa using hge), decide_eq_false (by simpa using hle)]
          simp [List.getD_eq_getElem?_getD, hu]
        have hlen2 := scan_len fr to xs (pre.map (·.1))
        have hlen3 := kpairs_len xs.length 0 xs (Nat.le_refl _)
        rw [List.length_map] at hlen2
        have hq : ¬ LetsOut (Exit.inBlock 1 (ownPostG A5.heap.size (Kept w.heap.size (w.heap.size + 1 + 1 + 1 + 1)) (ScanI w fr to (.slice (some ⟨bb, off, none⟩) xs.length c) xs) (fun _ _ _ => False) (pre ++ [⟨(xi, xk), hxm⟩]) W)) := by
          rintro ⟨a, w, h⟩; exact h
        unfold IsWide at hF
        subst hF
        obtain ⟨out, hout⟩ : ∃ out, (pre.map (·.1)).flatMap (scanO fr to xs) = out := ⟨_, rfl⟩
        rw [hout] at hrow hlen2
        clear hcell
        have hbase : w.heap.size + 1 + 1 + 1 + 1 + 1 ≤ W4.heap.size := hm.s.lt
        have hal : ∀ o, (W4.alloc o).cell? ⟨w.heap.size + 1 + 1 + 1, 0, none⟩ = some v := fun o => (hv.alloc o).cell (i := 0) (v := v) rfl
        refine region_round (by kernel_rfl) (by simp) hq ?_
        refine wpAny_take (i := 3) (v := ?_) rfl (by kernel_rfl) (by kernel_rfl) (by kernel_rfl) (fun _ _ _ h => h) (Or.inl ⟨by rfl, ?_⟩) ?_
        rotate_left
        · intro w; go_simp <;> with_reducible rfl
        refine wpAny_take (i := 4) (v := ?_) rfl (by kernel_rfl) (by kernel_rfl) (by kernel_rfl) (fun _ _ _ h => h) (Or.inl ⟨by rfl, ?_⟩) ?_
        rotate_left
        · intro w; go_simp <;> with_reducible rfl
        refine wpAny_ready (rs := [0, 1, 2]) (by kernel_rfl) (by simp) ?_
        refine AllReady.cons rfl (fun K hK => ?_) ?_
        · go_simp
          refine hK _ _ ?_; clear hK K
          refine wpAny_ready (rs := [1, 2]) (by kernel_rfl) (by simp) ?_
          refine AllReady.cons rfl (fun K hK => ?_) ?_
          · go_simp
            refine hK _ _ ?_; clear hK K
            refine wpAny_ready (rs := [2]) (by kernel_rfl) (by simp) ?_
            refine AllReady.cons rfl (fun K hK => ?_) ?_
            · go_simp
              refine hK _ _ ?_; clear hK K
              refine wpAny_take (i := 5) (v := ?_) rfl (by kernel_rfl) (by kernel_rfl) (by kernel_rfl) (fun _ _ _ h => h) (Or.inl ⟨by rfl, ?_⟩) ?_
              rotate_left
              · intro w; go_simp <;> with_reducible rfl
              refine wpAny_ready (rs := [6]) (by kernel_rfl) (by simp) ?_
              refine AllReady.cons rfl (fun K hK => ?_) ?_
              · go_simp
                refine hK _ _ ?_; clear hK K
                refine wpAny_ready (rs := [7]) (by kernel_rfl) (by simp) ?_
                refine AllReady.cons rfl (fun K hK => ?_) ?_
                · go_simp
                  refine hK _ _ ?_; clear hK K
                  refine wpAny_ready (rs := [8]) (by kernel_rfl) (by simp) ?_
                  refine AllReady.cons rfl (fun K hK => ?_) ?_
                  · (refine step_append_own rfl _ _ 26 rfl (w.heap.size + 1 + 1 + 1 + 1 + 1) 25 i0 z0 3 32 Go.Proofs.Tryd.underlying26 hi0 hz0 hz1 hz3 hz2 (by decide) v _ _ rfl (World.ownsRow.alloc (show W4.drew.ownsRow _ _ _ _ _ _ from hrow) _) ⟨W4.heap.size, 0, none⟩ 2 2 (cellsV [xk, u]) rfl rfl (cells_new W4.drew _ _) (by simp [cellsV, Value.oneCell']) (by unfold maxLen; omega) (by omega) (by have := hm.b.size; have := hm.s.lt; simp; omega) ?_; intro v' w1 hown' hgrow; obtain ⟨g', cap', rfl⟩ := ownsRow_succ hown'; obtain ⟨hb1, hk1⟩ := app_below hrow hbase hgrow; have hv1 := hv.under hb1 (by omega); have e1 := hv1.cell (i := 0) (v := v) rfl; have e2 := hv1.frozen (i := 0)); try go_simp
                    refine hK _ _ ?_; clear hK K
                    refine wpAny_ready (rs := [9]) (by kernel_rfl) (by simp) ?_
                    refine AllReady.cons rfl (fun K hK => ?_) ?_
                    · go_simp
                      refine hK _ _ ?_; clear hK K
                      refine wpAny_done (by kernel_rfl) ?_ _
                      have hn2 : out.length + 2 = (((pre ++ [(⟨(xi, xk), hxm⟩ : KAt xs)]).map (·.1)).flatMap (scanO fr to xs)).length := by rw [List.map_append, List.flatMap_append, hout]; simp [hs]
                      have hc2 : cellsV out ++ cellsV [xk, u] = cellsV (((pre ++ [(⟨(xi, xk), hxm⟩ : KAt xs)]).map (·.1)).flatMap (scanO fr to xs)) := by rw [List.map_append, List.flatMap_append, cellsV_append, hout]; simp [hs]
                      exact scan_leaf s5 hm hk3' hk4' hb1 hk1 hv1 hown' hn2 hc2
                    exact AllReady.nil
                  exact AllReady.nil
                exact AllReady.nil
              exact AllReady.nil
            exact AllReady.nil
          refine AllReady.cons rfl (fun K hK => ?_) ?_
          · go_simp
            refine hK _ _ ?_; clear hK K
            refine wpAny_take (i := 5) (v := ?_) rfl (by kernel_rfl) (by kernel_rfl) (by kernel_rfl) (fun _ _ _ h => h) (Or.inl ⟨by rfl, ?_⟩) ?_
            rotate_left
            · intro w; go_simp <;> with_reducible rfl
            refine wpAny_ready (rs := [1, 6]) (by kernel_rfl) (by simp) ?_
            refine AllReady.cons rfl (fun K hK => ?_) ?_
            · go_simp
              refine hK _ _ ?_; clear hK K
              refine wpAny_ready (rs := [6]) (by kernel_rfl) (by simp) ?_
              refine AllReady.cons rfl (fun K hK => ?_) ?_
              · go_simp
                refine hK _ _ ?_; clear hK K
                refine wpAny_ready (rs := [7]) (by kernel_rfl) (by simp) ?_
                refine AllReady.cons rfl (fun K hK => ?_) ?_
                · go_simp
                  refine hK _ _ ?_; clear hK K
                  refine wpAny_ready (rs := [8]) (by kernel_rfl) (by simp) ?_
                  refine AllReady.cons rfl (fun K hK => ?_) ?_
                  · (refine step_append_own rfl _ _ 26 rfl (w.heap.size + 1 + 1 + 1 + 1 + 1) 25 i0 z0 3 32 Go.Proofs.Tryd.underlying26 hi0 hz0 hz1 hz3 hz2 (by decide) v _ _ rfl (World.ownsRow.alloc (show W4.drew.ownsRow _ _ _ _ _ _ from hrow) _) ⟨W4.heap.size, 0, none⟩ 2 2 (cellsV [xk, u]) rfl rfl (cells_new W4.drew _ _) (by simp [cellsV, Value.oneCell']) (by unfold maxLen; omega) (by omega) (by have := hm.b.size; have := hm.s.lt; simp; omega) ?_; intro v' w1 hown' hgrow; obtain ⟨g', cap', rfl⟩ := ownsRow_succ hown'; obtain ⟨hb1, hk1⟩ := app_below hrow hbase hgrow; have hv1 := hv.under hb1 (by omega); have e1 := hv1.cell (i := 0) (v := v) rfl; have e2 := hv1.frozen (i := 0)); try go_simp
                    refine hK _ _ ?_; clear hK K
                    refine wpAny_ready (rs := [9]) (by kernel_rfl) (by simp) ?_
                    refine AllReady.cons rfl (fun K hK => ?_) ?_
                    · go_simp
                      refine hK _ _ ?_; clear hK K
                      refine wpAny_done (by kernel_rfl) ?_ _
                      have hn2 : out.length + 2 = (((pre ++ [(⟨(xi, xk), hxm⟩ : KAt xs)]).map (·.1)).flatMap (scanO fr to xs)).length := by rw [List.map_append, List.flatMap_append, hout]; simp [hs]
                      have hc2 : cellsV out ++ cellsV [xk, u] = cellsV (((pre ++ [(⟨(xi, xk), hxm⟩ : KAt xs)]).map (·.1)).flatMap (scanO fr to xs)) := by rw [List.map_append, List.flatMap_append, cellsV_append, hout]; simp [hs]
                      exact scan_leaf s5 hm hk3' hk4' hb1 hk1 hv1 hown' hn2 hc2
                    exact AllReady.nil
                  exact AllReady.nil
                exact AllReady.nil
              exact AllReady.nil
            refine AllReady.cons rfl (fun K hK => ?_) ?_
            · go_simp
              refine hK _ _ ?_; clear hK K
              refine wpAny_ready (rs := [1]) (by kernel_rfl) (by simp) ?_
              refine AllReady.cons rfl (fun K hK => ?_) ?_
              · go_simp
                refine hK _ _ ?_; clear hK K
                refine wpAny_ready (rs := [7]) (by kernel_rfl) (by simp) ?_
                refine AllReady.cons rfl (fun K hK => ?_) ?_
                · go_simp
                  refine hK _ _ ?_; clear hK K
                  refine wpAny_ready (rs := [8]) (by kernel_rfl) (by simp) ?_
                  refine AllReady.cons rfl (fun K hK => ?_) ?_
                  · (refine step_append_own rfl _ _ 26 rfl (w.heap.size + 1 + 1 + 1 + 1 + 1) 25 i0 z0 3 32 Go.Proofs.Tryd.underlying26 hi0 hz0 hz1 hz3 hz2 (by decide) v _ _ rfl (World.ownsRow.alloc (show W4.drew.ownsRow _ _ _ _ _ _ from hrow) _) ⟨W4.heap.size, 0, none⟩ 2 2 (cellsV [xk, u]) rfl rfl (cells_new W4.drew _ _) (by simp [cellsV, Value.oneCell']) (by unfold maxLen; omega) (by omega) (by have := hm.b.size; have := hm.s.lt; simp; omega) ?_; intro v' w1 hown' hgrow; obtain ⟨g', cap', rfl⟩ := ownsRow_succ hown'; obtain ⟨hb1, hk1⟩ := app_below hrow hbase hgrow; have hv1 := hv.under hb1 (by omega); have e1 := hv1.cell (i := 0) (v := v) rfl; have e2 := hv1.frozen (i := 0)); try go_simp
                    refine hK _ _ ?_; clear hK K
                    refine wpAny_ready (rs := [9]) (by kernel_rfl) (by simp) ?_
                    refine AllReady.cons rfl (fun K hK => ?_) ?_
                    · go_simp
                      refine hK _ _ ?_; clear hK K
                      refine wpAny_done (by kernel_rfl) ?_ _
                      have hn2 : out.length + 2 = (((pre ++ [(⟨(xi, xk), hxm⟩ : KAt xs)]).map (·.1)).flatMap (scanO fr to xs)).length := by rw [List.map_append, List.flatMap_append, hout]; simp [hs]
                      have hc2 : cellsV out ++ cellsV [xk, u] = cellsV (((pre ++ [(⟨(xi, xk), hxm⟩ : KAt xs)]).map (·.1)).flatMap (scanO fr to xs)) := by rw [List.map_append, List.flatMap_append, cellsV_append, hout]; simp [hs]
                      exact scan_leaf s5 hm hk3' hk4' hb1 hk1 hv1 hown' hn2 hc2
                    exact AllReady.nil
                  exact AllReady.nil
                exact AllReady.nil
              exact AllReady.nil
            exact AllReady.nil
          exact AllReady.nil
        refine AllReady.cons rfl (fun K hK => ?_) ?_
        · go_simp
          refine hK _ _ ?_; clear hK K
          refine wpAny_ready (rs := [0, 2]) (by kernel_rfl) (by simp) ?_
          refine AllReady.cons rfl (fun K hK => ?_) ?_
          · go_simp
            refine hK _ _ ?_; clear hK K
            refine wpAny_ready (rs := [2]) (by kernel_rfl) (by simp) ?_
            refine AllReady.cons rfl (fun K hK => ?_) ?_
            · go_simp
              refine hK _ _ ?_; clear hK K
              refine wpAny_take (i := 5) (v := ?_) rfl (by kernel_rfl) (by kernel_rfl) (by kernel_rfl) (fun _ _ _ h => h) (Or.inl ⟨by rfl, ?_⟩) ?_
              rotate_left
              · intro w; go_simp <;> with_reducible rfl
              refine wpAny_ready (rs := [6]) (by kernel_rfl) (by simp) ?_
              refine AllReady.cons rfl (fun K hK => ?_) ?_
              · go_simp
                refine hK _ _ ?_; clear hK K
                refine wpAny_ready (rs := [7]) (by kernel_rfl) (by simp) ?_
                refine AllReady.cons rfl (fun K hK => ?_) ?_
                · go_simp
                  refine hK _ _ ?_; clear hK K
                  refine wpAny_ready (rs := [8]) (by kernel_rfl) (by simp) ?_
                  refine AllReady.cons rfl (fun K hK => ?_) ?_
                  · (refine step_append_own rfl _ _ 26 rfl (w.heap.size + 1 + 1 + 1 + 1 + 1) 25 i0 z0 3 32 Go.Proofs.Tryd.underlying26 hi0 hz0 hz1 hz3 hz2 (by decide) v _ _ rfl (World.ownsRow.alloc (show W4.drew.ownsRow _ _ _ _ _ _ from hrow) _) ⟨W4.heap.size, 0, none⟩ 2 2 (cellsV [xk, u]) rfl rfl (cells_new W4.drew _ _) (by simp [cellsV, Value.oneCell']) (by unfold maxLen; omega) (by omega) (by have := hm.b.size; have := hm.s.lt; simp; omega) ?_; intro v' w1 hown' hgrow; obtain ⟨g', cap', rfl⟩ := ownsRow_succ hown'; obtain ⟨hb1, hk1⟩ := app_below hrow hbase hgrow; have hv1 := hv.under hb1 (by omega); have e1 := hv1.cell (i := 0) (v := v) rfl; have e2 := hv1.frozen (i := 0)); try go_simp
                    refine hK _ _ ?_; clear hK K
                    refine wpAny_ready (rs := [9]) (by kernel_rfl) (by simp) ?_
                    refine AllReady.cons rfl (fun K hK => ?_) ?_
                    · go_simp
                      refine hK _ _ ?_; clear hK K
                      refine wpAny_done (by kernel_rfl) ?_ _
                      have hn2 : out.length + 2 = (((pre ++ [(⟨(xi, xk), hxm⟩ : KAt xs)]).map (·.1)).flatMap (scanO fr to xs)).length := by rw [List.map_append, List.flatMap_append, hout]; simp [hs]
                      have hc2 : cellsV out ++ cellsV [xk, u] = cellsV (((pre ++ [(⟨(xi, xk), hxm⟩ : KAt xs)]).map (·.1)).flatMap (scanO fr to xs)) := by rw [List.map_append, List.flatMap_append, cellsV_append, hout]; simp [hs]
                      exact scan_leaf s5 hm hk3' hk4' hb1 hk1 hv1 hown' hn2 hc2
                    exact AllReady.nil
                  exact AllReady.nil
                exact AllReady.nil
              exact AllReady.nil
            exact AllReady.nil
          refine AllReady.cons rfl (fun K hK => ?_) ?_
          · go_simp
            refine hK _ _ ?_; clear hK K
            refine wpAny_take (i := 5) (v := ?_) rfl (by kernel_rfl) (by kernel_rfl) (by kernel_rfl) (fun _ _ _ h => h) (Or.inl ⟨by rfl, ?_⟩) ?_
            rotate_left
            · intro w; go_simp <;> with_reducible rfl
            refine wpAny_ready (rs := [0, 6]) (by kernel_rfl) (by simp) ?_
            refine AllReady.cons rfl (fun K hK => ?_) ?_
            · go_simp
              refine hK _ _ ?_; clear hK K
              refine wpAny_ready (rs := [6]) (by kernel_rfl) (by simp) ?_
              refine AllReady.cons rfl (fun K hK => ?_) ?_
              · go_simp
                refine hK _ _ ?_; clear hK K
                refine wpAny_ready (rs := [7]) (by kernel_rfl) (by simp) ?_
                refine AllReady.cons rfl (fun K hK => ?_) ?_
                · go_simp
                  refine hK _ _ ?_; clear hK K
                  refine wpAny_ready (rs := [8]) (by kernel_rfl) (by simp) ?_
                  refine AllReady.cons rfl (fun K hK => ?_) ?_
                  · (refine step_append_own rfl _ _ 26 rfl (w.heap.size + 1 + 1 + 1 + 1 + 1) 25 i0 z0 3 32 Go.Proofs.Tryd.underlying26 hi0 hz0 hz1 hz3 hz2 (by decide) v _ _ rfl (World.ownsRow.alloc (show W4.drew.ownsRow _ _ _ _ _ _ from hrow) _) ⟨W4.heap.size, 0, none⟩ 2 2 (cellsV [xk, u]) rfl rfl (cells_new W4.drew _ _) (by simp [cellsV, Value.oneCell']) (by unfold maxLen; omega) (by omega) (by have := hm.b.size; have := hm.s.lt; simp; omega) ?_; intro v' w1 hown' hgrow; obtain ⟨g', cap', rfl⟩ := ownsRow_succ hown'; obtain ⟨hb1, hk1⟩ := app_below hrow hbase hgrow; have hv1 := hv.under hb1 (by omega); have e1 := hv1.cell (i := 0) (v := v) rfl; have e2 := hv1.frozen (i := 0)); try go_simp
                    refine hK _ _ ?_; clear hK K
                    refine wpAny_ready (rs := [9]) (by kernel_rfl) (by simp) ?_
                    refine AllReady.cons rfl (fun K hK => ?_) ?_
                    · go_simp
                      refine hK _ _ ?_; clear hK K
                      refine wpAny_done (by kernel_rfl) ?_ _
                      have hn2 : out.length + 2 = (((pre ++ [(⟨(xi, xk), hxm⟩ : KAt xs)]).map (·.1)).flatMap (scanO fr to xs)).length := by rw [List.map_append, List.flatMap_append, hout]; simp [hs]
                      have hc2 : cellsV out ++ cellsV [xk, u] = cellsV (((pre ++ [(⟨(xi, xk), hxm⟩ : KAt xs)]).map (·.1)).flatMap (scanO fr to xs)) := by rw [List.map_append, List.flatMap_append, cellsV_append, hout]; simp [hs]
                      exact scan_leaf s5 hm hk3' hk4' hb1 hk1 hv1 hown' hn2 hc2
                    exact AllReady.nil
                  exact AllReady.nil
                exact AllReady.nil
              exact AllReady.nil
            refine AllReady.cons rfl (fun K hK => ?_) ?_
            · go_simp
              refine hK _ _ ?_; clear hK K
              refine wpAny_ready (rs := [0, 7]) (by kernel_rfl) (by simp) ?_
              refine AllReady.cons rfl (fun K hK => ?_) ?_
              · go_simp
                refine hK _ _ ?_; clear hK K
                refine wpAny_ready (rs := [7]) (by kernel_rfl) (by simp) ?_
                refine AllReady.cons rfl (fun K hK => ?_) ?_
                · go_simp
                  refine hK _ _ ?_; clear hK K
                  refine wpAny_ready (rs := [8]) (by kernel_rfl) (by simp) ?_
                  refine AllReady.cons rfl (fun K hK => ?_) ?_
                  · (refine step_append_own rfl _ _ 26 rfl (w.heap.size + 1 + 1 + 1 + 1 + 1) 25 i0 z0 3 32 Go.Proofs.Tryd.underlying26 hi0 hz0 hz1 hz3 hz2 (by decide) v _ _ rfl (World.ownsRow.alloc (show W4.drew.ownsRow _ _ _ _ _ _ from hrow) _) ⟨W4.heap.size, 0, none⟩ 2 2 (cellsV [xk, u]) rfl rfl (cells_new W4.drew _ _) (by simp [cellsV, Value.oneCell']) (by unfold maxLen; omega) (by omega) (by have := hm.b.size; have := hm.s.lt; simp; omega) ?_; intro v' w1 hown' hgrow; obtain ⟨g', cap', rfl⟩ := ownsRow_succ hown'; obtain ⟨hb1, hk1⟩ := app_below hrow hbase hgrow; have hv1 := hv.under hb1 (by omega); have e1 := hv1.cell (i := 0) (v := v) rfl; have e2 := hv1.frozen (i := 0)); try go_simp
                    refine hK _ _ ?_; clear hK K
                    refine wpAny_ready (rs := [9]) (by kernel_rfl) (by simp) ?_
                    refine AllReady.cons rfl (fun K hK => ?_) ?_
                    · go_simp
                      refine hK _ _ ?_; clear hK K
                      refine wpAny_done (by kernel_rfl) ?_ _
                      have hn2 : out.length + 2 = (((pre ++ [(⟨(xi, xk), hxm⟩ : KAt xs)]).map (·.1)).flatMap (scanO fr to xs)).length := by rw [List.map_append, List.flatMap_append, hout]; simp [hs]
                      have hc2 : cellsV out ++ cellsV [xk, u] = cellsV (((pre ++ [(⟨(xi, xk), hxm⟩ : KAt xs)]).map (·.1)).flatMap (scanO fr to xs)) := by rw [List.map_append, List.flatMap_append, cellsV_append, hout]; simp [hs]
                      exact scan_leaf s5 hm hk3' hk4' hb1 hk1 hv1 hown' hn2 hc2
                    exact AllReady.nil
                  exact AllReady.nil
                exact AllReady.nil
              refine AllReady.cons rfl (fun K hK => ?_) ?_
              · go_simp
                refine hK _ _ ?_; clear hK K
                refine wpAny_ready (rs := [0]) (by kernel_rfl) (by simp) ?_
                refine AllReady.cons rfl (fun K hK => ?_) ?_
                · go_simp
                  refine hK _ _ ?_; clear hK K
                  refine wpAny_ready (rs := [8]) (by kernel_rfl) (by simp) ?_
                  refine AllReady.cons rfl (fun K hK => ?_) ?_
                  · (refine step_append_own rfl _ _ 26 rfl (w.heap.size + 1 + 1 + 1 + 1 + 1) 25 i0 z0 3 32 Go.Proofs.Tryd.underlying26 hi0 hz0 hz1 hz3 hz2 (by decide) v _ _ rfl (World.ownsRow.alloc (show W4.drew.ownsRow _ _ _ _ _ _ from hrow) _) ⟨W4.heap.size, 0, none⟩ 2 2 (cellsV [xk, u]) rfl rfl (cells_new W4.drew _ _) (by simp [cellsV, Value.oneCell']) (by unfold maxLen; omega) (by omega) (by have := hm.b.size; have := hm.s.lt; simp; omega) ?_; intro v' w1 hown' hgrow; obtain ⟨g', cap', rfl⟩ := ownsRow_succ hown'; obtain ⟨hb1, hk1⟩ := app_below hrow hbase hgrow; have hv1 := hv.under hb1 (by omega); have e1 := hv1.cell (i := 0) (v := v) rfl; have e2 := hv1.frozen (i := 0)); try go_simp
                    refine hK _ _ ?_; clear hK K
                    refine wpAny_ready (rs := [9]) (by kernel_rfl) (by simp) ?_
                    refine AllReady.cons rfl (fun K hK => ?_) ?_
                    · go_simp
                      refine hK _ _ ?_; clear hK K
                      refine wpAny_done (by kernel_rfl) ?_ _
                      have hn2 : out.length + 2 = (((pre ++ [(⟨(xi, xk), hxm⟩ : KAt xs)]).map (·.1)).flatMap (scanO fr to xs)).length := by rw [List.map_append, List.flatMap_append, hout]; simp [hs]
                      have hc2 : cellsV out ++ cellsV [xk, u] = cellsV (((pre ++ [(⟨(xi, xk), hxm⟩ : KAt xs)]).map (·.1)).flatMap (scanO fr to xs)) := by rw [List.map_append, List.flatMap_append, cellsV_append, hout]; simp [hs]
                      exact scan_leaf s5 hm hk3' hk4' hb1 hk1 hv1 hown' hn2 hc2
                    exact AllReady.nil
                  exact AllReady.nil
                exact AllReady.nil
              exact AllReady.nil
            exact AllReady.nil
          exact AllReady.nil
        refine AllReady.cons rfl (fun K hK => ?_) ?_
        · go_simp
          refine hK _ _ ?_; clear hK K
          refine wpAny_take (i := 5) (v := ?_) rfl (by kernel_rfl) (by kernel_rfl) (by kernel_rfl) (fun _ _ _ h => h) (Or.inl ⟨by rfl, ?_⟩) ?_
          rotate_left
          · intro w; go_simp <;> with_reducible rfl
          refine wpAny_ready (rs := [0, 1, 6]) (by kernel_rfl) (by simp) ?_
          refine AllReady.cons rfl (fun K hK => ?_) ?_
          · go_simp
            refine hK _ _ ?_; clear hK K
            refine wpAny_ready (rs := [1, 6]) (by kernel_rfl) (by simp) ?_
            refine AllReady.cons rfl (fun K hK => ?_) ?_
            · go_simp
              refine hK _ _ ?_; clear hK K
              refine wpAny_ready (rs := [6]) (by kernel_rfl) (by simp) ?_
              refine AllReady.cons rfl (fun K hK => ?_) ?_
              · go_simp
                refine hK _ _ ?_; clear hK K
                refine wpAny_ready (rs := [7]) (by kernel_rfl) (by simp) ?_
                refine AllReady.cons rfl (fun K hK => ?_) ?_
                · go_simp
                  refine hK _ _ ?_; clear hK K
                  refine wpAny_ready (rs := [8]) (by kernel_rfl) (by simp) ?_
                  refine AllReady.cons rfl (fun K hK => ?_) ?_
                  · (refine step_append_own rfl _ _ 26 rfl (w.heap.size + 1 + 1 + 1 + 1 + 1) 25 i0 z0 3 32 Go.Proofs.Tryd.underlying26 hi0 hz0 hz1 hz3 hz2 (by decide) v _ _ rfl (World.ownsRow.alloc (show W4.drew.ownsRow _ _ _ _ _ _ from hrow) _) ⟨W4.heap.size, 0, none⟩ 2 2 (cellsV [xk, u]) rfl rfl (cells_new W4.drew _ _) (by simp [cellsV, Value.oneCell']) (by unfold maxLen; omega) (by omega) (by have := hm.b.size; have := hm.s.lt; simp; omega) ?_; intro v' w1 hown' hgrow; obtain ⟨g', cap', rfl⟩ := ownsRow_succ hown'; obtain ⟨hb1, hk1⟩ := app_below hrow hbase hgrow; have hv1 := hv.under hb1 (by omega); have e1 := hv1.cell (i := 0) (v := v) rfl; have e2 := hv1.frozen (i := 0)); try go_simp
                    refine hK _ _ ?_; clear hK K
                    refine wpAny_ready (rs := [9]) (by kernel_rfl) (by simp) ?_
                    refine AllReady.cons rfl (fun K hK => ?_) ?_
                    · go_simp
                      refine hK _ _ ?_; clear hK K
                      refine wpAny_done (by kernel_rfl) ?_ _
                      have hn2 : out.length + 2 = (((pre ++ [(⟨(xi, xk), hxm⟩ : KAt xs)]).map (·.1)).flatMap (scanO fr to xs)).length := by rw [List.map_append, List.flatMap_append, hout]; simp [hs]
                      have hc2 : cellsV out ++ cellsV [xk, u] = cellsV (((pre ++ [(⟨(xi, xk), hxm⟩ : KAt xs)]).map (·.1)).flatMap (scanO fr to xs)) := by rw [List.map_append, List.flatMap_append, cellsV_append, hout]; simp [hs]
                      exact scan_leaf s5 hm hk3' hk4' hb1 hk1 hv1 hown' hn2 hc2
                    exact AllReady.nil
                  exact AllReady.nil
                exact AllReady.nil
              exact AllReady.nil
            refine AllReady.cons rfl (fun K hK => ?_) ?_
            · go_simp
              refine hK _ _ ?_; clear hK K
              refine wpAny_ready (rs := [1]) (by kernel_rfl) (by simp) ?_
              refine AllReady.cons rfl (fun K hK => ?_) ?_
              · go_simp
                refine hK _ _ ?_; clear hK K
                refine wpAny_ready (rs := [7]) (by kernel_rfl) (by simp) ?_
                refine AllReady.cons rfl (fun K hK => ?_) ?_
                · go_simp
                  refine hK _ _ ?_; clear hK K
                  refine wpAny_ready (rs := [8]) (by kernel_rfl) (by simp) ?_
                  refine AllReady.cons rfl (fun K hK => ?_) ?_
                  · (refine step_append_own rfl _ _ 26 rfl (w.heap.size + 1 + 1 + 1 + 1 + 1) 25 i0 z0 3 32 Go.Proofs.Tryd.underlying26 hi0 hz0 hz1 hz3 hz2 (by decide) v _ _ rfl (World.ownsRow.alloc (show W4.drew.ownsRow _ _ _ _ _ _ from hrow) _) ⟨W4.heap.size, 0, none⟩ 2 2 (cellsV [xk, u]) rfl rfl (cells_new W4.drew _ _) (by simp [cellsV, Value.oneCell']) (by unfold maxLen; omega) (by omega) (by have := hm.b.size; have := hm.s.lt; simp; omega) ?_; intro v' w1 hown' hgrow; obtain ⟨g', cap', rfl⟩ := ownsRow_succ hown'; obtain ⟨hb1, hk1⟩ := app_below hrow hbase hgrow; have hv1 := hv.under hb1 (by omega); have e1 := hv1.cell (i := 0) (v := v) rfl; have e2 := hv1.frozen (i := 0)); try go_simp
                    refine hK _ _ ?_; clear hK K
                    refine wpAny_ready (rs := [9]) (by kernel_rfl) (by simp) ?_
                    refine AllReady.cons rfl (fun K hK => ?_) ?_
                    · go_simp
                      refine hK _ _ ?_; clear hK K
                      refine wpAny_done (by kernel_rfl) ?_ _
                      have hn2 : out.length + 2 = (((pre ++ [(⟨(xi, xk), hxm⟩ : KAt xs)]).map (·.1)).flatMap (scanO fr to xs)).length := by rw [List.map_append, List.flatMap_append, hout]; simp [hs]
                      have hc2 : cellsV out ++ cellsV [xk, u] = cellsV (((pre ++ [(⟨(xi, xk), hxm⟩ : KAt xs)]).map (·.1)).flatMap (scanO fr to xs)) := by rw [List.map_append, List.flatMap_append, cellsV_append, hout]; simp [hs]
                      exact scan_leaf s5 hm hk3' hk4' hb1 hk1 hv1 hown' hn2 hc2
                    exact AllReady.nil
                  exact AllReady.nil
                exact AllReady.nil
              exact AllReady.nil
            exact AllReady.nil
          refine AllReady.cons rfl (fun K hK => ?_) ?_
          · go_simp
            refine hK _ _ ?_; clear hK K
            refine wpAny_ready (rs := [0, 6]) (by kernel_rfl) (by simp) ?_
            refine AllReady.cons rfl (fun K hK => ?_) ?_
            · go_simp
              refine hK _ _ ?_; clear hK K
              refine wpAny_ready (rs := [6]) (by kernel_rfl) (by simp) ?_
              refine AllReady.cons rfl (fun K hK => ?_) ?_
              · go_simp
                refine hK _ _ ?_; clear hK K
                refine wpAny_ready (rs := [7]) (by kernel_rfl) (by simp) ?_
                refine AllReady.cons rfl (fun K hK => ?_) ?_
                · go_simp
                  refine hK _ _ ?_; clear hK K
                  refine wpAny_ready (rs := [8]) (by kernel_rfl) (by simp) ?_
                  refine AllReady.cons rfl (fun K hK => ?_) ?_
                  · (refine step_append_own rfl _ _ 26 rfl (w.heap.size + 1 + 1 + 1 + 1 + 1) 25 i0 z0 3 32 Go.Proofs.Tryd.underlying26 hi0 hz0 hz1 hz3 hz2 (by decide) v _ _ rfl (World.ownsRow.alloc (show W4.drew.ownsRow _ _ _ _ _ _ from hrow) _) ⟨W4.heap.size, 0, none⟩ 2 2 (cellsV [xk, u]) rfl rfl (cells_new W4.drew _ _) (by simp [cellsV, Value.oneCell']) (by unfold maxLen; omega) (by omega) (by have := hm.b.size; have := hm.s.lt; simp; omega) ?_; intro v' w1 hown' hgrow; obtain ⟨g', cap', rfl⟩ := ownsRow_succ hown'; obtain ⟨hb1, hk1⟩ := app_below hrow hbase hgrow; have hv1 := hv.under hb1 (by omega); have e1 := hv1.cell (i := 0) (v := v) rfl; have e2 := hv1.frozen (i := 0)); try go_simp
                    refine hK _ _ ?_; clear hK K
                    refine wpAny_ready (rs := [9]) (by kernel_rfl) (by simp) ?_
                    refine AllReady.cons rfl (fun K hK => ?_) ?_
                    · go_simp
                      refine hK _ _ ?_; clear hK K
                      refine wpAny_done (by kernel_rfl) ?_ _
                      have hn2 : out.length + 2 = (((pre ++ [(⟨(xi, xk), hxm⟩ : KAt xs)]).map (·.1)).flatMap (scanO fr to xs)).length := by rw [List.map_append, List.flatMap_append, hout]; simp [hs]
                      have hc2 : cellsV out ++ cellsV [xk, u] = cellsV (((pre ++ [(⟨(xi, xk), hxm⟩ : KAt xs)]).map (·.1)).flatMap (scanO fr to xs)) := by rw [List.map_append, List.flatMap_append, cellsV_append, hout]; simp [hs]
                      exact scan_leaf s5 hm hk3' hk4' hb1 hk1 hv1 hown' hn2 hc2
                    exact AllReady.nil
                  exact AllReady.nil
                exact AllReady.nil
              exact AllReady.nil
            refine AllReady.cons rfl (fun K hK => ?_) ?_
            · go_simp
              refine hK _ _ ?_; clear hK K
              refine wpAny_ready (rs := [0, 7]) (by kernel_rfl) (by simp) ?_
              refine AllReady.cons rfl (fun K hK => ?_) ?_
              · go_simp
                refine hK _ _ ?_; clear hK K
                refine wpAny_ready (rs := [7]) (by kernel_rfl) (by simp) ?_
                refine AllReady.cons rfl (fun K hK => ?_) ?_
                · go_simp
                  refine hK _ _ ?_; clear hK K
                  refine wpAny_ready (rs := [8]) (by kernel_rfl) (by simp) ?_
                  refine AllReady.cons rfl (fun K hK => ?_) ?_
                  · (refine step_append_own rfl _ _ 26 rfl (w.heap.size + 1 + 1 + 1 + 1 + 1) 25 i0 z0 3 32 Go.Proofs.Tryd.underlying26 hi0 hz0 hz1 hz3 hz2 (by decide) v _ _ rfl (World.ownsRow.alloc (show W4.drew.ownsRow _ _ _ _ _ _ from hrow) _) ⟨W4.heap.size, 0, none⟩ 2 2 (cellsV [xk, u]) rfl rfl (cells_new W4.drew _ _) (by simp [cellsV, Value.oneCell']) (by unfold maxLen; omega) (by omega) (by have := hm.b.size; have := hm.s.lt; simp; omega) ?_; intro v' w1 hown' hgrow; obtain ⟨g', cap', rfl⟩ := ownsRow_succ hown'; obtain ⟨hb1, hk1⟩ := app_below hrow hbase hgrow; have hv1 := hv.under hb1 (by omega); have e1 := hv1.cell (i := 0) (v := v) rfl; have e2 := hv1.frozen (i := 0)); try go_simp
                    refine hK _ _ ?_; clear hK K
                    refine wpAny_ready (rs := [9]) (by kernel_rfl) (by simp) ?_
                    refine AllReady.cons rfl (fun K hK => ?_) ?_
                    · go_simp
                      refine hK _ _ ?_; clear hK K
                      refine wpAny_done (by kernel_rfl) ?_ _
                      have hn2 : out.length + 2 = (((pre ++ [(⟨(xi, xk), hxm⟩ : KAt xs)]).map (·.1)).flatMap (scanO fr to xs)).length := by rw [List.map_append, List.flatMap_append, hout]; simp [hs]
                      have hc2 : cellsV out ++ cellsV [xk, u] = cellsV (((pre ++ [(⟨(xi, xk), hxm⟩ : KAt xs)]).map (·.1)).flatMap (scanO fr to xs)) := by rw [List.map_append, List.flatMap_append, cellsV_append, hout]; simp [hs]
                      exact scan_leaf s5 hm hk3' hk4' hb1 hk1 hv1 hown' hn2 hc2
                    exact AllReady.nil
                  exact AllReady.nil
                exact AllReady.nil
              refine AllReady.cons rfl (fun K hK => ?_) ?_
              · go_simp
                refine hK _ _ ?_; clear hK K
                refine wpAny_ready (rs := [0]) (by kernel_rfl) (by simp) ?_
                refine AllReady.cons rfl (fun K hK => ?_) ?_
                · go_simp
                  refine hK _ _ ?_; clear hK K
                  refine wpAny_ready (rs := [8]) (by kernel_rfl) (by simp) ?_
                  refine AllReady.cons rfl (fun K hK => ?_) ?_
                  · (refine step_append_own rfl _ _ 26 rfl (w.heap.size + 1 + 1 + 1 + 1 + 1) 25 i0 z0 3 32 Go.Proofs.Tryd.underlying26 hi0 hz0 hz1 hz3 hz2 (by decide) v _ _ rfl (World.ownsRow.alloc (show W4.drew.ownsRow _ _ _ _ _ _ from hrow) _) ⟨W4.heap.size, 0, none⟩ 2 2 (cellsV [xk, u]) rfl rfl (cells_new W4.drew _ _) (by simp [cellsV, Value.oneCell']) (by unfold maxLen; omega) (by omega) (by have := hm.b.size; have := hm.s.lt; simp; omega) ?_; intro v' w1 hown' hgrow; obtain ⟨g', cap', rfl⟩ := ownsRow_succ hown'; obtain ⟨hb1, hk1⟩ := app_below hrow hbase hgrow; have hv1 := hv.under hb1 (by omega); have e1 := hv1.cell (i := 0) (v := v) rfl; have e2 := hv1.frozen (i := 0)); try go_simp
                    refine hK _ _ ?_; clear hK K
                    refine wpAny_ready (rs := [9]) (by kernel_rfl) (by simp) ?_
                    refine AllReady.cons rfl (fun K hK => ?_) ?_
                    · go_simp
                      refine hK _ _ ?_; clear hK K
                      refine wpAny_done (by kernel_rfl) ?_ _
                      have hn2 : out.length + 2 = (((pre ++ [(⟨(xi, xk), hxm⟩ : KAt xs)]).map (·.1)).flatMap (scanO fr to xs)).length := by rw [List.map_append, List.flatMap_append, hout]; simp [hs]
                      have hc2 : cellsV out ++ cellsV [xk, u] = cellsV (((pre ++ [(⟨(xi, xk), hxm⟩ : KAt xs)]).map (·.1)).flatMap (scanO fr to xs)) := by rw [List.map_append, List.flatMap_append, cellsV_append, hout]; simp [hs]
                      exact scan_leaf s5 hm hk3' hk4' hb1 hk1 hv1 hown' hn2 hc2
                    exact AllReady.nil
                  exact AllReady.nil
                exact AllReady.nil
              exact AllReady.nil
            exact AllReady.nil
          refine AllReady.cons rfl (fun K hK => ?_) ?_
          · go_simp
            refine hK _ _ ?_; clear hK K
            refine wpAny_ready (rs := [0, 1]) (by kernel_rfl) (by simp) ?_
            refine AllReady.cons rfl (fun K hK => ?_) ?_
            · go_simp
              refine hK _ _ ?_; clear hK K
              refine wpAny_ready (rs := [1]) (by kernel_rfl) (by simp) ?_
              refine AllReady.cons rfl (fun K hK => ?_) ?_
              · go_simp
                refine hK _ _ ?_; clear hK K
                refine wpAny_ready (rs := [7]) (by kernel_rfl) (by simp) ?_
                refine AllReady.cons rfl (fun K hK => ?_) ?_
                · go_simp
                  refine hK _ _ ?_; clear hK K
                  refine wpAny_ready (rs := [8]) (by kernel_rfl) (by simp) ?_
                  refine AllReady.cons rfl (fun K hK => ?_) ?_
                  · (refine step_append_own rfl _ _ 26 rfl (w.heap.size + 1 + 1 + 1 + 1 + 1) 25 i0 z0 3 32 Go.Proofs.Tryd.underlying26 hi0 hz0 hz1 hz3 hz2 (by decide) v _ _ rfl (World.ownsRow.alloc (show W4.drew.ownsRow _ _ _ _ _ _ from hrow) _) ⟨W4.heap.size, 0, none⟩ 2 2 (cellsV [xk, u]) rfl rfl (cells_new W4.drew _ _) (by simp [cellsV, Value.oneCell']) (by unfold maxLen; omega) (by omega) (by have := hm.b.size; have := hm.s.lt; simp; omega) ?_; intro v' w1 hown' hgrow; obtain ⟨g', cap', rfl⟩ := ownsRow_succ hown'; obtain ⟨hb1, hk1⟩ := app_below hrow hbase hgrow; have hv1 := hv.under hb1 (by omega); have e1 := hv1.cell (i := 0) (v := v) rfl; have e2 := hv1.frozen (i := 0)); try go_simp
                    refine hK _ _ ?_; clear hK K
                    refine wpAny_ready (rs := [9]) (by kernel_rfl) (by simp) ?_
                    refine AllReady.cons rfl (fun K hK => ?_) ?_
                    · go_simp
                      refine hK _ _ ?_; clear hK K
                      refine wpAny_done (by kernel_rfl) ?_ _
                      have hn2 : out.length + 2 = (((pre ++ [(⟨(xi, xk), hxm⟩ : KAt xs)]).map (·.1)).flatMap (scanO fr to xs)).length := by rw [List.map_append, List.flatMap_append, hout]; simp [hs]
                      have hc2 : cellsV out ++ cellsV [xk, u] = cellsV (((pre ++ [(⟨(xi, xk), hxm⟩ : KAt xs)]).map (·.1)).flatMap (scanO fr to xs)) := by rw [List.map_append, List.flatMap_append, cellsV_append, hout]; simp [hs]
                      exact scan_leaf s5 hm hk3' hk4' hb1 hk1 hv1 hown' hn2 hc2
                    exact AllReady.nil
                  exact AllReady.nil
                exact AllReady.nil
              exact AllReady.nil
            refine AllReady.cons rfl (fun K hK => ?_) ?_
            · go_simp
              refine hK _ _ ?_; clear hK K
              refine wpAny_ready (rs := [0, 7]) (by kernel_rfl) (by simp) ?_
              refine AllReady.cons rfl (fun K hK => ?_) ?_
              · go_simp
                refine hK _ _ ?_; clear hK K
                refine wpAny_ready (rs := [7]) (by kernel_rfl) (by simp) ?_
                refine AllReady.cons rfl (fun K hK => ?_) ?_
                · go_simp
                  refine hK _ _ ?_; clear hK K
                  refine wpAny_ready (rs := [8]) (by kernel_rfl) (by simp) ?_
                  refine AllReady.cons rfl (fun K hK => ?_) ?_
                  · (refine step_append_own rfl _ _ 26 rfl (w.heap.size + 1 + 1 + 1 + 1 + 1) 25 i0 z0 3 32 Go.Proofs.Tryd.underlying26 hi0 hz0 hz1 hz3 hz2 (by decide) v _ _ rfl (World.ownsRow.alloc (show W4.drew.ownsRow _ _ _ _ _ _ from hrow) _) ⟨W4.heap.size, 0, none⟩ 2 2 (cellsV [xk, u]) rfl rfl (cells_new W4.drew _ _) (by simp [cellsV, Value.oneCell']) (by unfold maxLen; omega) (by omega) (by have := hm.b.size; have := hm.s.lt; simp; omega) ?_; intro v' w1 hown' hgrow; obtain ⟨g', cap', rfl⟩ := ownsRow_succ hown'; obtain ⟨hb1, hk1⟩ := app_below hrow hbase hgrow; have hv1 := hv.under hb1 (by omega); have e1 := hv1.cell (i := 0) (v := v) rfl; have e2 := hv1.frozen (i := 0)); try go_simp
                    refine hK _ _ ?_; clear hK K
                    refine wpAny_ready (rs := [9]) (by kernel_rfl) (by simp) ?_
                    refine AllReady.cons rfl (fun K hK => ?_) ?_
                    · go_simp
                      refine hK _ _ ?_; clear hK K
                      refine wpAny_done (by kernel_rfl) ?_ _
                      have hn2 : out.length + 2 = (((pre ++ [(⟨(xi, xk), hxm⟩ : KAt xs)]).map (·.1)).flatMap (scanO fr to xs)).length := by rw [List.map_append, List.flatMap_append, hout]; simp [hs]
                      have hc2 : cellsV out ++ cellsV [xk, u] = cellsV (((pre ++ [(⟨(xi, xk), hxm⟩ : KAt xs)]).map (·.1)).flatMap (scanO fr to xs)) := by rw [List.map_append, List.flatMap_append, cellsV_append, hout]; simp [hs]
                      exact scan_leaf s5 hm hk3' hk4' hb1 hk1 hv1 hown' hn2 hc2
                    exact AllReady.nil
                  exact AllReady.nil
                exact AllReady.nil
              refine AllReady.cons rfl (fun K hK => ?_) ?_
              · go_simp
                refine hK _ _ ?_; clear hK K
                refine wpAny_ready (rs := [0]) (by kernel_rfl) (by simp) ?_
                refine AllReady.cons rfl (fun K hK => ?_) ?_
                · go_simp
                  refine hK _ _ ?_; clear hK K
                  refine wpAny_ready (rs := [8]) (by kernel_rfl) (by simp) ?_
                  refine AllReady.cons rfl (fun K hK => ?_) ?_
                  · (refine step_append_own rfl _ _ 26 rfl (w.heap.size + 1 + 1 + 1 + 1 + 1) 25 i0 z0 3 32 Go.Proofs.Tryd.underlying26 hi0 hz0 hz1 hz3 hz2 (by decide) v _ _ rfl (World.ownsRow.alloc (show W4.drew.ownsRow _ _ _ _ _ _ from hrow) _) ⟨W4.heap.size, 0, none⟩ 2 2 (cellsV [xk, u]) rfl rfl (cells_new W4.drew _ _) (by simp [cellsV, Value.oneCell']) (by unfold maxLen; omega) (by omega) (by have := hm.b.size; have := hm.s.lt; simp; omega) ?_; intro v' w1 hown' hgrow; obtain ⟨g', cap', rfl⟩ := ownsRow_succ hown'; obtain ⟨hb1, hk1⟩ := app_below hrow hbase hgrow; have hv1 := hv.under hb1 (by omega); have e1 := hv1.cell (i := 0) (v := v) rfl; have e2 := hv1.frozen (i := 0)); try go_simp
                    refine hK _ _ ?_; clear hK K
                    refine wpAny_ready (rs := [9]) (by kernel_rfl) (by simp) ?_
                    refine AllReady.cons rfl (fun K hK => ?_) ?_
                    · go_simp
                      refine hK _ _ ?_; clear hK K
                      refine wpAny_done (by kernel_rfl) ?_ _
                      have hn2 : out.length + 2 = (((pre ++ [(⟨(xi, xk), hxm⟩ : KAt xs)]).map (·.1)).flatMap (scanO fr to xs)).length := by rw [List.map_append, List.flatMap_append, hout]; simp [hs]
                      have hc2 : cellsV out ++ cellsV [xk, u] = cellsV (((pre ++ [(⟨(xi, xk), hxm⟩ : KAt xs)]).map (·.1)).flatMap (scanO fr to xs)) := by rw [List.map_append, List.flatMap_append, cellsV_append, hout]; simp [hs]
                      exact scan_leaf s5 hm hk3' hk4' hb1 hk1 hv1 hown' hn2 hc2
                    exact AllReady.nil
                  exact AllReady.nil
                exact AllReady.nil
              exact AllReady.nil
            exact AllReady.nil
          exact AllReady.nil
        exact AllReady.nil
      · have hgt : ¬ cmpV xk to ≤ 0 := by omega
        have hs : scanO fr to xs (xi, xk) = [] := by
          unfold scanO
          rw [decide_eq_true (show 0 < cmpV xk to by omega), Bool.not_true, Bool.and_false]
          rfl
        exact ⟨hk4', hk3', hm.b, hm.l, hm.f, hm.t, ⟨v, hv, by simpa [hs] using hrow⟩, hm.s⟩
    · rename_i hlt
      have hs : scanO fr to xs (xi, xk) = [] := by unfold scanO; rw [decide_eq_true hlt]; rfl
      refine ⟨keepsFrom_below hbl, Kept.of_below hbl hi.b.size hi.s.lt, hj.b, hj.l, hj.f, hj.t, ?_, hj.s⟩
      obtain ⟨v, h1, h2⟩ := hj.o
      exact ⟨v, h1, by simpa [hs] using h2⟩
  case done =>
    rintro D ys W hD hys hi hK
    obtain ⟨v, hv, hrow⟩ := hi.o
    rw [hys] at hrow
    have hc1 := hv.cell (i := 0) (v := v) rfl
    gi_wp2
    refine ⟨by simp, .inl ⟨_, _, rfl, run_takeDeferred hK, ?_⟩⟩
    refine ⟨_, results_tmp rfl _ _ _, v, rfl, own_below (β := Unit) (B := A5.heap.size) w (Nat.le_refl _) (by omega) () W _ (some D) hi.b (grownBy_putObj' W D (.deferred none)) (fun r e => by cases e; exact ⟨hD, _, hK, rfl⟩), ownsRow_putObj hrow _ hK rfl⟩
  case stop =>
    rintro D cc pre W hD hpre hx hK
    exact hx.elim
end Go.WIter
