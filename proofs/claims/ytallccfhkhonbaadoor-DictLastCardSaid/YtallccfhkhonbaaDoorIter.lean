/- Own text of this session: a part of the proof; no condition of its own. -/
import Derived.Test.YtallccfhkhonbaaDoorRange
import Derived.Shelf.Abstract
import Derived.Test.YtallccfhkhonbaaDoorProg
set_option linter.unusedVariables false
set_option linter.unusedSimpArgs false
namespace Go.WIter
open Go Go.RowKit Go.Abs Go.Inc
attribute [local go_sem] Oper.semAt_some

set_option maxRecDepth 100000 in
set_option maxHeartbeats 1000000 in
theorem it_in (F : Fence) (n : Nat) (h6 : F.fn 43) (hro : F.round = none) (hn : 1 ≤ n) (l Bn n0 : Nat) (Kp : World → World → Prop) (hK : ∀ A B, Kp A B → Kept n0 Bn A B) (sl : Value) (xs : List Val) (hxl : xs.length ≤ 1000) (J Jx : List (Nat × Val) → World → Prop)
    (hY : ∀ pre x W, J pre W → pre ++ [x] <+: kpairs 0 xs → YieldAt F (n - 1) Go.Proofs.Tryd.prog l (encP x) W fun e W' =>
      (e = .returned (.bool true) ∧ J (pre ++ [x]) W' ∧ Kp W W') ∨ (e = .returned (.bool false) ∧ Jx (pre ++ [x]) W'))
    (W : World) (hBn : W.cell? ⟨Bn, 0, none⟩ = some sl) (hL : SlAt n0 W sl xs) (h0 : J [] W) :
    CallsIn F n Go.Proofs.Tryd.prog 43 #[.func (.yield l) #[] #[], .pointer (some ⟨Bn, 0, none⟩)] W fun e W' => (∃ v, e = .returned v) ∧
      ((∃ ys, ys = kpairs 0 xs ∧ J ys W') ∨ (∃ pre, pre <+: kpairs 0 xs ∧ Jx pre W')) := by
  refine callsIn_of_wp Go.Proofs.Tryd.func43 rfl h6 ?_ hro
  simp only [Go.Proofs.Tryd.ntmps43, List.size_toArray, List.length_cons, List.length_nil, Nat.reduceAdd, Nat.reduceSub, Array.replicate_succ, Array.replicate_zero, List.push_toArray, List.append_toArray, List.nil_append, List.cons_append]
  gi_wp2
  gi_loopw [3] (fun p wr => ∃ (pre : List (Nat × Val)) (i : Nat), p = .int .i64 (i : Int) ∧ kpairs 0 xs = pre ++ kpairs i (xs.drop i) ∧ i ≤ xs.length + 1 ∧ wr.cell? ⟨Bn, 0, none⟩ = some sl ∧ SlAt n0 wr sl xs ∧ J pre wr)
    (fun p _ => 2000 - (intOf p).toNat)
  case atStart =>
    exact ⟨[], 0, rfl, rfl, by omega, hBn, hL, h0⟩
  case round =>
    obtain ⟨pre, i, rfl, hx, hi, hb, hl, hJs⟩ := hrel
    obtain ⟨ad, c, rfl, hcell⟩ := id hl
    have hw1 : IntKind.i64.wrap ((i : Int) + 1) = (i : Int) + 1 := by rw [IntKind.wrap_i64]; omega
    have hw2 : IntKind.i64.wrap ((i : Int) + 2) = (i : Int) + 2 := by rw [IntKind.wrap_i64]; omega
    by_cases hlt : i + 1 < xs.length
    · obtain ⟨k, hk, hkp⟩ := kpairs_at hlt
      obtain ⟨b, off, rfl, hbn, c0, c1, c2⟩ := hcell i k hk
      obtain ⟨fn, tmps, assign, body, hy, hR⟩ := hY pre (i, k) wr hJs ⟨kpairs (i + 2) (xs.drop (i + 2)), by rw [hx, hkp]; simp⟩
      have hc : (i : Int) + 1 < (xs.length : Int) := by omega
      have hc2 : (i : Int) < (xs.length : Int) := by omega
      dsimp only [encP, aggV] at hy
      gi_wp2
      refine hR.mono ?_
      rintro e W3 (⟨rfl, hJ3, hk3⟩ | ⟨rfl, hJx3⟩)
      · have hb3 := (hK _ _ hk3).cell hb
        gi_wp2
        go_roundw
        case rel => exact ⟨pre ++ [(i, k)], i + 2, by simp, by rw [hx, hkp]; simp, by omega, hb3, hl.below (hK _ _ hk3).1, hJ3⟩
        case measure => simp [intOf]; omega
      · gi_wp2
        refine bodyPost_ret (results_none rfl _ _ _) rfl ?_
        exact ⟨⟨_, rfl⟩, .inr ⟨pre ++ [(i, k)], ⟨kpairs (i + 2) (xs.drop (i + 2)), by rw [hx, hkp]; simp⟩, hJx3⟩⟩
    · have hc : ¬ ((i : Int) + 1 < (xs.length : Int)) := by omega
      rw [kpairs_end hlt, List.append_nil] at hx
      gi_wp2
      go_end0
      first | exact ⟨⟨_, rfl⟩, .inl ⟨pre, hx.symm, hJs⟩⟩ | exact ⟨⟨_, rfl⟩, .inl hJs⟩

set_option maxHeartbeats 1000000 in
theorem keys_in (F : Fence) (n : Nat) (h5 : F.fn 33) (hro : F.round = none) (sl : Value) (xs : List Val) (ad : Option Addr) (c : Nat) (hsl : sl = .slice ad xs.length c) (w : World) :
    CallsIn F n Go.Proofs.Tryd.prog 33 #[sl] w fun e w' => e = .returned (.func (.func 43) #[] #[.pointer (some ⟨w.heap.size, 0, none⟩)]) ∧ w' = w.alloc (.cells #[sl] 26) := by
  subst hsl
  refine callsIn_of_wp Go.Proofs.Tryd.func33 rfl h5 ?_ hro
  simp only [Go.Proofs.Tryd.ntmps33, List.size_toArray, List.length_cons, List.length_nil, Nat.reduceAdd, Nat.reduceSub, Array.replicate_succ, Array.replicate_zero, List.push_toArray, List.append_toArray, List.nil_append, List.cons_append]
  gi_wp2
  go_ret
  exact ⟨rfl, rfl⟩

theorem keys_stops (F : Fence) (n : Nat) (h6 : F.fn 43) (hro : F.round = none) (hn : 1 ≤ n) (Bn n0 : Nat) (Kp : World → World → Prop) (hK : ∀ A B, Kp A B → Kept n0 Bn A B) (sl : Value) (xs : List Val) (hxl : xs.length ≤ 1000) (w : World)
    (hBn : Bn < w.heap.size) (hn0 : n0 ≤ w.heap.size) (hc : w.cell? ⟨Bn, 0, none⟩ = some sl) (hL : SlAt n0 w sl xs) :
    SeqStopsK F n Go.Proofs.Tryd.prog 43 #[.pointer (some ⟨Bn, 0, none⟩)] encP Kp (fun ys => ys = kpairs 0 xs) (fun pre => pre <+: kpairs 0 xs) (kpairs 0 xs).length w := fun l J Jx W hW _ _ hY h0 =>
  it_in F n h6 hro hn l Bn n0 Kp hK sl xs hxl J Jx (fun pre x W hJ hp => hY pre x W hJ (by have := hp.length_le; simp at this; omega)) W ((hW.cell (p := ⟨Bn, 0, none⟩) hBn).trans hc) (hL.below (hW.mono hn0)) h0

/-- The places and keys of a list, as places that it has. -/
abbrev KAt (xs : List Val) := { p : Nat × Val // p ∈ kpairs 0 xs }
theorem keys_stops_at (F : Fence) (n : Nat) (h6 : F.fn 43) (hro : F.round = none) (hn : 1 ≤ n) (Bn n0 : Nat) (Kp : World → World → Prop) (hK : ∀ A B, Kp A B → Kept n0 Bn A B) (sl : Value) (xs : List Val) (hxl : xs.length ≤ 1000) (w : World)
    (hBn : Bn < w.heap.size) (hn0 : n0 ≤ w.heap.size) (hc : w.cell? ⟨Bn, 0, none⟩ = some sl) (hL : SlAt n0 w sl xs) :
    SeqStopsK F n Go.Proofs.Tryd.prog 43 #[.pointer (some ⟨Bn, 0, none⟩)] (fun p : KAt xs => encP p.1) Kp (fun ys => ys.map (·.1) = kpairs 0 xs) (fun pre => pre.map (·.1) <+: kpairs 0 xs) (kpairs 0 xs).length w := fun l J Jx W hW _ _ hY h0 => by
  refine (it_in F n h6 hro hn l Bn n0 Kp hK sl xs hxl (fun pre W => ∃ p : List (KAt xs), p.map (·.1) = pre ∧ J p W) (fun pre W => ∃ p : List (KAt xs), p.map (·.1) = pre ∧ Jx p W) ?_ W ((hW.cell (p := ⟨Bn, 0, none⟩) hBn).trans hc) (hL.below (hW.mono hn0)) ⟨[], rfl, h0⟩).mono ?_
  · rintro pre x W ⟨p, rfl, hJ⟩ hp
    have hx : x ∈ kpairs 0 xs := hp.subset (by simp)
    obtain ⟨fn, tmps, assign, body, hy, hR⟩ := hY p ⟨x, hx⟩ W hJ (by have := hp.length_le; simp at this; omega)
    refine ⟨fn, tmps, assign, body, hy, hR.mono ?_⟩
    rintro e W' (⟨rfl, h1, h2⟩ | ⟨rfl, h1⟩)
    · exact .inl ⟨rfl, ⟨p ++ [⟨x, hx⟩], by simp, h1⟩, h2⟩
    · exact .inr ⟨rfl, ⟨p ++ [⟨x, hx⟩], by simp, h1⟩⟩
  · rintro e W' ⟨hv, (⟨ys, rfl, p, hp, hJ⟩ | ⟨pre, hpre, p, rfl, hJ⟩)⟩
    · exact ⟨hv, .inl ⟨p, hp, hJ⟩⟩
    · exact ⟨hv, .inr ⟨p, hpre, hJ⟩⟩
end Go.WIter

namespace Go.WIter
open Go Go.RowKit Go.Shelf Go.Abs Go.Inc
attribute [local go_sem] Oper.semAt_some

/-- A row of cells. -/
def Row (W : World) (b : Nat) (cs : Array Value) (t : TypeId) : Prop := W.heap[b]? = some (.cells cs t (0, 0))
theorem Row.new (W : World) (cs : Array Value) (t : TypeId) : Row (W.alloc (.cells cs t)) W.heap.size cs t := World.alloc_heap_new W _
theorem Row.lt {W : World} {b : Nat} {cs : Array Value} {t : TypeId} (h : Row W b cs t) : b < W.heap.size := (Array.getElem?_eq_some_iff.1 h).1
theorem Row.alloc {W : World} {b : Nat} {cs : Array Value} {t : TypeId} (h : Row W b cs t) (o : Obj) : Row (W.alloc o) b cs t := (Below.heap_alloc W o b h.lt).trans h
theorem Row.cell {W : World} {b i : Nat} {cs : Array Value} {t : TypeId} {v : Value} (h : Row W b cs t) (k : cs[i]? = some v) : W.cell? ⟨b, i, none⟩ = some v := by simp [World.cell?, show W.heap[b]? = _ from h, k]
theorem Row.frozen {W : World} {b i : Nat} {cs : Array Value} {t : TypeId} (h : Row W b cs t) : W.frozen? ⟨b, i, none⟩ = false := by simp [World.frozen?, show W.heap[b]? = _ from h]
theorem Row.below {W W' : World} {b : Nat} {cs : Array Value} {t : TypeId} (h : Row W b cs t) (k : Below W.heap.size W W') : Row W' b cs t := (k.block b h.lt).trans h
theorem Row.kept {W W' : World} {b : Nat} {cs : Array Value} {t : TypeId} {row : Option Nat} (h : Row W b cs t) (hg : W.grownBy W' row) (hr : ∀ r, row = some r → ∃ o : Obj, W.heap[r]? = some o ∧ o.isCells = false) : Row W' b cs t := by
  refine (hg.block b h.lt (fun e => ?_)).trans h
  obtain ⟨o, ho, hc⟩ := hr b e.symm
  rw [show W.heap[b]? = _ from h] at ho; cases ho; cases hc
theorem own_row {β : Type} (B b : Nat) (cs : Array Value) (t : TypeId) : OwnFrom B (fun (_ : β) W => Row W b cs t) := row_own B b cs t
theorem own_below {β : Type} {n0 B : Nat} (w : World) (hw : n0 ≤ w.heap.size) (hB : n0 ≤ B) : OwnFrom B (fun (_ : β) W => Below n0 w W) := fun s X Y row hs hg hr => by
  have h1 := hs.size
  exact hs.trans (((Below.refl n0 X).grown hg (by have := hs.size; omega) (fun j ej => by have := (hr j ej).1; omega)))

/-- What a round of dict.find finds. -/
structure FindI (w : World) (key : Val) (sl : Value) (pre : List (Nat × Val)) (W : World) : Prop where
  a : ∀ p ∈ pre, cmpV p.2 key < 0
  b : Below w.heap.size w W
  k : Row W w.heap.size #[.int .i64 key.1, .int .i64 key.2.1, .string key.2.2.1] 25
  i : Row W (w.heap.size + 1) #[.int .i64 0] 3
  f : Row W (w.heap.size + 1 + 1) #[.bool false] 4
  s : Row W (w.heap.size + 1 + 1 + 1) #[sl] 26
/-- What dict.find leaves from within. -/
structure FindX (w : World) (key : Val) (cc : Code) (pre : List (Nat × Val)) (W : World) : Prop where
  c : cc = .ret
  a : ∃ p0 p, pre = p0 ++ [p] ∧ (∀ q ∈ p0, cmpV q.2 key < 0) ∧ ¬ cmpV p.2 key < 0 ∧ Row W (w.heap.size + 1) #[.int .i64 (p.1 : Nat)] 3 ∧ Row W (w.heap.size + 1 + 1) #[.bool (cmpV p.2 key == 0)] 4
  b : Below w.heap.size w W
theorem FindI.own {w : World} {key : Val} {sl : Value} {B : Nat} (hB : w.heap.size ≤ B) : OwnFrom B (FindI w key sl) := fun s A C row hs hg hr =>
  ⟨hs.a, own_below (β := Unit) w (Nat.le_refl _) hB () A C row hs.b hg hr, hs.k.kept hg (fun r e => (hr r e).2), hs.i.kept hg (fun r e => (hr r e).2), hs.f.kept hg (fun r e => (hr r e).2), hs.s.kept hg (fun r e => (hr r e).2)⟩
theorem FindX.own {w : World} {key : Val} {B : Nat} (hB : w.heap.size ≤ B) (c : Code) : OwnFrom B (FindX w key c) := fun s A C row hs hg hr => by
  obtain ⟨e, ⟨p0, p, e1, e2, e3, e4, e5⟩, hb⟩ := hs
  exact ⟨e, ⟨p0, p, e1, e2, e3, e4.kept hg (fun r e => (hr r e).2), e5.kept hg (fun r e => (hr r e).2)⟩, own_below (β := Unit) w (Nat.le_refl _) hB () A C row hb hg hr⟩
theorem FindI.below {w : World} {key : Val} {sl : Value} {pre : List (Nat × Val)} {W W' : World} (h : FindI w key sl pre W) (hb : Below W.heap.size W W') : FindI w key sl pre W' :=
  ⟨h.a, h.b.trans (hb.mono h.b.size), h.k.below hb, h.i.below hb, h.f.below hb, h.s.below hb⟩
theorem Row.set {W : World} {b : Nat} {t : TypeId} {v : Value} (v' : Value) (h : Row W b #[v] t) : Row (W.setCell ⟨b, 0, none⟩ v') b #[v'] t := Boxed.set v' h
theorem Row.other {W : World} {b b' : Nat} {cs : Array Value} {t : TypeId} (h : Row W b cs t) (hne : b ≠ b') (u : Value) : Row (W.setCell ⟨b', 0, none⟩ u) b cs t := (Below.heap_setCell _ _ _ b hne).trans h

set_option maxRecDepth 100000 in
set_option maxHeartbeats 2000000 in
theorem find_in (F : Fence) (n : Nat) (h4 : F.fn 24) (h5 : F.fn 33) (h6 : F.fn 43) (h7 : F.fn 34) (hro : F.round = none) (hn : 3 ≤ n)
    (xs : List Val) (key : Val) (hxl : xs.length ≤ 1000) (ad : Option Addr) (c : Nat) (w : World) (hL : SlAt w.heap.size w (.slice ad xs.length c) xs)
    (hcmp : ∀ a b W, Below w.heap.size w W → CallsIn F (n - 1 - 1 - 1) Go.Proofs.Tryd.prog 34 #[aggV a, aggV b] W fun e W' => e = .returned (.int .i64 (cmpV a b)) ∧ Below W.heap.size W W') :
    CallsIn F n Go.Proofs.Tryd.prog 24 #[.slice ad xs.length c, aggV key] w fun e w' => e = .returned (.tuple #[.int .i64 (findK key xs.length (kpairs 0 xs)).1, .bool (findK key xs.length (kpairs 0 xs)).2]) ∧ Below w.heap.size w w' := by
  have h1 : 1 ≤ n := by omega
  refine callsIn_of_wp_marks Go.Proofs.Tryd.func24 rfl h4 ?_ hro
  simp only [Go.Proofs.Tryd.ntmps24, List.size_toArray, List.length_cons, List.length_nil, Nat.reduceAdd, Nat.reduceSub, Array.replicate_succ, Array.replicate_zero, List.push_toArray, List.append_toArray, List.nil_append, List.cons_append]
  gi_wp2_with (gi_at_call 33; refine (keys_in F (n - 1) h5 hro _ xs _ _ rfl _).mono ?_; rintro e w' ⟨rfl, rfl⟩)
  generalize hA1 : w.alloc (.cells #[.int .i64 key.1, .int .i64 key.2.1, .string key.2.2.1] 25) = A1
  generalize hA2 : A1.alloc (.cells #[.int .i64 0] 3) = A2
  generalize hA3 : A2.alloc (.cells #[.bool false] 4) = A3
  generalize hA4 : A3.alloc (.cells #[.slice ad xs.length c] 26) = A4
  have s1 : A1.heap.size = w.heap.size + 1 := by rw [← hA1]; simp
  have s2 : A2.heap.size = w.heap.size + 1 + 1 := by rw [← hA2]; simp [s1]
  have s3 : A3.heap.size = w.heap.size + 1 + 1 + 1 := by rw [← hA3]; simp [s2]
  have s4 : A4.heap.size = w.heap.size + 1 + 1 + 1 + 1 := by rw [← hA4]; simp [s3]
  have hb4 : Below w.heap.size w A4 := by
    rw [← hA4, ← hA3, ← hA2, ← hA1]
    exact ((((Below.refl _ w).alloc (Nat.le_refl _) _).alloc (by simp) _).alloc (by simp; omega) _).alloc (by simp; omega) _
  have r0 : Row A4 w.heap.size #[.int .i64 key.1, .int .i64 key.2.1, .string key.2.2.1] 25 := by
    rw [← hA4, ← hA3, ← hA2, ← hA1]; exact (((Row.new w _ _).alloc _).alloc _).alloc _
  have r1 : Row A4 (w.heap.size + 1) #[.int .i64 0] 3 := by
    rw [← hA4, ← hA3, ← hA2, ← s1]; exact ((Row.new A1 _ _).alloc _).alloc _
  have r2 : Row A4 (w.heap.size + 1 + 1) #[.bool false] 4 := by
    rw [← hA4, ← hA3, ← s2]; exact (Row.new A2 _ _).alloc _
  have r3 : Row A4 (w.heap.size + 1 + 1 + 1) #[.slice ad xs.length c] 26 := by
    rw [← hA4, ← s3]; exact Row.new A3 _ _
  clear hA1 hA2 hA3 hA4 s1 s2 s3
  have leaves : ∀ (D : Nat) (W : World), W.heap[D]? = some (.deferred (some [])) → ∀ {i : Nat} {f : Bool} {tmps : Array Value}, tmps[4]? = some (.pointer (some ⟨w.heap.size + 1, 0, none⟩)) → tmps[5]? = some (.pointer (some ⟨w.heap.size + 1 + 1, 0, none⟩)) → Row W (w.heap.size + 1) #[.int .i64 (i : Int)] 3 → Row W (w.heap.size + 1 + 1) #[.bool f] 4 → Below w.heap.size w W → A4.heap.size ≤ D →
      findK key xs.length (kpairs 0 xs) = (i, f) →
      bodyPostM F n Go.Proofs.Tryd.prog Go.Proofs.Tryd.f24 (fun e w' => e = .returned (.tuple #[.int .i64 (findK key xs.length (kpairs 0 xs)).1, .bool (findK key xs.length (kpairs 0 xs)).2]) ∧ Below w.heap.size w w') .ret
        { tmps, defers := [{ target := .collected D, args := #[] }] } W := by
    intro D W hK i f tmps t4 t5 q1 q2 hb hD hf
    refine ⟨by simp, .inl ⟨_, _, rfl, run_takeDeferred hK, ?_⟩⟩
    have hg := grownBy_putObj' W D (.deferred none)
    have hd : ∀ r, some D = some r → ∃ o : Obj, W.heap[r]? = some o ∧ o.isCells = false := fun r e => by cases e; exact ⟨_, hK, rfl⟩
    have c1 := (q1.kept hg hd).cell (i := 0) (v := .int .i64 i) rfl
    have c2 := (q2.kept hg hd).cell (i := 0) (v := .bool f) rfl
    refine ⟨.tuple #[.int .i64 i, .bool f], ?_, by rw [hf], own_below (β := Unit) (B := A4.heap.size) w (Nat.le_refl _) (by omega) () W _ (some D) hb hg (fun r e => by cases e; exact ⟨hD, _, hK, rfl⟩)⟩
    simp [results, Go.Proofs.Tryd.f24, go_sem, t4, t5, c1, c2]
  refine wpIn_rangeFunc_ownH hro h1 (gf := 43) (lb := #[.pointer (some ⟨w.heap.size + 1 + 1 + 1, 0, none⟩)]) rfl h6 (Go.Proofs.enters_of Go.Proofs.Tryd.func43 (by kernel_rfl) rfl)
    (Kp := Kept w.heap.size (w.heap.size + 1 + 1 + 1))
    (keys_stops F (n - 1) h6 hro (by omega) (w.heap.size + 1 + 1 + 1) w.heap.size _ (fun _ _ h => h) _ xs hxl A4 (by omega) (by omega) (r3.cell rfl) (hL.below hb4)) Kept.trans (Kept.put (by omega) (by omega)) (Below.refl _ _) (fun _ => rfl)
    (FindI w key (.slice ad xs.length c)) (FindX w key) (FindI.own (by omega)) (FindX.own (by omega)) ⟨by simp, hb4, r0, r1, r2, r3⟩
    (fun x a' W => ∃ b, Row W b #[.int .i64 x.2.1, .int .i64 x.2.2.1, .string x.2.2.2.1] 25 ∧ a' = { tmps := #[.slice ad xs.length c, aggV key, undef, .pointer (some ⟨w.heap.size, 0, none⟩), .pointer (some ⟨w.heap.size + 1, 0, none⟩), .pointer (some ⟨w.heap.size + 1 + 1, 0, none⟩), .int .i64 (x.1 : Nat), .pointer (some ⟨b, 0, none⟩), undef, .slice ad xs.length c, .func (.func 43) #[] #[.pointer (some ⟨w.heap.size + 1 + 1 + 1, 0, none⟩)], .int .i64 (x.1 : Nat), aggV x.2, undef, undef, undef, undef, undef, undef, undef, undef, undef, undef], defers := [] })
    (fun x a' s A B row hs hg hr => by
      obtain ⟨b, h, e⟩ := hs
      exact ⟨b, h.kept hg (fun r e => (hr r e).2), e⟩)
    ?assign ?body ?done ?stop
  case assign =>
    rintro l pre ⟨xi, xk⟩ W K hi hK
    dsimp only [encP, aggV]
    gi_wp2
    have hbW : Below W.heap.size W (W.alloc (.cells #[.int .i64 xk.1, .int .i64 xk.2.1, .string xk.2.2.1] 25)) := (Below.refl _ W).alloc (Nat.le_refl _) _
    exact hK _ _ (keepsFrom_below hbW) (Kept.of_below hbW hi.b.size hi.s.lt) (hi.below hbW) ⟨_, Row.new W _ _, rfl⟩
  case body =>
    rintro l pre ⟨xi, xk⟩ a' W hl _ hi ⟨b, hb, rfl⟩ hlen
    dsimp only [aggV]
    have c0 := hi.k.cell (i := 0) (v := .int .i64 key.1) rfl
    have c1 := hi.k.cell (i := 1) (v := .int .i64 key.2.1) rfl
    have c2 := hi.k.cell (i := 2) (v := .string key.2.2.1) rfl
    have d0 := hb.cell (i := 0) (v := .int .i64 xk.1) rfl
    have d1 := hb.cell (i := 1) (v := .int .i64 xk.2.1) rfl
    have d2 := hb.cell (i := 2) (v := .string xk.2.2.1) rfl
    gi_wp2
    refine ⟨fun _ => by omega, ((hcmp xk key W hi.b).inRound l).mono ?_⟩
    rintro e W3 ⟨rfl, hbl⟩
    have hkf := keepsFrom_below (B := A4.heap.size) hbl
    have hkk : Kept w.heap.size (w.heap.size + 1 + 1 + 1) W W3 := Kept.of_below hbl hi.b.size hi.s.lt
    have hj := hi.below hbl
    have e3 := hj.i.cell (i := 0) (v := .int .i64 0) rfl
    have e4 := hj.f.cell (i := 0) (v := .bool false) rfl
    have f3 := hj.i.frozen (i := 0)
    have f4 := hj.f.frozen (i := 0)
    clear c0 c1 c2 d0 d1 d2
    gi_wp2
    · rename_i hx
      exact ⟨(hkf.trans ((KeepsOthers.setCell _ _ _).from _)).trans ((KeepsOthers.setCell _ _ _).from _), rfl, ⟨pre, (xi, xk), rfl, hi.a, by simpa using hx, (hj.i.set _).other (by omega) _, (hj.f.other (by omega) _).set _⟩, (hj.b.setCell (p := ⟨w.heap.size + 1, 0, none⟩) (by simp) _).setCell (p := ⟨w.heap.size + 1 + 1, 0, none⟩) (by simp; omega) _⟩
    · rename_i hx
      refine ⟨hkf, hkk, ?_, hj.b, hj.k, hj.i, hj.f, hj.s⟩
      intro p hp
      rcases List.mem_append.1 hp with h | h
      · exact hi.a p h
      · obtain rfl := List.mem_singleton.1 h
        simpa using hx
  case done =>
    rintro D ys W hD rfl hi hK
    have hk1 := hi.i.cell (i := 0) (v := .int .i64 0) rfl
    have hk2 := hi.f.cell (i := 0) (v := .bool false) rfl
    have f3 := hi.i.frozen (i := 0)
    have f4 := hi.f.frozen (i := 0)
    gi_wp2
    refine leaves D _ ?_ (i := xs.length) (f := false) rfl rfl ((hi.i.set _).other (by omega) _) ((hi.f.other (by omega) _).set _) ((hi.b.setCell (p := ⟨w.heap.size + 1, 0, none⟩) (by simp) _).setCell (p := ⟨w.heap.size + 1 + 1, 0, none⟩) (by simp; omega) _) (by omega)
      (by rw [← List.append_nil (kpairs 0 xs), findK_app hi.a]; rfl)
    exact ((KeepsOthers.setCell _ _ _).trans (KeepsOthers.setCell _ _ _)).same D _ hK rfl
  case stop =>
    rintro D cc pre W hD hpre hx hK
    obtain ⟨rfl, ⟨p0, p, rfl, hp0, hp, q1, q2⟩, hb⟩ := hx
    gi_wp2
    refine leaves D _ hK rfl rfl q1 q2 hb (by omega) ?_
    obtain ⟨r, hr⟩ := hpre
    rw [← hr, List.append_assoc, findK_app hp0, List.singleton_append, findK, decide_eq_false (by omega)]
    rfl
end Go.WIter
