/- The clerk in memory, walked by hand. Own text of this session. -/
import Derived.Test.YtkkkjcpfahhhpaaDoorPair
import Derived.Test.YtkkkjcpfahhhpaaDoorProg
import Derived.Shelf.Abstract
import Derived.WalkKit
import Derived.WalkSpells
import Derived.Deep.RegionLaw
import Derived.Deep.OwnRows
import Derived.Deep.AppendLies
import Derived.Deep.Light
import Derived.Handy

set_option linter.unusedVariables false
set_option linter.unusedSimpArgs false
namespace Go.WPall
open Go Go.RowKit Go.Shelf Go.Abs Go.Inc

abbrev aggV (v : Val) : Value := .agg #[.int .i64 v.1, .int .i64 v.2.1, .string v.2.2.1]
theorem run_mk {P : Program} (t : TypeId) (w : World) : (Instr.makeMap t none).run P w = .ok (.map (some w.heap.size)) (w.alloc (.map #[] 0)) := rfl
attribute [local go_sem] run_mk

theorem keysOk : Mp.Keys Go.Proofs.Tryd.prog 38 aggV := by
  refine ⟨⟨_, Go.Proofs.Tryd.underlying38⟩, fun a => ⟨_, rfl⟩, fun w a b => ?_, fun w e a => ?_, fun a => ?_⟩
  · have h := run_equal (P := Go.Proofs.Tryd.prog) (w := w) (x := bare fun _ _ => none) (t := VT) (A := enc VT a) (B := enc VT b) (T := 38) (dp := 10000) (v := aggV a) (u := aggV b)
      (r := _) (by kernel_rfl) rfl rfl rfl (by decide) ⟨_, rfl, [.int .i64 a.1], _, rfl, rfl, [.int .i64 a.2.1], _, rfl, rfl, [.string a.2.2.1], [], rfl, rfl, rfl⟩
      ⟨_, rfl, [.int .i64 b.1], _, rfl, rfl, [.int .i64 b.2.1], _, rfl, rfl, [.string b.2.2.1], [], rfl, rfl, rfl⟩
    refine h.trans ?_
    congr 1
  · rw [show (10000 : Nat) = 9998 + 1 + 1 from rfl]
    have h3 : ∀ (n : Int) m, (Instr.checkKey e (m + 1) 3 (.int .i64 n)).run Go.Proofs.Tryd.prog w = .ok () w := fun n m => by
      unfold Instr.checkKey
      simp [run_underlying Go.Proofs.Tryd.underlying3, Result.andThen]
    have h2 : ∀ (n : Int) m, (Instr.checkKey e (m + 1) 2 (.int .i64 n)).run Go.Proofs.Tryd.prog w = .ok () w := fun n m => by
      unfold Instr.checkKey
      simp [run_underlying Go.Proofs.Tryd.underlying2, Result.andThen]
    have h9 : ∀ (n : ByteArray) m, (Instr.checkKey e (m + 1) 9 (.string n)).run Go.Proofs.Tryd.prog w = .ok () w := fun n m => by
      unfold Instr.checkKey
      simp [run_underlying Go.Proofs.Tryd.underlying9, Result.andThen]
    unfold Instr.checkKey
    simp [run_underlying Go.Proofs.Tryd.underlying38, Result.andThen, go_sem, h3, h2, h9]
  · unfold Instr.sameBits
    simp [Instr.sameBits]

/-- The clerk's block. -/
abbrev clkRow (mb ml : Nat) (last : Int) (gv : Value) (eb N : Nat) : Array Value := #[.map (some mb), .map (some ml), .int .i64 last, gv, .slice (some ⟨eb, 0, none⟩) N N]

set_option maxHeartbeats 1000000 in
theorem begun_in (n : Nat) (hn : n ≤ 1000) (w : World) :
    Calls Go.Proofs.Tryd.prog 27 #[.int .i64 (n : Int)] w fun e w' => e = .returned (.pointer (some ⟨w.heap.size + 1 + 1 + 1, 0, none⟩)) ∧
      w' = (((w.alloc (.map #[] 0)).alloc (.map #[] 0)).alloc (.cells (madeCells #[.int .i64 0] n) 3)).alloc (.cells (clkRow w.heap.size (w.heap.size + 1) 0 (.slice none 0 0) (w.heap.size + 1 + 1) n) 58) := by
  have hmk : ∀ w, (Instr.makeSlice 55 (.int .i64 (n : Int)) (.int .i64 (n : Int))).run Go.Proofs.Tryd.prog w = .ok (.slice (some ⟨w.heap.size, 0, none⟩) n n) (w.alloc (.cells (madeCells #[.int .i64 0] n) 3)) := fun w =>
    run_make_row' 55 3 (.int .i64 0) 8 Go.Proofs.Tryd.underlying55 (by kernel_rfl) rfl .i64 .i64 n (by omega) (by omega) w
  go_enter Go.Proofs.Tryd.func27, Go.Proofs.Tryd.ntmps27
  go_wp2
  go_ret
  exact ⟨rfl, rfl⟩

/-- The clerk in memory. -/
structure ClkIn (n0 : Nat) (W : World) (Bc mb ml eb : Nat) (gv : Value) (c : Clk) : Prop where
  hB : n0 ≤ Bc
  row : W.heap[Bc]? = some (.cells (clkRow mb ml (Ck.last c) gv eb (Ck.ends c).length) 58 (0, 0))
  hb : n0 ≤ mb
  hl : n0 ≤ ml
  he : n0 ≤ eb
  ne : mb ≠ ml
  m1 : Mp.MapAt aggV W mb (Ck.busy c)
  m2 : Mp.MapAt aggV W ml (Ck.lost c)
  g : W.ownsRow n0 3 1 gv (Ck.gone c).length ((Ck.gone c).map (Value.int .i64))
  e : W.heap[eb]? = some (.cells ((Ck.ends c).map (Value.int .i64)).toArray 3 (0, 0))
  gn : gv.ownBlock ≠ some eb
def ClkAt (n0 : Nat) (W : World) (Bc : Nat) (c : Clk) : Prop := ∃ mb ml eb gv, ClkIn n0 W Bc mb ml eb gv c

theorem owns_move {n0 : Nat} {W W' : World} {v : Value} {n : Nat} {xs : List Value} (h : W.ownsRow n0 3 1 v n xs) (hk : ∀ b cs, v.ownBlock = some b → W.heap[b]? = some (.cells cs 3 (0, 0)) → W'.heap[b]? = some (.cells cs 3 (0, 0))) : W'.ownsRow n0 3 1 v n xs := by
  refine ⟨h.1, ?_⟩
  rcases h.2 with h | ⟨g, cap, cur, q1, q2, q3, q4⟩
  · exact .inl h
  · exact .inr ⟨g, cap, cur, q1, q2, hk g cur (by rw [q1]; rfl) q3, q4⟩
theorem MapAt.move {W W' : World} {b : Nat} {l : List (Val × Int)} (h : Mp.MapAt aggV W b l) (hk : ∀ es k, W.heap[b]? = some (.map es k) → W'.heap[b]? = some (.map es k)) : Mp.MapAt aggV W' b l := by
  obtain ⟨es, k, h1, h2⟩ := h
  exact ⟨es, k, hk _ _ h1, h2⟩
theorem ClkIn.move {n0 : Nat} {W W' : World} {Bc mb ml eb : Nat} {gv : Value} {c : Clk} (h : ClkIn n0 W Bc mb ml eb gv c) (hk : ∀ (b : Nat) (o : Obj), W.heap[b]? = some o → W'.heap[b]? = some o) : ClkIn n0 W' Bc mb ml eb gv c :=
  ⟨h.hB, hk _ _ h.row, h.hb, h.hl, h.he, h.ne, MapAt.move h.m1 (fun _ _ => hk _ _), MapAt.move h.m2 (fun _ _ => hk _ _), owns_move h.g (fun _ _ _ => hk _ _), hk _ _ h.e, h.gn⟩
theorem ClkIn.below {n0 : Nat} {W W' : World} {Bc mb ml eb : Nat} {gv : Value} {c : Clk} (h : ClkIn n0 W Bc mb ml eb gv c) (hb : Below W.heap.size W W') : ClkIn n0 W' Bc mb ml eb gv c :=
  h.move fun b o e => (hb.block b (Array.getElem?_eq_some_iff.1 e).1).trans e
theorem put_same {w : World} {r : Nat} {o o' : Obj} (h : w.heap[r]? = some o') : (w.putObj r o).heap[r]? = some o := World.putObj_heap_same (Array.getElem?_eq_some_iff.1 h).1
theorem set_same {w : World} {b i : Nat} {cs : Array Value} {t : TypeId} {fr : Nat × Nat} {v : Value} (h : w.heap[b]? = some (.cells cs t fr)) : (w.setCell ⟨b, i, none⟩ v).heap[b]? = some (.cells (cs.setIfInBounds i v) t fr) := by
  show (w.heap.modify b _)[b]? = _
  rw [Array.getElem?_modify]
  simp [h]
theorem set_other {w : World} {b k i : Nat} {v : Value} (h : k ≠ b) : (w.setCell ⟨b, i, none⟩ v).heap[k]? = w.heap[k]? := Below.heap_setCell w ⟨b, i, none⟩ v k h
section
variable {n0 : Nat} {W : World} {Bc mb ml eb : Nat} {gv : Value} {c : Clk}
theorem ClkIn.mbB (h : ClkIn n0 W Bc mb ml eb gv c) : mb ≠ Bc := fun e => by obtain ⟨es, k, h1, _⟩ := h.m1; rw [e, h.row] at h1; cases h1
theorem ClkIn.mlB (h : ClkIn n0 W Bc mb ml eb gv c) : ml ≠ Bc := fun e => by obtain ⟨es, k, h1, _⟩ := h.m2; rw [e, h.row] at h1; cases h1
theorem ClkIn.mbE (h : ClkIn n0 W Bc mb ml eb gv c) : mb ≠ eb := fun e => by obtain ⟨es, k, h1, _⟩ := h.m1; rw [e, h.e] at h1; cases h1
theorem ClkIn.mlE (h : ClkIn n0 W Bc mb ml eb gv c) : ml ≠ eb := fun e => by obtain ⟨es, k, h1, _⟩ := h.m2; rw [e, h.e] at h1; cases h1
theorem ClkIn.eB (h : ClkIn n0 W Bc mb ml eb gv c) : eb ≠ Bc := fun e => by have h1 := h.e; rw [e, h.row] at h1; simp only [Option.some.injEq, Obj.cells.injEq] at h1; exact absurd h1.2.1 (by decide)
theorem ClkIn.gt (h : ClkIn n0 W Bc mb ml eb gv c) {b : Nat} (hb : gv.ownBlock = some b) : ∃ cs, W.heap[b]? = some (.cells cs 3 (0, 0)) := by
  rcases h.g.2 with h | ⟨g, cap, cur, q1, q2, q3, q4⟩
  · rw [h.1] at hb; cases hb
  · rw [q1] at hb; cases hb; exact ⟨_, q3⟩
theorem ClkIn.gB (h : ClkIn n0 W Bc mb ml eb gv c) : gv.ownBlock ≠ some Bc := fun e => by
  obtain ⟨cs, h1⟩ := h.gt e
  rw [h.row] at h1; simp only [Option.some.injEq, Obj.cells.injEq] at h1; exact absurd h1.2.1 (by decide)
theorem ClkIn.gM (h : ClkIn n0 W Bc mb ml eb gv c) : gv.ownBlock ≠ some mb := fun e => by
  obtain ⟨cs, h1⟩ := h.gt e
  obtain ⟨es, k, h2, _⟩ := h.m1; rw [h1] at h2; cases h2
theorem ClkIn.gL (h : ClkIn n0 W Bc mb ml eb gv c) : gv.ownBlock ≠ some ml := fun e => by
  obtain ⟨cs, h1⟩ := h.gt e
  obtain ⟨es, k, h2, _⟩ := h.m2; rw [h1] at h2; cases h2
theorem ClkIn.setLast (h : ClkIn n0 W Bc mb ml eb gv c) (t : Int) : ClkIn n0 (W.setCell ⟨Bc, 2, none⟩ (.int .i64 t)) Bc mb ml eb gv (Ck.busy c, (Ck.lost c, (t, (Ck.gone c, Ck.ends c)))) :=
  ⟨h.hB, set_same h.row, h.hb, h.hl, h.he, h.ne, MapAt.move h.m1 (fun _ _ e => (set_other h.mbB).trans e), MapAt.move h.m2 (fun _ _ e => (set_other h.mlB).trans e), owns_move h.g (fun b _ hb e => (set_other (fun e' => h.gB (by rw [hb, e']))).trans e), (set_other h.eB).trans h.e, h.gn⟩
theorem ClkIn.setBusy (h : ClkIn n0 W Bc mb ml eb gv c) {o : Obj} {l : List (Val × Int)} (hm : Mp.MapAt aggV (W.putObj mb o) mb l) : ClkIn n0 (W.putObj mb o) Bc mb ml eb gv (l, (Ck.lost c, (Ck.last c, (Ck.gone c, Ck.ends c)))) :=
  ⟨h.hB, (World.putObj_heap_other h.mbB.symm).trans h.row, h.hb, h.hl, h.he, h.ne, hm, MapAt.move h.m2 (fun _ _ e => (World.putObj_heap_other h.ne.symm).trans e), owns_move h.g (fun b _ hb e => (World.putObj_heap_other (fun e' => h.gM (by rw [hb, e']))).trans e), (World.putObj_heap_other h.mbE.symm).trans h.e, h.gn⟩
theorem ClkIn.setLost (h : ClkIn n0 W Bc mb ml eb gv c) {o : Obj} {l : List (Val × Int)} (hm : Mp.MapAt aggV (W.putObj ml o) ml l) : ClkIn n0 (W.putObj ml o) Bc mb ml eb gv (Ck.busy c, (l, (Ck.last c, (Ck.gone c, Ck.ends c)))) :=
  ⟨h.hB, (World.putObj_heap_other h.mlB.symm).trans h.row, h.hb, h.hl, h.he, h.ne, MapAt.move h.m1 (fun _ _ e => (World.putObj_heap_other h.ne).trans e), hm, owns_move h.g (fun b _ hb e => (World.putObj_heap_other (fun e' => h.gL (by rw [hb, e']))).trans e), (World.putObj_heap_other h.mlE.symm).trans h.e, h.gn⟩
theorem ClkIn.setEnds (h : ClkIn n0 W Bc mb ml eb gv c) (a : Nat) (v : Int) : ClkIn n0 (W.setCell ⟨eb, a, none⟩ (.int .i64 v)) Bc mb ml eb gv (Ck.busy c, (Ck.lost c, (Ck.last c, (Ck.gone c, (Ck.ends c).set a v)))) :=
  ⟨h.hB, (by show _ = some (Obj.cells (clkRow mb ml (Ck.last c) gv eb ((Ck.ends c).set a v).length) 58 (0, 0)); rw [List.length_set]; exact (set_other h.eB.symm).trans h.row), h.hb, h.hl, h.he, h.ne, MapAt.move h.m1 (fun _ _ e => (set_other h.mbE).trans e), MapAt.move h.m2 (fun _ _ e => (set_other h.mlE).trans e), owns_move h.g (fun b _ hb e => (set_other (fun e' => h.gn (by rw [hb, e']))).trans e),
    (by show _ = some (Obj.cells (((Ck.ends c).set a v).map (Value.int .i64)).toArray 3 (0, 0)); rw [set_same h.e]; simp [List.map_set]), h.gn⟩
theorem ClkIn.setGone (h : ClkIn n0 W Bc mb ml eb gv c) {W1 : World} {x : Int} {v' : Value} (hg : W.grownBy W1 gv.ownBlock) (ho : W1.ownsRow n0 3 1 v' ((Ck.gone c).length + 1) ((Ck.gone c).map (Value.int .i64) ++ [Value.int .i64 x])) (hv : ∃ b, v'.ownBlock = some b ∧ (gv.ownBlock = some b ∨ b = W.heap.size)) :
    ClkIn n0 (W1.setCell ⟨Bc, 3, none⟩ v') Bc mb ml eb v' (Ck.busy c, (Ck.lost c, (Ck.last c, (Ck.gone c ++ [x], Ck.ends c)))) := by
  obtain ⟨b, hb1, hb2⟩ := hv
  have lt : ∀ {k o}, W.heap[k]? = some o → k < W.heap.size := fun e => (Array.getElem?_eq_some_iff.1 e).1
  have hk : ∀ {k o}, W.heap[k]? = some o → gv.ownBlock ≠ some k → W1.heap[k]? = some o := fun e hn => (hg.block _ (lt e) (fun e' => hn e'.symm)).trans e
  have hnb : ∀ {k o}, W.heap[k]? = some o → gv.ownBlock ≠ some k → b ≠ k := fun e hn e' => by
    rcases hb2 with h' | h'
    · exact hn (by rw [h', e'])
    · have := lt e; omega
  refine ⟨h.hB, set_same (hk h.row h.gB), h.hb, h.hl, h.he, h.ne, MapAt.move h.m1 (fun _ _ e => (set_other h.mbB).trans (hk e h.gM)), MapAt.move h.m2 (fun _ _ e => (set_other h.mlB).trans (hk e h.gL)), ?_, (set_other h.eB).trans (hk h.e h.gn), ?_⟩
  · have := owns_move ho (W' := W1.setCell ⟨Bc, 3, none⟩ v') (fun k cs e1 e2 => (set_other (fun e' => ?_)).trans e2)
    · show World.ownsRow _ _ _ _ _ (Ck.gone c ++ [x]).length ((Ck.gone c ++ [x]).map (Value.int .i64))
      rw [List.length_append, List.map_append]
      exact this
    · rw [hb1] at e1
      cases e1
      exact hnb h.row h.gB e'
  · rw [hb1]
    intro e'
    cases e'
    exact hnb h.e h.gn rfl
theorem ClkIn.grownRow (h : ClkIn n0 W Bc mb ml eb gv c) {W1 : World} (hg : W.grownBy W1 gv.ownBlock) : W1.heap[Bc]? = some (.cells (clkRow mb ml (Ck.last c) gv eb (Ck.ends c).length) 58 (0, 0)) :=
  (hg.block _ (Array.getElem?_eq_some_iff.1 h.row).1 (fun e' => h.gB e'.symm)).trans h.row
theorem ClkIn.gBlock (h : ClkIn n0 W Bc mb ml eb gv c) {k : Nat} (hk : gv.ownBlock = some k) : n0 ≤ k := by
  rcases h.g.2 with h | ⟨g, cap, cur, q1, q2, q3, q4⟩
  · rw [h.1] at hk; cases hk
  · rw [q1] at hk; cases hk; exact q2
end
end Go.WPall

set_option linter.unusedVariables false
set_option linter.unusedSimpArgs false
namespace Go.WPall
open Go Go.RowKit Go.Shelf Go.Abs Go.Inc
attribute [local go_sem] run_mk

abbrev evtV (x : Evt) (a1 : Option Addr) (n1 c1 : Nat) (a2 : Option Addr) (n2 c2 : Nat) : Array Value := #[.int .i64 (Ev.time x), .int .i64 (Ev.cli x).1, .int .i64 (Ev.cli x).2.1, .string (Ev.cli x).2.2.1, .int .i64 (Ev.typ x), .int .i64 (Ev.mod x), .int .i64 (Ev.key x).1, .int .i64 (Ev.key x).2.1, .string (Ev.key x).2.2.1, .int .i64 (Ev.op x),
  .slice a1 n1 c1, .slice a2 n2 c2, .bool (Ev.ntd x), .string (Ev.note x)]
theorem cellAt {W : World} {b i : Nat} {cs : Array Value} {t : TypeId} {v : Value} (h : W.heap[b]? = some (.cells cs t (0, 0))) (k : cs[i]? = some v) : W.cell? ⟨b, i, none⟩ = some v := by simp [World.cell?, h, k]
theorem frozAt {W : World} {b i : Nat} {cs : Array Value} {t : TypeId} (h : W.heap[b]? = some (.cells cs t (0, 0))) : W.frozen? ⟨b, i, none⟩ = false := by simp [World.frozen?, h]
/-- The events lie below n0; what is asked of them is told. -/
def EvsAt (w W : World) (sl : Value) (h : List Evt) : Prop := ∃ ad c, sl = .slice ad h.length c ∧ ∀ i x, h[i]? = some x → ∃ b off a1 n1 c1 a2 n2 c2, ad = some ⟨b, off, none⟩ ∧ b < w.heap.size ∧
  (∀ j u, (evtV x a1 n1 c1 a2 n2 c2)[j]? = some u → W.cell? ⟨b, off + i * 14 + j, none⟩ = some u) ∧
  (∀ W', Below w.heap.size w W' → Calls Go.Proofs.Tryd.prog 33 #[.agg (evtV x a1 n1 c1 a2 n2 c2)] W' fun e W2 => e = .returned (.bool (rightE x)) ∧ Below W'.heap.size W' W2) ∧
  (rightE x = true → ∀ W' m o, Below w.heap.size w W' → Calls Go.Proofs.Tryd.prog 34 #[.int .i64 m, .int .i64 o, .slice a2 n2 c2] W' fun e W2 => ∃ a n c, e = .returned (.tuple #[.slice a n c, .bool (signOuts m o (Ev.out x)).2]) ∧ Below W'.heap.size W' W2)
theorem EvsAt.below {w A B : World} {sl : Value} {h : List Evt} (hb : Below w.heap.size A B) (k : EvsAt w A sl h) : EvsAt w B sl h := by
  obtain ⟨ad, c, e, k⟩ := k
  refine ⟨ad, c, e, fun i x hx => ?_⟩
  obtain ⟨b, off, a1, n1, c1, a2, n2, c2, e1, h1, h2, h3, h4⟩ := k i x hx
  exact ⟨b, off, a1, n1, c1, a2, n2, c2, e1, h1, fun j u hj => (hb.cell (p := ⟨b, _, none⟩) h1).trans (h2 j u hj), h3, h4⟩

def onlyN (N : Act → World → Prop) : Exit → Act → World → Prop := fun e a w => match e with | .normal => N a w | _ => False
theorem wp_join {P : Program} {c : Code} {K : Exit → Act → World → Prop} {a : Act} {w : World} (A : Act) (R : World → Prop) (reg : ∀ N : Act → World → Prop, (∀ w', R w' → N A w') → c.wp P (onlyN N) a w) (cont : ∀ w', R w' → K .normal A w') : c.wp P K a w :=
  Code.wp_mono (fun e a w h => by cases e with | normal => exact h | _ => exact h.elim) (reg (fun a w => K .normal a w) cont)
theorem wp_join3 {P : Program} {c : Code} {K : Exit → Act → World → Prop} {a : Act} {w : World} {α β γ : Type} (A : α → β → γ → Act) (R : World → Prop) (reg : ∀ N : Act → World → Prop, (∀ w' x y z, R w' → N (A x y z) w') → c.wp P (onlyN N) a w) (cont : ∀ w' x y z, R w' → K .normal (A x y z) w') : c.wp P K a w :=
  Code.wp_mono (fun e a w h => by cases e with | normal => exact h | _ => exact h.elim) (reg (fun a w => K .normal a w) cont)
theorem cell_one' {W : World} {n : Nat} (hn : n = W.heap.size) (v : Value) (t : TypeId) (j : Nat) (u : Value) (h : [v][j]? = some u) : (W.alloc (.cells #[v] t)).cell? ((⟨n, 0, none⟩ : Addr).add j) = some u := by
  subst hn; exact cell_one_new W v t j u h
theorem info1 {T b : Nat} (h : (Go.Proofs.Tryd.prog.info? T).map (fun i => (i.size, i.zero.map (·.cells.size), i.bytes)) = some (1, some 1, b)) : ∃ i0 z0, Go.Proofs.Tryd.prog.info? T = some i0 ∧ i0.zero = some z0 ∧ i0.size = 1 ∧ i0.bytes = b ∧ z0.cells.size = 1 := by
  cases hi : Go.Proofs.Tryd.prog.info? T with
  | none => rw [hi] at h; cases h
  | some i0 =>
    rw [hi] at h
    simp only [Option.map_some, Option.some.injEq, Prod.mk.injEq] at h
    obtain ⟨h1, h2, h3⟩ := h
    cases hz : i0.zero with
    | none => rw [hz] at h2; cases h2
    | some z0 =>
      rw [hz] at h2
      exact ⟨i0, z0, rfl, hz, h1, h3, by simpa using h2⟩
theorem run_zero3 (w : World) : (zeroValue 3).run Go.Proofs.Tryd.prog w = .ok (.int .i64 0) w := by
  rfl
/-- Taking away, as one step of a region that draws. -/
theorem step_del {P : Program} {κ : Type} [BEq κ] [LawfulBEq κ] {K' T E : TypeId} {enc : κ → Value} {ops : Array Oper} {o : Oper} {a : Act} {w : World} {K : Act → World → Prop} {Q : Exit → Act → World → Prop} {EE : Prop} (hg : o.guard = none) (m x : Operand) (U : TypeId) (hop : o.op = Op.call { callee := Callee.builtin Builtin.delete, args := #[m, x], argTypes := #[T, U] })
    (hK : Mp.Keys P K' enc) (hT : P.underlying T = some (.map K' E)) (b : Nat) (l : List (κ × Int)) (hm : a.eval m = .map (some b)) (hM : Mp.MapAt enc w b l) (k : κ) (hx : a.eval x = enc k)
    (h : ∀ ob, Mp.MapAt enc (w.putObj b ob) b (Mp.del k l) → K (a.put o.dst (.tuple #[])) (w.putObj b ob)) : if Region.wanted o (yielded ops a.tmps) = true then Oper.wp P o a w K Q else EE := by
  have hw : Region.wanted o (yielded ops a.tmps) = true := by simp [Region.wanted, hg]
  rw [if_pos hw]
  obtain ⟨ob, hrun, hM'⟩ := Mp.run_delete hK hT hM k o.type U
  unfold Oper.wp
  simp [execOp, hop, resolve, invoke, builtin, hm, hx, hrun, Result.andThen]
  exact h ob hM'
theorem below_put {B b : Nat} {a w : World} (h : Below B a w) (hp : B ≤ b) (o : Obj) : Below B a (w.putObj b o) :=
  ⟨h.os, h.tape, h.output, (by rw [World.putObj_size]; exact h.size), fun k hk => (World.putObj_heap_other (by omega)).trans (h.block k hk)⟩
theorem look_mem {k : Val} {v : Int} : ∀ {l : List (Val × Int)}, Mp.look k l = some v → ∃ p ∈ l, p.2 = v
  | [], h => by cases h
  | p :: l, h => by
    rw [Mp.look] at h
    cases hk : (k == p.1) with
    | true => rw [hk] at h; exact ⟨p, List.mem_cons_self .., Option.some.inj h⟩
    | false => rw [hk] at h; obtain ⟨q, h1, h2⟩ := look_mem (l := l) h; exact ⟨q, List.mem_cons_of_mem _ h1, h2⟩
theorem at_getD {h : List Evt} {i : Nat} {x : Evt} (e : h[i]? = some x) : h.getD i noE = x := by rw [List.getD_eq_getElem?_getD, e]; rfl

set_option maxRecDepth 100000 in
set_option maxHeartbeats 4000000 in
theorem see_in (h : List Evt) (hlen : h.length ≤ 1000) (sl : Value) (w W : World) (hb : Below w.heap.size w W) (hE : EvsAt w W sl h) (Bc : Nat) (c : Clk) (hc : ClkAt w.heap.size W Bc c) (i : Nat) (hi : i < h.length)
    (hv : ∀ p ∈ Ck.busy c, 0 ≤ p.2 ∧ p.2 < (h.length : Int)) (hends : (Ck.ends c).length = h.length) (hgone : (Ck.gone c).length ≤ 1000) :
    Calls Go.Proofs.Tryd.prog 28 #[.pointer (some ⟨Bc, 0, none⟩), sl, .int .i64 (i : Int)] W fun e W' => e = .returned (.int .i64 (seeC h c i).1) ∧ Below w.heap.size W W' ∧ ClkAt w.heap.size W' Bc (seeC h c i).2 := by
  obtain ⟨ad, cc, rfl, hev⟩ := id hE
  obtain ⟨x, hx⟩ : ∃ x, h[i]? = some x := ⟨_, List.getElem?_eq_getElem hi⟩
  have hxd := at_getD hx
  obtain ⟨b, off, a1, n1, c1, a2, n2, c2, rfl, hbn, hcell, hRight, hOuts⟩ := hev i x hx
  have k0 := hcell 0 _ rfl
  have k1 := hcell 1 _ rfl
  have k2 := hcell 2 _ rfl
  have k3 := hcell 3 _ rfl
  have k4 := hcell 4 _ rfl
  have k5 := hcell 5 _ rfl
  have k6 := hcell 6 _ rfl
  have k7 := hcell 7 _ rfl
  have k8 := hcell 8 _ rfl
  have k9 := hcell 9 _ rfl
  have k10 := hcell 10 _ rfl
  have k11 := hcell 11 _ rfl
  have k12 := hcell 12 _ rfl
  have k13 := hcell 13 _ rfl
  simp only [Nat.add_zero] at k0
  have hi1 : (i : Int) < (h.length : Int) := by omega
  have hi2 : (0 : Int) ≤ (i : Int) := by omega
  have h4096 : ¬ ((4096 : Int) ≤ (i : Int)) := by omega
  have h4096' : decide (4096 ≤ i) = false := by simp; omega
  clear hcell
  have hW0 : W.heap.size < (W.alloc (.cells (evtV x a1 n1 c1 a2 n2 c2) 47)).heap.size := by simp
  obtain ⟨mb, ml, eb, gv, hc⟩ := hc
  cases hr : rightE x with
  | false =>
    have hs : seeC h c i = (2, c) := by simp only [seeC, hxd, hr, h4096', Bool.not_false, cond_true, cond_false]
    rw [hs]
    rw [hr] at hRight
    go_enter Go.Proofs.Tryd.func28, Go.Proofs.Tryd.ntmps28
    go_wp2_with (go_at_call 33; refine (hRight _ (hb.trans ((Below.refl _ W).alloc hb.size _))).mono ?_; rintro e W2 ⟨rfl, hb2⟩)
    go_ret
    have hb3 : Below W.heap.size W W2 := ((Below.refl _ W).alloc (Nat.le_refl _) _).trans (hb2.mono (by simp))
    exact ⟨rfl, hb3.mono hb.size, _, _, _, _, hc.below hb3⟩
  | true =>
    have hOuts := hOuts hr
    rw [hr] at hRight
    go_enter Go.Proofs.Tryd.func28, Go.Proofs.Tryd.ntmps28
    go_wp2_with (go_at_call 33; refine (hRight _ (hb.trans ((Below.refl _ W).alloc hb.size _))).mono ?_; rintro e W2 ⟨rfl, hb2⟩)
    have hxb : W2.heap[W.heap.size]? = some (.cells (evtV x a1 n1 c1 a2 n2 c2) 47 (0, 0)) := (hb2.block _ hW0).trans (World.alloc_heap_new W _)
    have hb3 : Below W.heap.size W W2 := ((Below.refl _ W).alloc (Nat.le_refl _) _).trans (hb2.mono (by simp))
    have hc2 := hc.below hb3
    clear k0 k1 k2 k3 k4 k5 k6 k7 k8 k9 k10 k11 k12 k13
    have q0 := cellAt (i := 0) hxb rfl
    have p2 := cellAt (i := 2) hc2.row rfl
    have f2 := frozAt (i := 2) hc2.row
    by_cases ht : Ev.time x < Ck.last c
    · have hs : seeC h c i = (4, c) := by simp only [seeC, hxd, hr, h4096', ht, decide_true, Bool.not_true, cond_true, cond_false]
      go_region
      go_wp2
      go_ret
      rw [hs]
      exact ⟨rfl, (hb3.mono hb.size).drew, _, _, _, _, hc2.move fun _ _ e => e⟩
    · have htd : decide (Ev.time x < Ck.last c) = false := decide_eq_false ht
      go_region
      go_wp2
      have hc3 : ClkIn w.heap.size (W2.setCell ⟨Bc, 2, none⟩ (.int .i64 (Ev.time x))).drew Bc mb ml eb gv (Ck.busy c, (Ck.lost c, (Ev.time x, (Ck.gone c, Ck.ends c)))) := (hc2.setLast (Ev.time x)).move fun _ _ e => e
      have hxb3 : (W2.setCell ⟨Bc, 2, none⟩ (.int .i64 (Ev.time x))).drew.heap[W.heap.size]? = some (.cells (evtV x a1 n1 c1 a2 n2 c2) 47 (0, 0)) := (set_other (Nat.ne_of_gt (Array.getElem?_eq_some_iff.1 hc.row).1)).trans hxb
      have hb4 : Below w.heap.size W (W2.setCell ⟨Bc, 2, none⟩ (.int .i64 (Ev.time x))).drew := ((hb3.mono hb.size).setCell (p := ⟨Bc, 2, none⟩) hc.hB _).drew
      clear q0 p2 f2 hxb hc2 hb2
      generalize (W2.setCell ⟨Bc, 2, none⟩ (.int .i64 (Ev.time x))).drew = W3 at *
      clear hb3 hc hi2 hW0 hRight
      have q1 := cellAt (i := 1) hxb3 rfl
      have q2 := cellAt (i := 2) hxb3 rfl
      have q3 := cellAt (i := 3) hxb3 rfl
      have q4 := cellAt (i := 4) hxb3 rfl
      have p0 := cellAt (i := 0) hc3.row rfl
      have p1 := cellAt (i := 1) hc3.row rfl
      have hlk := Mp.run_lookup keysOk Go.Proofs.Tryd.underlying56 (run_zero3 _) (w := W3.drew) (MapAt.move hc3.m1 fun _ _ e => e) (Ev.cli x)
      cases hl : Mp.look (Ev.cli x) (Ck.busy c) with
      | none =>
        have hlk2 : (Instr.lookup 56 (.map (some mb)) (aggV (Ev.cli x)) true).run Go.Proofs.Tryd.prog W3.drew = .ok (.tuple #[.int .i64 0, .bool false]) W3.drew := by
          have h2 := hlk
          rw [show Ck.busy (Ck.busy c, (Ck.lost c, (Ev.time x, (Ck.gone c, Ck.ends c)))) = Ck.busy c from rfl, hl] at h2
          exact h2
        clear hlk
        by_cases hy : Ev.typ x = 1
        · have hyd : (Ev.typ x == 1) = true := by rw [hy]; rfl
          go_region
          go_wp2
          have hc4 : ClkIn w.heap.size W3.drew Bc mb ml eb gv (Ck.busy c, (Ck.lost c, (Ev.time x, (Ck.gone c, Ck.ends c)))) := hc3.move fun _ _ e => e
          have hxb4 : W3.drew.heap[W.heap.size]? = some (.cells (evtV x a1 n1 c1 a2 n2 c2) 47 (0, 0)) := hxb3
          have hb5 := hb4.drew
          clear hc3 hxb3 hb4 hlk2 q1 q2 q3 q4 p0 p1
          generalize W3.drew = W4 at *
          have q1 := cellAt (i := 1) hxb4 rfl
          have q2 := cellAt (i := 2) hxb4 rfl
          have q3 := cellAt (i := 3) hxb4 rfl
          have p0 := cellAt (i := 0) hc4.row rfl
          have p1 := cellAt (i := 1) hc4.row rfl
          have hlk := Mp.run_lookup keysOk Go.Proofs.Tryd.underlying56 (run_zero3 _) (w := W4.drew) (MapAt.move hc4.m2 fun _ _ e => e) (Ev.cli x)
          cases hm : Mp.look (Ev.cli x) (Ck.lost c) with
          | none =>
            have hlk2 : (Instr.lookup 56 (.map (some ml)) (aggV (Ev.cli x)) true).run Go.Proofs.Tryd.prog W4.drew = .ok (.tuple #[.int .i64 0, .bool false]) W4.drew := by
              have h2 := hlk
              rw [show Ck.lost (Ck.busy c, (Ck.lost c, (Ev.time x, (Ck.gone c, Ck.ends c)))) = Ck.lost c from rfl, hm] at h2
              exact h2
            clear hlk
            go_region
            go_wp2
            have hc6 : ClkIn w.heap.size W4.drew Bc mb ml eb gv (Ck.busy c, (Ck.lost c, (Ev.time x, (Ck.gone c, Ck.ends c)))) := hc4.move fun _ _ e => e
            have hxb6 : W4.drew.heap[W.heap.size]? = some (.cells (evtV x a1 n1 c1 a2 n2 c2) 47 (0, 0)) := hxb4
            have hb6 := hb5.drew
            clear hc4 hxb4 hb5 hlk2 q1 q2 q3 p0 p1
            generalize W4.drew = W5 at *
            have q1 := cellAt (i := 1) hxb6 rfl
            have q2 := cellAt (i := 2) hxb6 rfl
            have q3 := cellAt (i := 3) hxb6 rfl
            have p0 := cellAt (i := 0) hc6.row rfl
            have p1 := cellAt (i := 1) hc6.row rfl
            obtain ⟨ob, hup, hup2⟩ := Mp.run_update keysOk Go.Proofs.Tryd.underlying56 (w := W5.drew) (MapAt.move hc6.m1 fun _ _ e => e) (Ev.cli x) (i : Int)
            go_region
            go_wp2
            go_ret
            have hs : seeC h c i = (0, (Mp.upd (Ev.cli x) (i : Int) (Ck.busy c), (Ck.lost c, (Ev.time x, (Ck.gone c, Ck.ends c))))) := by
              simp only [seeC, hxd, hr, h4096', htd, Bool.not_true, cond_false, hl, hyd, cond_true, hm, Option.isSome_none]
            rw [hs]
            have hc7 : ClkIn w.heap.size W5.drew Bc mb ml eb gv (Ck.busy c, (Ck.lost c, (Ev.time x, (Ck.gone c, Ck.ends c)))) := hc6.move fun _ _ e => e
            exact ⟨rfl, below_put hb6.drew hc6.hb _, _, _, _, _, hc7.setBusy hup2⟩
          | some v =>
            have hlk2 : (Instr.lookup 56 (.map (some ml)) (aggV (Ev.cli x)) true).run Go.Proofs.Tryd.prog W4.drew = .ok (.tuple #[.int .i64 v, .bool true]) W4.drew := by
              have h2 := hlk
              rw [show Ck.lost (Ck.busy c, (Ck.lost c, (Ev.time x, (Ck.gone c, Ck.ends c)))) = Ck.lost c from rfl, hm] at h2
              exact h2
            clear hlk
            go_region
            go_wp2
            go_ret
            have hs : seeC h c i = (4, (Ck.busy c, (Ck.lost c, (Ev.time x, (Ck.gone c, Ck.ends c))))) := by
              simp only [seeC, hxd, hr, h4096', htd, Bool.not_true, cond_false, hl, hyd, cond_true, hm, Option.isSome_some]
            rw [hs]
            exact ⟨rfl, hb5.drew, _, _, _, _, hc4.move fun _ _ e => e⟩
        · have hyd : (Ev.typ x == 1) = false := beq_eq_false_iff_ne.2 hy
          have hs : seeC h c i = (4, (Ck.busy c, (Ck.lost c, (Ev.time x, (Ck.gone c, Ck.ends c))))) := by
            simp only [seeC, hxd, hr, h4096', htd, Bool.not_true, cond_false, hl, hyd]
          go_region
          go_wp2
          go_ret
          rw [hs]
          exact ⟨rfl, hb4.drew, _, _, _, _, hc3.move fun _ _ e => e⟩
      | some at' =>
        obtain ⟨p, hpm, hpe⟩ := look_mem hl
        obtain ⟨hp0, hp1⟩ := hv p hpm
        rw [hpe] at hp0 hp1
        obtain ⟨n, rfl⟩ : ∃ n : Nat, at' = (n : Int) := ⟨at'.toNat, by omega⟩
        have hn : n < h.length := by omega
        clear hpm hpe hp0 p
        have hlk2 : (Instr.lookup 56 (.map (some mb)) (aggV (Ev.cli x)) true).run Go.Proofs.Tryd.prog W3.drew = .ok (.tuple #[.int .i64 (n : Int), .bool true]) W3.drew := by
          have h2 := hlk
          rw [show Ck.busy (Ck.busy c, (Ck.lost c, (Ev.time x, (Ck.gone c, Ck.ends c)))) = Ck.busy c from rfl, hl] at h2
          exact h2
        clear hlk
        by_cases hy : Ev.typ x = 1
        · have hyd : (Ev.typ x == 1) = true := by rw [hy]; rfl
          go_region
          go_wp2
          have hc4 : ClkIn w.heap.size W3.drew Bc mb ml eb gv (Ck.busy c, (Ck.lost c, (Ev.time x, (Ck.gone c, Ck.ends c)))) := hc3.move fun _ _ e => e
          have hxb4 : W3.drew.heap[W.heap.size]? = some (.cells (evtV x a1 n1 c1 a2 n2 c2) 47 (0, 0)) := hxb3
          have hb5 := hb4.drew
          clear hc3 hxb3 hb4 hlk2 q1 q2 q3 q4 p0 p1
          generalize W3.drew = W4 at *
          have q1 := cellAt (i := 1) hxb4 rfl
          have q2 := cellAt (i := 2) hxb4 rfl
          have q3 := cellAt (i := 3) hxb4 rfl
          have p1 := cellAt (i := 1) hc4.row rfl
          have hlk2 := Mp.run_lookup keysOk Go.Proofs.Tryd.underlying56 (run_zero3 _) (w := W4.drew) (MapAt.move hc4.m2 fun _ _ e => e) (Ev.cli x)
          go_region
          go_wp2
          go_ret
          have hs : seeC h c i = (4, (Ck.busy c, (Ck.lost c, (Ev.time x, (Ck.gone c, Ck.ends c))))) := by
            simp only [seeC, hxd, hr, h4096', htd, Bool.not_true, cond_false, hl, hyd, cond_true]
          rw [hs]
          exact ⟨rfl, hb5.drew, _, _, _, _, hc4.move fun _ _ e => e⟩
        · have hyd : (Ev.typ x == 1) = false := beq_eq_false_iff_ne.2 hy
          go_region
          go_wp2
          have hc4 : ClkIn w.heap.size W3.drew Bc mb ml eb gv (Ck.busy c, (Ck.lost c, (Ev.time x, (Ck.gone c, Ck.ends c)))) := hc3.move fun _ _ e => e
          have hxb4 : W3.drew.heap[W.heap.size]? = some (.cells (evtV x a1 n1 c1 a2 n2 c2) 47 (0, 0)) := hxb3
          have hb5 := hb4.drew
          clear hc3 hxb3 hb4 hlk2 q1 q2 q3 q4 p0 p1
          generalize W3.drew = W4 at *
          have q1 := cellAt (i := 1) hxb4 rfl
          have q2 := cellAt (i := 2) hxb4 rfl
          have q3 := cellAt (i := 3) hxb4 rfl
          have q4 := cellAt (i := 4) hxb4 rfl
          have p0 := cellAt (i := 0) hc4.row rfl
          refine wp_join ?A (fun w' => ∃ ob, Mp.MapAt aggV w' mb (Mp.del (Ev.cli x) (Ck.busy c)) ∧ w' = W4.drew.putObj mb ob) ?reg ?cont
          case reg =>
            intro Q hQ
            go_region_law (refine step_del rfl (.tmp 77) (.tmp 79) 38 rfl keysOk Go.Proofs.Tryd.underlying56 mb _ rfl (MapAt.move hc4.m1 fun _ _ e => e) (Ev.cli x) rfl ?_; intro ob hob)
            all_goals exact hQ _ ⟨_, hob, rfl⟩
          rintro w' ⟨ob, hob, rfl⟩
          have hc5 : ClkIn w.heap.size (W4.drew.putObj mb ob) Bc mb ml eb gv (Mp.del (Ev.cli x) (Ck.busy c), (Ck.lost c, (Ev.time x, (Ck.gone c, Ck.ends c)))) := (ClkIn.move (W' := W4.drew) hc4 fun _ _ e => e).setBusy hob
          have hxb5 : (W4.drew.putObj mb ob).heap[W.heap.size]? = some (.cells (evtV x a1 n1 c1 a2 n2 c2) 47 (0, 0)) := (World.putObj_heap_other (fun e => by
            obtain ⟨es, kk, e1, _⟩ := hc4.m1
            rw [← e, hxb4] at e1
            cases e1)).trans hxb4
          have hb6 : Below w.heap.size W (W4.drew.putObj mb ob) := below_put hb5.drew hc4.hb _
          clear hc4 hxb4 hb5 q1 q2 q3 q4 p0 hob
          generalize W4.drew.putObj mb ob = W5 at *
          have q4 := cellAt (i := 4) hxb5 rfl
          by_cases hy2 : Ev.typ x = 2
          · have hyd2 : (Ev.typ x == 2) = true := by rw [hy2]; rfl
            go_wp2
            obtain ⟨y, hy'⟩ : ∃ y, h[n]? = some y := ⟨_, List.getElem?_eq_getElem hn⟩
            have hyg := at_getD hy'
            obtain ⟨b', off', a1', n1', c1', a2', n2', c2', e0, hbn', hcell, _, _⟩ := hev n y hy'
            cases e0
            have yb : ∀ p : Addr, p.block < w.heap.size → W5.cell? p = W.cell? p := fun p hp => hb6.cell hp
            have k5 := (yb ⟨b, _, none⟩ hbn).trans (hcell 5 _ rfl)
            have k9 := (yb ⟨b, _, none⟩ hbn).trans (hcell 9 _ rfl)
            have q11 := cellAt (i := 11) hxb5 rfl
            have hn1 : (n : Int) < (h.length : Int) := by omega
            have hn2 : (0 : Int) ≤ (n : Int) := by omega
            clear hcell yb hev
            have hO := fun W' hW' => hOuts W' (Ev.mod y) (Ev.op y) hW'
            refine wp_join3 (α := Option Addr) (β := Nat) (γ := Nat) ?A3 (fun w' => Below W5.drew.heap.size W5.drew w') ?reg3 ?cont3
            case reg3 =>
              intro Q hQ
              go_region_with (go_at_call 34; refine (hO _ (hb.trans hb6.drew)).mono ?_; rintro e W6 ⟨ra, rn, rc, rfl, hb7⟩)
              all_goals exact hQ _ ra rn rc hb7
            rintro w' ra rn rc hb7
            have hc7 := ClkIn.below (W := W5.drew) (hc5.move fun _ _ e => e) hb7
            have hb8 := hb6.drew.trans (hb7.mono (hb.trans hb6.drew).size)
            cases ho : (signOuts (Ev.mod y) (Ev.op y) (Ev.out x)).2 with
            | false =>
              have hs : seeC h c i = (4, (Mp.del (Ev.cli x) (Ck.busy c), (Ck.lost c, (Ev.time x, (Ck.gone c, Ck.ends c))))) := by
                simp only [seeC, hxd, hr, h4096', htd, Bool.not_true, cond_false, hl, hyd, hyd2, cond_true, Int.toNat_natCast, hyg, ho, Bool.not_false]
              go_wp2
              go_ret
              rw [hs]
              exact ⟨rfl, hb8, _, _, _, _, hc7⟩
            | true =>
              have hs : seeC h c i = (0, (Mp.del (Ev.cli x) (Ck.busy c), (Ck.lost c, (Ev.time x, (Ck.gone c, (Ck.ends c).set n (i : Int)))))) := by
                simp only [seeC, hxd, hr, h4096', htd, Bool.not_true, cond_false, hl, hyd, hyd2, cond_true, Int.toNat_natCast, hyg, ho]
              have p4 := cellAt (i := 4) hc7.row rfl
              have hn3 : n < (Ck.ends c).length := by omega
              have ce : w'.cell? ⟨eb, n, none⟩ = some (.int .i64 ((Ck.ends c)[n])) := cellAt (i := n) hc7.e (by simp [hn3])
              have fe := frozAt (i := n) hc7.e
              have hn1' : (n : Int) < ((Ck.ends c).length : Int) := by omega
              go_wp2
              go_ret
              rw [hs]
              exact ⟨rfl, hb8.setCell (p := ⟨eb, n, none⟩) hc7.he _, _, _, _, _, hc7.setEnds n (i : Int)⟩
          · have hyd2 : (Ev.typ x == 2) = false := beq_eq_false_iff_ne.2 hy2
            by_cases hy3 : Ev.typ x = 3
            · have hyd3 : (Ev.typ x == 3) = true := by rw [hy3]; rfl
              have hs : seeC h c i = (0, (Mp.del (Ev.cli x) (Ck.busy c), (Ck.lost c, (Ev.time x, (Ck.gone c ++ [(n : Int)], Ck.ends c))))) := by
                simp only [seeC, hxd, hr, h4096', htd, Bool.not_true, cond_false, hl, hyd, hyd2, hyd3, cond_true]
              have p3 := cellAt (i := 3) hc5.row rfl
              have f3 := frozAt (i := 3) hc5.row
              obtain ⟨i3, z3, hi3, hz3, hs3, hb3, hc3'⟩ := info1 (T := 3) (b := 8) (by kernel_rfl)
              have hg5 : W5.ownsRow w.heap.size 3 1 gv (Ck.gone c).length ((Ck.gone c).map (Value.int .i64)) := hc5.g
              have hwl : w.heap.size ≤ W5.heap.size := (hb.trans hb6).size
              have hc5a : ClkIn w.heap.size (W5.alloc (.cells #[.int .i64 (n : Int)] 3)) Bc mb ml eb gv (Mp.del (Ev.cli x) (Ck.busy c), (Ck.lost c, (Ev.time x, (Ck.gone c, Ck.ends c)))) := hc5.below ((Below.refl _ W5).alloc (Nat.le_refl _) _)
              go_wp2_with (at_builtin; refine wpList_append_lies _ rfl _ _ 55 rfl w.heap.size 3 i3 z3 1 8 Go.Proofs.Tryd.underlying55 hi3 hz3 hs3 hb3 hc3' (by decide) gv _ _ rfl (hg5.alloc _) ⟨W5.heap.size, 0, none⟩ 1 1 [.int .i64 (n : Int)] rfl rfl (cell_one' rfl _ _) (by simp [Value.oneCell']) (by decide) (by unfold maxLen; omega) (by omega) (by simp; omega) _ rfl ?_; intro g cap w1 hown hgrow hat hlt; have e3 := hc5a.grownRow hgrow; have s3 := cellAt (i := 3) e3 rfl; have s3f := frozAt (i := 3) e3)
              go_ret
              rw [hs]
              have hb7 : Below w.heap.size W w1 := (hb6.alloc (by omega) _).grown hgrow (by simp; omega) (fun k hk => hc5.gBlock hk)
              exact ⟨rfl, hb7.setCell (p := ⟨Bc, 3, none⟩) hc5.hB _, _, _, _, _, hc5a.setGone hgrow hown ⟨g, rfl, hat⟩⟩
            · have hyd3 : (Ev.typ x == 3) = false := beq_eq_false_iff_ne.2 hy3
              have hs : seeC h c i = (0, (Mp.del (Ev.cli x) (Ck.busy c), (Mp.upd (Ev.cli x) (i : Int) (Ck.lost c), (Ev.time x, (Ck.gone c, Ck.ends c))))) := by
                simp only [seeC, hxd, hr, h4096', htd, Bool.not_true, cond_false, hl, hyd, hyd2, hyd3, cond_true]
              have q1 := cellAt (i := 1) hxb5 rfl
              have q2 := cellAt (i := 2) hxb5 rfl
              have q3 := cellAt (i := 3) hxb5 rfl
              have p1 := cellAt (i := 1) hc5.row rfl
              obtain ⟨ol, hup, hup2⟩ := Mp.run_update keysOk Go.Proofs.Tryd.underlying56 (w := W5.drew) (MapAt.move hc5.m2 fun _ _ e => e) (Ev.cli x) (i : Int)
              go_wp2
              go_region
              go_wp2
              go_ret
              rw [hs]
              have hc7 : ClkIn w.heap.size W5.drew Bc mb ml eb gv (Mp.del (Ev.cli x) (Ck.busy c), (Ck.lost c, (Ev.time x, (Ck.gone c, Ck.ends c)))) := hc5.move fun _ _ e => e
              exact ⟨rfl, below_put hb6.drew hc5.hl _, _, _, _, _, hc7.setLost hup2⟩
end Go.WPall

set_option linter.unusedVariables false
set_option linter.unusedSimpArgs false
namespace Go.WPall
open Go Go.RowKit Go.Shelf Go.Abs Go.Inc
attribute [local go_sem] run_mk

structure CInv (N i : Nat) (c : Clk) : Prop where
  v : ∀ p ∈ Ck.busy c, 0 ≤ p.2 ∧ p.2 < (i : Int)
  e : (Ck.ends c).length = N
  g : (Ck.gone c).length ≤ i
theorem mem_upd {k : Val} {v : Int} : ∀ {l : List (Val × Int)} {p}, p ∈ Mp.upd k v l → p ∈ l ∨ p.2 = v
  | [], p, h => by rw [Mp.upd, List.mem_singleton] at h; exact .inr (by rw [h])
  | q :: l, p, h => by
    rw [Mp.upd] at h
    cases hk : (k == q.1) with
    | true =>
      rw [hk, cond_true] at h
      rcases List.mem_cons.1 h with h | h
      · exact .inr (by rw [h])
      · exact .inl (List.mem_cons_of_mem _ h)
    | false =>
      rw [hk, cond_false] at h
      rcases List.mem_cons.1 h with h | h
      · exact .inl (h ▸ List.mem_cons_self ..)
      · exact (mem_upd h).imp (List.mem_cons_of_mem _) id
theorem mem_del {k : Val} : ∀ {l : List (Val × Int)} {p}, p ∈ Mp.del k l → p ∈ l
  | [], p, h => h
  | q :: l, p, h => by
    rw [Mp.del] at h
    cases hk : (k == q.1) with
    | true => rw [hk, cond_true] at h; exact List.mem_cons_of_mem _ h
    | false =>
      rw [hk, cond_false] at h
      rcases List.mem_cons.1 h with h | h
      · exact h ▸ List.mem_cons_self ..
      · exact List.mem_cons_of_mem _ (mem_del h)
theorem CInv.mono {N i : Nat} {c : Clk} (h : CInv N i c) : CInv N (i + 1) c := ⟨fun p hp => by have := h.v p hp; omega, h.e, Nat.le_succ_of_le h.g⟩
theorem cinv_see {N i : Nat} {c : Clk} (h : List Evt) (k : CInv N i c) : CInv N (i + 1) (seeC h c i).2 := by
  have k1 := k.mono
  have hd : ∀ x : Evt, ∀ p ∈ Mp.del (Ev.cli x) (Ck.busy c), 0 ≤ p.2 ∧ p.2 < ((i + 1 : Nat) : Int) := fun x p hp => k1.v p (mem_del hp)
  unfold seeC
  dsimp only
  cases decide (4096 ≤ i) with
  | true => exact k1
  | false =>
  cases rightE (h.getD i noE) with
  | false => exact k1
  | true =>
  cases decide (Ev.time (h.getD i noE) < Ck.last c) with
  | true => exact k1
  | false =>
  simp only [cond_false, Bool.not_true]
  cases hl : Mp.look (Ev.cli (h.getD i noE)) (Ck.busy c) with
  | none =>
    dsimp only
    cases (Ev.typ (h.getD i noE) == 1) with
    | false => exact ⟨k1.v, k1.e, k1.g⟩
    | true =>
      dsimp only [cond_true]
      cases (Mp.look (Ev.cli (h.getD i noE)) (Ck.lost c)).isSome with
      | true => exact ⟨k1.v, k1.e, k1.g⟩
      | false =>
        refine ⟨fun p hp => ?_, k1.e, k1.g⟩
        rcases mem_upd hp with hp | hp
        · exact k1.v p hp
        · rw [hp]; omega
  | some a =>
    dsimp only
    cases (Ev.typ (h.getD i noE) == 1) with
    | true => exact ⟨k1.v, k1.e, k1.g⟩
    | false =>
      dsimp only [cond_false]
      cases (Ev.typ (h.getD i noE) == 2) with
      | true =>
        dsimp only [cond_true]
        cases (signOuts (Ev.mod (h.getD a.toNat noE)) (Ev.op (h.getD a.toNat noE)) (Ev.out (h.getD i noE))).2 with
        | false => exact ⟨hd _, k1.e, k1.g⟩
        | true => exact ⟨hd _, (List.length_set ..).trans k1.e, k1.g⟩
      | false =>
        dsimp only [cond_false]
        cases (Ev.typ (h.getD i noE) == 3) with
        | true => exact ⟨hd _, k1.e, by show (Ck.gone c ++ [a]).length ≤ i + 1; rw [List.length_append]; have := k.g; simp; omega⟩
        | false => exact ⟨hd _, k1.e, k1.g⟩
theorem EvsAt.up {w W : World} {sl : Value} {h : List Evt} (o : Obj) (k : EvsAt w W sl h) : EvsAt (w.alloc o) W sl h := by
  obtain ⟨ad, c, e, k⟩ := k
  refine ⟨ad, c, e, fun i x hx => ?_⟩
  obtain ⟨b, off, a1, n1, c1, a2, n2, c2, e1, h1, h2, h3, h4⟩ := k i x hx
  have hb : ∀ W', Below (w.alloc o).heap.size (w.alloc o) W' → Below w.heap.size w W' := fun W' hb => ((Below.refl _ w).alloc (Nat.le_refl _) o).trans (hb.mono (by simp))
  exact ⟨b, off, a1, n1, c1, a2, n2, c2, e1, by simp; omega, h2, fun W' hW => h3 W' (hb W' hW), fun hr W' m o hW => h4 hr W' m o (hb W' hW)⟩
theorem ClkAt.mono {n0 n1 : Nat} {W : World} {Bc : Nat} {c : Clk} (h : ClkAt n0 W Bc c) (hn : n1 ≤ n0) : ClkAt n1 W Bc c := by
  obtain ⟨mb, ml, eb, gv, k⟩ := h
  refine ⟨mb, ml, eb, gv, Nat.le_trans hn k.hB, k.row, Nat.le_trans hn k.hb, Nat.le_trans hn k.hl, Nat.le_trans hn k.he, k.ne, k.m1, k.m2, ⟨k.g.1, ?_⟩, k.e, k.gn⟩
  rcases k.g.2 with h | ⟨g, cap, cur, q1, q2, q3⟩
  · exact .inl h
  · exact .inr ⟨g, cap, cur, q1, Nat.le_trans hn q2, q3⟩
theorem ClkAt.setLow {n0 : Nat} {W : World} {Bc : Nat} {c : Clk} (h : ClkAt n0 W Bc c) {b i : Nat} (hb : b < n0) (v : Value) : ClkAt n0 (W.setCell ⟨b, i, none⟩ v) Bc c := by
  obtain ⟨mb, ml, eb, gv, k⟩ := h
  have o : ∀ {k' : Nat} {o : Obj}, n0 ≤ k' → W.heap[k']? = some o → (W.setCell ⟨b, i, none⟩ v).heap[k']? = some o := fun hk e => (set_other (by omega)).trans e
  exact ⟨mb, ml, eb, gv, k.hB, o k.hB k.row, k.hb, k.hl, k.he, k.ne, MapAt.move k.m1 (fun _ _ => o k.hb), MapAt.move k.m2 (fun _ _ => o k.hl), owns_move k.g (fun b' cs hb' e => o (k.gBlock hb') e), o k.he k.e, k.gn⟩
theorem clk_begun (w : World) (n : Nat) : ClkAt w.heap.size ((((w.alloc (.map #[] 0)).alloc (.map #[] 0)).alloc (.cells (madeCells #[.int .i64 0] n) 3)).alloc (.cells (clkRow w.heap.size (w.heap.size + 1) 0 (.slice none 0 0) (w.heap.size + 1 + 1) n) 58)) (w.heap.size + 1 + 1 + 1) (begunC n) := by
  refine ⟨w.heap.size, w.heap.size + 1, w.heap.size + 1 + 1, .slice none 0 0, by omega, ?_, by omega, by omega, by omega, by omega, ⟨#[], 0, ?_, rfl⟩, ⟨#[], 0, ?_, rfl⟩, World.ownsRow_nil _ _ _ _, ?_, by simp [Value.ownBlock]⟩
  · have := World.alloc_heap_new (((w.alloc (.map #[] 0)).alloc (.map #[] 0)).alloc (.cells (madeCells #[.int .i64 0] n) 3)) (.cells (clkRow w.heap.size (w.heap.size + 1) 0 (.slice none 0 0) (w.heap.size + 1 + 1) n) 58)
    simp only [World.size_alloc] at this
    refine this.trans ?_
    show _ = some (Obj.cells (clkRow w.heap.size (w.heap.size + 1) 0 (.slice none 0 0) (w.heap.size + 1 + 1) (List.replicate n (0 : Int)).length) 58 (0, 0))
    rw [List.length_replicate]
  · rw [Below.heap_alloc _ _ _ (by simp; omega), Below.heap_alloc _ _ _ (by simp; omega), Below.heap_alloc _ _ _ (by simp)]
    exact World.alloc_heap_new w _
  · rw [Below.heap_alloc _ _ _ (by simp), Below.heap_alloc _ _ _ (by simp)]
    have := World.alloc_heap_new (w.alloc (.map #[] 0)) (.map #[] 0)
    simpa using this
  · rw [Below.heap_alloc _ _ _ (by simp)]
    have := World.alloc_heap_new ((w.alloc (.map #[] 0)).alloc (.map #[] 0)) (.cells (madeCells #[.int .i64 0] n) 3)
    simp only [World.size_alloc] at this
    refine this.trans ?_
    show _ = some (Obj.cells ((List.replicate n (0 : Int)).map (Value.int .i64)).toArray 3 (0, 0))
    have : madeCells #[Value.int .i64 0] n = ((List.replicate n (0 : Int)).map (Value.int .i64)).toArray := by
      apply Array.ext
      · simp [madeCells]
      · intro i h1 h2
        simp [madeCells, Nat.mod_one]
    rw [this]

set_option maxRecDepth 100000 in
set_option maxHeartbeats 2000000 in
theorem all_in (h : List Evt) (hlen : h.length ≤ 1000) (sl : Value) (w : World) (hE : EvsAt w w sl h) :
    Calls Go.Proofs.Tryd.prog 20 #[sl] w fun e w' => ∃ Bc, e = .returned (.tuple #[.pointer (some ⟨Bc, 0, none⟩), .agg #[.int .i64 (pairAll h).2.1, .int .i64 (pairAll h).2.2.1]]) ∧ Below w.heap.size w w' ∧ ClkAt w.heap.size w' Bc (pairAll h).1 := by
  obtain ⟨ad, cc, rfl, _⟩ := id hE
  go_enter Go.Proofs.Tryd.func20, Go.Proofs.Tryd.ntmps20
  go_wp2_with (go_at_call 27; refine (begun_in h.length hlen _).mono ?_; rintro e w1 ⟨rfl, rfl⟩)
  have hE1 := hE.up (.cells #[.int .i64 0, .int .i64 0] 27)
  have hw1 : Below w.heap.size w (w.alloc (.cells #[.int .i64 0, .int .i64 0] 27)) := (Below.refl _ w).alloc (Nat.le_refl _) _
  have hc0 := clk_begun (w.alloc (.cells #[.int .i64 0, .int .i64 0] 27)) h.length
  have hf0 := World.alloc_heap_new w (.cells #[.int .i64 0, .int .i64 0] 27)
  simp only [World.size_alloc] at hc0
  go_loopw [12] (fun q wr => ∃ (i : Nat) (c : Clk), q = .int .i64 (i : Int) ∧ i ≤ h.length ∧ allFrom h (h.length + 1 - i) i c = pairAll h ∧ Below (w.heap.size + 1) (w.alloc (.cells #[.int .i64 0, .int .i64 0] 27)) wr ∧ ClkAt (w.heap.size + 1) wr (w.heap.size + 1 + 1 + 1 + 1) c ∧ CInv h.length i c) (fun q _ => 2000 - (intOf q).toNat)
  case atStart =>
    refine ⟨0, begunC h.length, rfl, Nat.zero_le _, rfl, ?_, hc0, ⟨(fun p hp => nomatch hp), List.length_replicate .., Nat.le_refl 0⟩⟩
    exact ((((Below.refl _ _).alloc (by simp) _).alloc (by simp) _).alloc (by simp) _).alloc (by simp) _
  case round =>
    obtain ⟨i, c, rfl, hi, hA, hB, hC, hI⟩ := hrel
    have hw2 : IntKind.i64.wrap ((i : Int) + 1) = (i : Int) + 1 := by rw [IntKind.wrap_i64]; omega
    have hB' : Below (w.alloc (.cells #[.int .i64 0, .int .i64 0] 27)).heap.size (w.alloc (.cells #[.int .i64 0, .int .i64 0] 27)) wr := by simpa using hB
    have hstep : allFrom h (h.length + 1 - i) i c = bif decide (i < h.length) then
      (match seeC h c i with
       | (e, c') => bif e != 0 then (c', (e, ((i : Int) + 1, ()))) else allFrom h (h.length + 1 - (i + 1)) (i + 1) c')
    else (c, (0, (0, ()))) := by
      rw [show h.length + 1 - i = (h.length + 1 - (i + 1)) + 1 by omega]; rfl
    by_cases hlt : i < h.length
    · have hc : (i : Int) < (h.length : Int) := by omega
      have hs := see_in h hlen _ (w.alloc (.cells #[.int .i64 0, .int .i64 0] 27)) wr hB' (((hE.below hw1).up _).below hB') (w.heap.size + 1 + 1 + 1 + 1) c (by simpa using hC) i hlt (fun p hp => by have := hI.v p hp; omega) hI.e (by have := hI.g; omega)
      have hci := cinv_see h hI
      rw [decide_eq_true hlt, cond_true] at hstep
      generalize seeC h c i = r at *
      obtain ⟨e0, c'⟩ := r
      dsimp only at hs hstep hci
      by_cases hz : e0 = 0
      · subst hz
        go_wp2_with (go_at_call 28; refine hs.mono ?_; rintro e w3 ⟨rfl, hb3, hc3⟩)
        exact ⟨⟨i + 1, c', by simp, by omega, (by rw [← hA, hstep]; rfl), hB.trans (by simpa using hb3), by simpa using hc3, hci⟩, by simp [intOf]; omega⟩
      · have hz' : (e0 != 0) = true := by simp [hz]
        rw [hz', cond_true, hA] at hstep
        go_wp2_with (go_at_call 28; refine hs.mono ?_; rintro e w3 ⟨rfl, hb3, hc3⟩; have e3 := (hb3.block w.heap.size (by simp)).trans ((hB'.block w.heap.size (by simp)).trans hf0); have s0 := cellAt (i := 0) e3 rfl; have s1 := cellAt (i := 1) e3 rfl; have sf0 := frozAt (i := 0) e3; have sf1 := frozAt (i := 1) e3)
        have e3 := (hb3.block w.heap.size (by simp)).trans ((hB'.block w.heap.size (by simp)).trans hf0)
        have t0 := cellAt (i := 0) (set_same (i := 1) (v := .int .i64 ((i : Int) + 1)) (set_same (i := 0) (v := .int .i64 e0) e3)) rfl
        have t1 := cellAt (i := 1) (set_same (i := 1) (v := .int .i64 ((i : Int) + 1)) (set_same (i := 0) (v := .int .i64 e0) e3)) rfl
        refine bodyPost_ret (v := .tuple #[.pointer (some ⟨w.heap.size + 1 + 1 + 1 + 1, 0, none⟩), .agg #[.int .i64 e0, .int .i64 ((i : Int) + 1)]]) (by simp [results, Go.Proofs.Tryd.results20, go_sem, t0, t1]) rfl ?_
        rw [hstep]
        exact ⟨_, rfl, ((hw1.trans ((hB'.trans hb3).mono (by simp))).setCell (p := ⟨w.heap.size, 0, none⟩) (Nat.le_refl _) _).setCell (p := ⟨w.heap.size, 1, none⟩) (Nat.le_refl _) _, ((hc3.setLow (by simp) _).setLow (by simp) _).mono (by simp)⟩
    · have hc : ¬ ((i : Int) < (h.length : Int)) := by omega
      rw [decide_eq_false hlt, cond_false, hA] at hstep
      rw [hstep]
      have e3 := (hB'.block w.heap.size (by simp)).trans hf0
      have s0 := cellAt (i := 0) e3 rfl
      have s1 := cellAt (i := 1) e3 rfl
      have sf0 := frozAt (i := 0) e3
      have sf1 := frozAt (i := 1) e3
      go_wp2
      have t0 := cellAt (i := 0) (set_same (i := 1) (v := .int .i64 0) (set_same (i := 0) (v := .int .i64 0) e3)) rfl
      have t1 := cellAt (i := 1) (set_same (i := 1) (v := .int .i64 0) (set_same (i := 0) (v := .int .i64 0) e3)) rfl
      refine bodyPost_ret (v := .tuple #[.pointer (some ⟨w.heap.size + 1 + 1 + 1 + 1, 0, none⟩), .agg #[.int .i64 0, .int .i64 0]]) (by simp [results, Go.Proofs.Tryd.results20, go_sem, t0, t1]) rfl ?_
      exact ⟨_, rfl, ((hw1.trans (hB'.mono (by simp))).setCell (p := ⟨w.heap.size, 0, none⟩) (Nat.le_refl _) _).setCell (p := ⟨w.heap.size, 1, none⟩) (Nat.le_refl _) _, ((hC.setLow (by omega) _).setLow (by omega) _).mono (by omega)⟩
end Go.WPall
