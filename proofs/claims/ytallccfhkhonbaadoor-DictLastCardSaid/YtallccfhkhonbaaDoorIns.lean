/- Copies, clears and rows of elements of several cells. Own text of this session. -/
import Derived.Test.YtallccfhkhonbaaDoorAbs25
import Derived.WalkKit
import Derived.Deep.LoopGhost
import Derived.Deep.RegionLaw
import Derived.Lib.Walk
import Derived.Lib.SliceRun
import Derived.Lib.AppendZeros
import Derived.Lib.AppendZerosOnto
import Derived.Lib.Overlaps
import Derived.Laws.Externs
import Derived.Laws.IdiomCopy
import Derived.Laws.CopyRow
import Derived.Laws.NewBlocks
set_option linter.unusedVariables false
set_option linter.unusedSimpArgs false
namespace Go.Abs
open Go Go.RowKit
variable {P : Program}

/-- Cells written into a row, as a row. -/
theorem setCells_row (w : World) (g o : Nat) (cur : Array Value) (t : TypeId) (vs : List Value) (hg : w.heap[g]? = some (.cells cur t (0, 0))) (hf : o + vs.length ≤ cur.size) (h1 : ∀ v ∈ vs, v.oneCell' = true) :
    w.setCells g o vs = w.setRow g (cur.toList.take o ++ vs ++ cur.toList.drop (o + vs.length)).toArray := by
  have a := run_storeCells_at default g o t vs 0 cur w hg (by simpa using hf) h1
  have b := run_storeCells_cells (P := default) g o vs 0 w (fun j hj => by
    rw [cell_of_row w g _ cur t (0, 0) hg, Array.getElem?_eq_getElem (by simp; omega)]; rfl) (fun j hj => frozen_of_row w g _ cur t hg) h1
  rw [a] at b
  simpa using b.symm

theorem run_copy_n (w : World) (dT sT ty elem : TypeId) (g o dLen dCap : Nat) (a : Addr) (sLen sCap size : Nat) (cur : Array Value) (t : TypeId) (cs : List Value)
    (hu : P.underlying dT = some (.slice elem)) (hs : (P.info? elem).map (·.size) = some size)
    (hg : w.heap[g]? = some (.cells cur t (0, 0))) (hn : cs.length = Nat.min sLen dLen * size)
    (hsrc : ∀ j v, cs[j]? = some v → w.cell? (a.add j) = some v) (hfit : o + cs.length ≤ cur.size) (h1 : ∀ v ∈ cs, v.oneCell' = true) :
    (Builtin.copy_ #[dT, sT] ty #[.slice (some ⟨g, o, none⟩) dLen dCap, .slice (some a) sLen sCap]).run P w =
      .ok (goInt (Nat.min sLen dLen)) (w.setRow g (cur.toList.take o ++ cs ++ cur.toList.drop (o + cs.length)).toArray) := by
  have hl := run_loadCells_list (P := P) w a cs hsrc
  have hst := run_storeCells_at P g o t cs 0 cur w hg (by simpa using hfit) h1
  cases hq : P.info? elem with
  | none => simp [hq] at hs
  | some i =>
    have hi : i.size = size := by simpa [hq] using hs
    simp [Builtin.copy_, run_underlying hu, Builtin.lenOf, Builtin.firstCells, sizeOf, typeInfo, hq, hi, ← hn, hl, hst]

theorem run_clear_n (w : World) (t e ty : TypeId) (z : Value) (size : Nat) (ht : P.underlying t = some (.slice e)) (hv : ∀ w, (zeroValue e).run P w = .ok z w) (hz : z.cells.size = size) (h1 : ∀ v ∈ z.cells.toList, v.oneCell' = true)
    (g o n c : Nat) (cur : Array Value) (te : TypeId) (hn : 0 < n) (hg : w.heap[g]? = some (.cells cur te (0, 0))) (hfit : o + n * size ≤ cur.size) :
    (Builtin.clear_ #[t] ty #[.slice (some ⟨g, o, none⟩) n c]).run P w = .ok (.tuple #[]) (w.setRow g (cur.toList.take o ++ (Builtin.zeroCells z.cells n).toList ++ cur.toList.drop (o + n * size)).toArray) := by
  have hl : (Builtin.zeroCells z.cells n).toList.length = n * size := by rw [Array.length_toList, size_zeroCells, hz]
  have hst := run_storeCells_at P g o te (Builtin.zeroCells z.cells n).toList 0 cur w hg (by rw [hl]; simpa using hfit) (zeroCells_one h1)
  simp only [Nat.add_zero, hl] at hst
  obtain ⟨m, rfl⟩ : ∃ m, n = m + 1 := ⟨n - 1, by omega⟩
  simp [Builtin.clear_, run_underlying ht, hv, hst]

theorem wp_copy_r (w : World) {o : Oper} {a : Act} {K : Act → World → Prop} {Q : Exit → Act → World → Prop} (d s : Operand) (t t' : TypeId)
    (ho : o.op = .call { callee := .builtin .copy, args := #[d, s], argTypes := #[t, t'] }) (v u : Value) (hd : a.eval d = v) (hs : a.eval s = u) {v' : Value} {w' : World}
    (hr : (Builtin.copy_ #[t, t'] o.type #[v, u]).run P w = .ok v' w') (h : K (a.put o.dst v') w') : o.wp P a w K Q := by
  unfold Oper.wp execOp
  simp only [ho, resolve, invoke, builtin, Sem.run_bind, Sem.run_pure, Result.andThen_ok, List.map_toArray, List.map_cons, List.map_nil, hd, hs, hr]
  exact h

theorem wpList_copy_r (w : World) {ops : Array Oper} {rest : List Oper} {o : Oper} {a : Act} {Q : Exit → Act → World → Prop} (hgd : o.guard = none) (d s : Operand) (t t' : TypeId)
    (ho : o.op = .call { callee := .builtin .copy, args := #[d, s], argTypes := #[t, t'] }) (v u : Value) (hd : a.eval d = v) (hs : a.eval s = u) {v' : Value} {w' : World}
    (hr : (Builtin.copy_ #[t, t'] o.type #[v, u]).run P w = .ok v' w') (h : wpList P ops Q rest (a.put o.dst v') w') : wpList P ops Q (o :: rest) a w :=
  wpList_plain hgd fun _ hK => wp_copy_r w d s t t' ho v u hd hs hr (hK _ _ h)

theorem step_copy_r {ops : Array Oper} {o : Oper} {a : Act} {w : World} {K : Act → World → Prop} {Q : Exit → Act → World → Prop} {E : Prop}
    (hg : o.guard = none) (d x : Operand) (dT sT : TypeId) (hop : o.op = Op.call { callee := Callee.builtin Builtin.copy, args := #[d, x], argTypes := #[dT, sT] })
    (v u : Value) (hd : a.eval d = v) (hx : a.eval x = u) {v' : Value} {w' : World} (hr : (Builtin.copy_ #[dT, sT] o.type #[v, u]).run P w = .ok v' w') (hK : K (a.put o.dst v') w') :
    if Region.wanted o (yielded ops a.tmps) = true then Oper.wp P o a w K Q else E := by
  have hw : Region.wanted o (yielded ops a.tmps) = true := by simp [Region.wanted, hg]
  rw [if_pos hw]
  exact wp_copy_r w d x dT sT hop v u hd hx hr hK

theorem wpList_clear_r (w : World) {ops : Array Oper} {rest : List Oper} {o : Oper} {a : Act} {Q : Exit → Act → World → Prop} (hgd : o.guard = none) (d : Operand) (t : TypeId)
    (ho : o.op = .call { callee := .builtin .clear, args := #[d], argTypes := #[t] }) (v : Value) (hd : a.eval d = v) {v' : Value} {w' : World}
    (hr : (Builtin.clear_ #[t] o.type #[v]).run P w = .ok v' w') (h : wpList P ops Q rest (a.put o.dst v') w') : wpList P ops Q (o :: rest) a w :=
  wpList_plain hgd fun K hK => by
    unfold Oper.wp execOp
    simp only [ho, resolve, invoke, builtin, Sem.run_bind, Sem.run_pure, Result.andThen_ok, List.map_toArray, List.map_cons, List.map_nil, hd, hr]
    exact hK _ _ h

/-- slices.overlaps where the second slice lies in a plain block that has cells. -/
theorem run_overlaps_own (w : World) (tS tR e : TypeId) (ht : P.underlying tS = some (.slice e)) (size : Nat) (hz : ∀ w, (Go.sizeOf e).run P w = .ok size w)
    (a b : Addr) (la ca lb cb : Nat) (hne : a.block ≠ b.block) (va : Value) (hva : w.cell? a = some va) (cur : Array Value) (E : TypeId) (hb : w.heap[b.block]? = some (.cells cur E (0, 0))) (hk : cur.size ≠ 0) :
    (Extern.SlicesOverlaps.overlaps #[tS, tS] #[tR] #[.slice (some a) la ca, .slice (some b) lb cb]).run P w = .ok (.bool false) w := by
  have hnb : (a.block != b.block) = true := by simpa using hne
  have hnb' : (a.block == b.block) = false := by simpa using hne
  obtain ⟨tA, kA, hsa⟩ : ∃ tA kA, w.shape? a.block = some (tA, kA + 1) := by
    unfold World.cell? at hva
    unfold World.shape?
    split at hva
    · rename_i c t fr hc
      split at hva
      · cases hva
      · obtain ⟨h1, h2⟩ := Array.getElem?_eq_some_iff.1 hva
        exact ⟨t, c.size - 1, by simp; omega⟩
    · cases hva
  have hsb : w.shape? b.block = some (E, cur.size) := by simp [World.shape?, hb]
  have hfb : w.frozen? b = false := by simp [World.frozen?, hb]
  have hfb' : w.frozen? { block := b.block, off := cur.size } = false := by simp [World.frozen?, hb]
  change Sem.run P (α := Value) (do
    let some t := (#[tS, tS] : Array TypeId)[0]? | stuck "slices.overlaps: no parameter types"
    let .slice elem ← underlying t | stuck "slices.overlaps: slice type expected"
    let size ← sizeOf elem
    match (some a : Option Addr), (some b : Option Addr) with
    | some a, some b =>
      if la = 0 ∨ lb = 0 ∨ size = 0 then pure (Value.bool false)
      else if a.block != b.block && (← frozen a) && (← frozen b) then unsupported .addressObserved
      else do
        if a.block != b.block then do
          noView a; noView b
          if ← mayBeOne a b then return Value.bool ((← choose (.extern "sameAddr.stringBytes" 2)) == 1)
        pure (Value.bool (a.block == b.block && a.off < b.off + lb * size && b.off < a.off + la * size))
    | _, _ => pure (Value.bool false)) w = _
  by_cases h0 : la = 0 ∨ lb = 0 ∨ size = 0
  · simp [run_underlying ht, hz, h0]
  · obtain ⟨kB, hkB⟩ : ∃ kB, cur.size = kB + 1 := ⟨cur.size - 1, by omega⟩
    rw [hkB] at hsb hfb'
    cases hfa : w.frozen? a <;> cases hfe : w.frozen? { block := a.block, off := kA + 1 } <;>
      simp [run_underlying ht, hz, h0, hnb, hnb', frozen, noView, viewAt, mayBeOne, stringish, shape, Sem.run, hsa, hsb, hfa, hfe, hfb, hfb']
section
variable {gl : List (Nat × AVal)} {V0 V : Vis} {w0 : Base} {w : World} {x : Ctx} {ρ : St} {a : Act} {nt : Nat}

/-- An owned slice that is written in place. -/
theorem R.inplace {w' : World} {k bl E : Nat} {sz : Nat × Nat} {t : Ty} {xs : t.sl.den} {row : Array Value} (h : R gl V0 w0 nt x ρ a w) (hkn : k < nt) {c0 : AVal} (hk : get ρ (br k) = some c0) (hsg : x.sg k = some (bl, sz)) (h0 : sz.2 ≠ 0) (h5 : sz.1 = t.size)
    (hos : w'.os = w.os) (htp : w'.tape = w.tape) (hou : w'.output = w.output) (hsz : w'.heap.size = w.heap.size) (hoth : ∀ j, j ≠ bl → w'.heap[j]? = w.heap[j]?) (hrow : w'.heap[bl]? = some (.cells row E (0, 0)))
    (hrs : row.size = sz.2 * t.size) (hrep : RepCs x (.ar t xs) row.toList) :
    R gl V0 w0 nt { x with sg := fun j => if j = k then some (bl, sz) else x.sg j } (put (br k) (.ar t xs) (killAll k ρ)) a w' := by
  have hg := h.good
  obtain ⟨s1, s2, s3⟩ := hg.sgs k bl sz hsg h0
  have hnt : ∀ q n c s, x.tg q = some (.slice (some ⟨bl, 0, none⟩) n c, s) → n = c := fun q n c s e => by
    apply Classical.byContradiction
    intro hnc
    obtain ⟨ad', n', c', e1, _, e2⟩ := hg.tag q _ _ e
    cases e1
    obtain ⟨b, cur, E2, a1, _, _, _, _, a6⟩ := e2.resolve_left hnc
    cases a1
    exact a6 k sz h0 hsg
  refine h.reown (bl' := bl) (sz' := sz) hkn hk ?_ ?_ (by omega) (fun j b s hj e z => hoth b (fun hb => by subst hb; exact hj (hg.inj _ _ _ _ _ e hsg z h0))) (fun q n c s b e hnc => hoth b (fun hb => by subst hb; exact hnc (hnt q n c s e)))
    (.inr ⟨h0, row, E, hrow, hrep, ⟨h5, hrs⟩, s1, s3, fun j b s hj e z hb => by subst hb; exact hj (hg.inj _ _ _ _ _ e hsg z h0), hnt⟩)
  · intro b o v e
    have h1 := hg.vis b o v e
    have hne : b ≠ bl := fun hb => by subst hb; rw [s3] at e; cases e
    rw [World.cell?_of_block (a := ⟨b, o, none⟩) (hoth b hne)]; exact h1
  · exact ⟨hos.trans hg.bel.os, htp.trans hg.bel.tape, hou.trans hg.bel.output, by rw [hsz]; exact hg.bel.size, fun j hj => by rw [hoth j (fun e => hj (e ▸ s1))]; exact hg.bel.block j hj⟩

/-- An owned slice that moves into a new block. -/
theorem R.moved {w' : World} {k E G : Nat} {t : Ty} {xs : t.sl.den} {row : Array Value} (h : R gl V0 w0 nt x ρ a w) (hkn : k < nt) {c0 : AVal} (hk : get ρ (br k) = some c0) (hG : G ≠ 0)
    (hw : Below w.heap.size w w') (hrow : w'.heap[w.heap.size]? = some (.cells row E (0, 0))) (hrs : row.size = G * t.size) (hrep : RepCs x (.ar t xs) row.toList) :
    R gl V0 w0 nt { x with sg := fun j => if j = k then some (w.heap.size, (t.size, G)) else x.sg j } (put (br k) (.ar t xs) (killAll k ρ)) a w' := by
  have hg := h.good
  refine h.reown (bl' := w.heap.size) (sz' := (t.size, G)) hkn hk (hg.vis.below hw) (hg.bel.below hw) hw.size (fun j b s hj e z => hw.block b (hg.sgs j b s e z).2.1) (fun q n c s b e hnc => ?_)
    (.inr ⟨hG, row, E, hrow, hrep, ⟨rfl, hrs⟩, .inl hg.bel.size, fun o => vis_new hg.vis (Nat.le_refl _) o, fun j b s hj e z hb => ?_, fun q n c s e => ?_⟩)
  · obtain ⟨ad', n', c', e1, _, e2⟩ := hg.tag q _ _ e
    cases e1
    obtain ⟨b', cur, E2, a1, _, a3, _⟩ := e2.resolve_left hnc
    cases a1
    exact hw.block _ (Array.getElem?_eq_some_iff.1 a3).1
  · have := (hg.sgs j b s e z).2.1; omega
  · apply Classical.byContradiction
    intro hnc
    obtain ⟨ad', n', c', e1, _, e2⟩ := hg.tag q _ _ e
    cases e1
    obtain ⟨b', cur, E2, a1, _, a3, _⟩ := e2.resolve_left hnc
    cases a1
    have := (Array.getElem?_eq_some_iff.1 a3).1
    omega

/-- The owned slice alone is left, as the one result. -/
theorem R.one {k n : Nat} {t : Ty} {zs : t.sl.den} {v : Value} (h : R gl V0 w0 nt x ρ a w) (hk : get ρ (br k) = some (.ar t zs)) (hv : RepV x (.os k n) v) (hp : ∀ k p, w0.pin k = some p → 1 ≤ k) :
    R gl V0 w0 1 x [(tr 0, .os k n), (br k, .ar t zs)] { tmps := [v].toArray, defers := [] } w := by
  have hg := h.good
  have hget : ∀ j A, get [(tr 0, .os k n), (br k, AVal.ar t zs)] (br j) = some A → j = k ∧ A = .ar t zs := fun j A e => by
    simp only [get] at e
    rw [beq_false.2 (fun e => tr_br e)] at e
    simp only at e
    split at e
    · rename_i hb; rw [beq_true] at hb; cases e; exact ⟨(br_inj hb).symm, rfl⟩
    · cases e
  refine ⟨⟨hg.vis, hg.grow, hg.old, fun j A e => ?_, hg.sgs, hg.inj, hg.tag, hg.tinj, hg.bel, fun r A j e m => ?_, hg.gok, hg.pin⟩, fun q A e => ?_, rfl, rfl, hp⟩
  · obtain ⟨rfl, rfl⟩ := hget j A e
    exact hg.box _ _ hk
  · have : j = k := by
      simp only [get] at e
      split at e
      · cases e; simp only [mentions, beq_true] at m; exact m.symm
      · split at e
        · cases e; simp [mentions] at m
        · cases e
    subst this
    refine ⟨.ar t zs, ?_⟩
    simp only [get]
    rw [beq_false.2 (fun e => tr_br e), Nat.beq_refl]
  · simp only [get] at e
    split at e
    · rename_i hb; rw [beq_true] at hb
      have hq := tr_inj hb; subst hq
      cases e
      exact hv
    · rw [beq_false.2 (fun e => tr_br e.symm)] at e
      cases e

theorem RepArr.split {β : Type} {R : β → List Value → Prop} {s : Nat} (hR : ∀ x cs, R x cs → cs.length = s) : ∀ {xs : List β} {es : List Value} (i : Nat), i ≤ xs.length → RepArr R xs es → RepArr R (xs.take i) (es.take (i * s)) ∧ RepArr R (xs.drop i) (es.drop (i * s))
  | xs, es, 0, _, h => by simp only [List.take_zero, Nat.zero_mul, List.drop_zero]; exact ⟨rfl, h⟩
  | [], es, i + 1, hi, h => by simp at hi
  | x :: xs, es, i + 1, hi, ⟨c1, c2, e, r, q⟩ => by
    have hl := hR x c1 r
    obtain ⟨q1, q2⟩ := RepArr.split hR i (by simpa using hi) q
    subst e
    have h1 : (i + 1) * s = c1.length + i * s := by rw [hl, Nat.succ_mul]; omega
    have e1 : (c1 ++ c2).take ((i + 1) * s) = c1 ++ c2.take (i * s) := by rw [h1, List.take_append, List.take_of_length_le (l := c1) (by omega), Nat.add_sub_cancel_left]
    have e2 : (c1 ++ c2).drop ((i + 1) * s) = c2.drop (i * s) := by rw [h1, List.drop_append, List.drop_of_length_le (l := c1) (by omega), Nat.add_sub_cancel_left, List.nil_append]
    rw [e1, e2]
    exact ⟨⟨c1, _, rfl, r, q1⟩, q2⟩

@[reducible] def XIns (t : Ty) : XSpec := XSpec.mk [(0, .os 0), (2, .i .i64), (4, .sl t .no), (1, .ar t)] [(0, .os 0), (1, .ar t)] 3 1 false []
  (fun x => decide (x.1 = List.length x.2.2.2.1) && (decide (0 ≤ x.2.1) && (decide (x.2.1 ≤ (List.length x.2.2.2.1 : Int)) && (decide (0 < List.length x.2.2.1) && decide ((List.length x.2.2.2.1 + List.length x.2.2.1) * 32 ≤ 140737488351232)))))
  (fun x => (List.length x.2.2.2.1 + List.length x.2.2.1, ((x.2.2.2.1.take x.2.1.toNat ++ (x.2.2.1 ++ x.2.2.2.1.drop x.2.1.toNat), ()))))

/-- slices.Insert, from what its walks show. -/
theorem xok_insert {f T E : Nat} {i0 : TypeInfo} {t : Ty} (hu : P.underlying T = some (.slice E)) (hi0 : P.info? E = some i0) (hs : i0.size = t.size) (hz : zOk t i0.zero = true) (hb : i0.bytes = 32) (ht : t.size = 3)
    (hEnd : ∀ (ad ad2 : Option Addr) (n c m c2 : Nat) (v' : Value) (w w' : World), n ≤ c → 0 < m → (n + m) * 32 ≤ 140737488351232 → (∀ ty, (Builtin.append_ #[T, T] ty #[.slice ad n c, .slice ad2 m c2]).run P w = .ok v' w') →
      Calls P f #[.slice ad n c, .int .i64 n, .slice ad2 m c2] w fun e w'' => e = .returned v' ∧ w'' = w')
    (hShift : ∀ (b n c i vb voff m vc : Nat) (cur : Array Value) (E : TypeId) (vs : List Value) (w : World), i < n → 0 < m → n + m ≤ c → (n + m) * 32 ≤ 140737488351232 → vb ≠ b →
      w.heap[b]? = some (.cells cur E (0, 0)) → cur.size = c * 3 → vs.length = m * 3 → (∀ j v, vs[j]? = some v → w.cell? ⟨vb, voff + j, none⟩ = some v) → (∀ v ∈ cur.toList, v.oneCell' = true) → (∀ v ∈ vs, v.oneCell' = true) →
      Calls P f #[.slice (some ⟨b, 0, none⟩) n c, .int .i64 i, .slice (some ⟨vb, voff, none⟩) m vc] w fun e w' =>
        e = .returned (.slice (some ⟨b, 0, none⟩) (n + m) c) ∧ ∃ row : Array Value, w' = w.drew.setRow b row ∧ row.size = c * 3 ∧
          row.toList.take ((n + m) * 3) = cur.toList.take (i * 3) ++ vs ++ (cur.toList.take (n * 3)).drop (i * 3) ∧ (∀ v ∈ row.toList, v.oneCell' = true))
    (hGrow : ∀ (b n c i vb voff m vc : Nat) (cur : Array Value) (E' : TypeId) (vs : List Value) (w : World), i < n → 0 < m → n ≤ c → c < n + m → (n + m) * 32 ≤ 140737488351232 → vb ≠ b →
      w.heap[b]? = some (.cells cur E' (0, 0)) → cur.size = c * 3 → vs.length = m * 3 → (∀ j v, vs[j]? = some v → w.cell? ⟨vb, voff + j, none⟩ = some v) → (∀ v ∈ cur.toList, v.oneCell' = true) → (∀ v ∈ vs, v.oneCell' = true) →
      Calls P f #[.slice (some ⟨b, 0, none⟩) n c, .int .i64 i, .slice (some ⟨vb, voff, none⟩) m vc] w fun e w' =>
        ∃ G row, e = .returned (.slice (some ⟨w.heap.size, 0, none⟩) (n + m) G) ∧ n + m ≤ G ∧ Below w.heap.size w w' ∧ w'.heap[w.heap.size]? = some (.cells row E (0, 0)) ∧ row.size = G * 3 ∧
          row.toList.take ((n + m) * 3) = cur.toList.take (i * 3) ++ vs ++ (cur.toList.take (n * 3)).drop (i * 3) ∧ (∀ v ∈ row.toList, v.oneCell' = true)) :
    XOK P gl f (XIns t) := by
  intro V w D pin x v vs hpre hlen hpin hR
  obtain ⟨n, i, ys, xs, ⟨⟩⟩ := v
  simp only [XIns, Bool.and_eq_true, decide_eq_true_eq] at hpre
  obtain ⟨hn, hi1, hi2, hm, hbig⟩ := hpre
  have hn : n = List.length xs := hn
  have hi1 : (0 : Int) ≤ (i : Int) := hi1
  have hi2 : @LE.le Int _ i (List.length xs : Int) := hi2
  have hm : 0 < List.length ys := hm
  have hbig : (List.length xs + List.length ys) * 32 ≤ 140737488351232 := hbig
  subst hn
  have hpk : ∀ k p, pin k = some p → False := fun k p e => by have := hpin k p e; cases this
  match vs, hlen, hR with
  | [va, vi, vy], _, hR =>
  have h0 : RepV x (.os 0 (List.length xs)) va := hR.slots 0 _ rfl
  have h1 : RepV x (.i .i64 i) vi := hR.slots 1 _ rfl
  have h2 : RepV x (.sl t ys .no) vy := hR.slots 2 _ rfl
  have hk : get (encH (XIns t).hin (List.length xs, i, ys, xs, ())) (br 0) = some (.ar t xs) := rfl
  have h1' := int_of h1
  obtain ⟨ad2, c2, es2, rfl, hc2, hr2, hrd2, _⟩ := sl_of h2
  subst h1'
  obtain ⟨iN, hiN⟩ : ∃ k : Nat, (i : Int) = (k : Int) := ⟨Int.toNat i, (Int.toNat_of_nonneg (by omega)).symm⟩
  subst hiN
  have hiN : iN ≤ List.length xs := Int.ofNat_le.1 hi2
  have hi0' : (0 : Nat) < [va, Value.int .i64 iN, Value.slice ad2 (List.length ys) c2].length := Nat.succ_pos _
  have hpk' : ∀ (ww : World) k p, (Base.mk ww D pin).pin k = some p → 1 ≤ k := fun ww k p e => (hpk k p e).elim
  by_cases hEq : iN = List.length xs
  · -- at the end
    obtain ⟨bl, sz, ad, hsg, hva, hle, had⟩ := id h0
    have hva' : va = .slice ad (List.length xs) sz.2 := by simpa using hva
    obtain ⟨v', w', x', hrun, hR', hv'⟩ := append_os (P := P) (tyy := 0) hR hi0' hu hi0 hs hz hb (by omega) (by decide) hk h0 hr2 hrd2 hc2 hbig
    subst hva'
    have hcall := hEnd ad ad2 (List.length xs) sz.2 (List.length ys) c2 v' w w' hle hm hbig (fun ty => hrun)
    rw [hEq]
    refine hcall.mono ?_
    rintro e w'' ⟨rfl, rfl⟩
    refine ⟨x', [v'], rfl, rfl, ?_⟩
    have := hR'.one (k := 0) (zs := xs ++ ys) (n := List.length xs + List.length ys) (v := v') (by rw [get_put, if_pos rfl]) hv' (hpk' w)
    simp only [Int.toNat_natCast, List.take_length, List.drop_length, List.append_nil]
    exact this
  · have hlt : iN < List.length xs := by omega
    obtain ⟨bl, sz, ad, hsg, hva, hle, had⟩ := id h0
    have hz0 : sz.2 ≠ 0 := by omega
    have hva' : va = .slice (some ⟨bl, 0, none⟩) (List.length xs) sz.2 := by rw [had hz0] at hva; simpa using hva
    subst hva'
    obtain ⟨cur, E', hb1, ⟨c1, c2', hb2, hb3, hb4⟩, hb5⟩ := hR.good.at hk hsg hz0
    obtain ⟨h51, h52⟩ := hb5 _ _ rfl
    rw [ht] at h52 h51
    obtain ⟨s1, s2, s3⟩ := hR.good.sgs 0 bl sz hsg hz0
    have hy3 : es2.length = List.length ys * 3 := by rw [← ht]; exact hr2.len (fun _ _ q => q.len)
    have hc13 : c1.length = List.length xs * 3 := by rw [← ht]; exact hb3.len (fun _ _ q => q.len)
    obtain ⟨u0, hu0⟩ : ∃ u, es2[0]? = some u := ⟨es2[0]'(by omega), List.getElem?_eq_getElem (by omega)⟩
    obtain ⟨vb, voff, rfl, hV0⟩ := hrd2 0 u0 hu0
    have hvb : vb ≠ bl := fun e => by subst e; rw [s3] at hV0; cases hV0
    have hvs : ∀ j v, es2[j]? = some v → w.cell? ⟨vb, voff + j, none⟩ = some v := fun j v e => by
      obtain ⟨b', o', q1, q2⟩ := hrd2 j v e
      cases q1
      exact hR.good.vis _ _ _ q2
    have hone2 : ∀ u ∈ es2, u.oneCell' = true := RepArr.one (fun _ _ q => q.one) hr2
    have hone1 : ∀ v ∈ cur.toList, v.oneCell' = true := fun v hv => by
      rw [hb2, List.mem_append] at hv
      exact hv.elim (RepArr.one (fun _ _ q => q.one) hb3 v) (hb4 v)
    have hct : cur.toList.take (List.length xs * 3) = c1 := by rw [hb2]; exact List.take_left' hc13
    have hci : cur.toList.take (iN * 3) = c1.take (iN * 3) := by rw [hb2, List.take_append_of_le_length (by omega)]
    obtain ⟨q1, q2⟩ := RepArr.split (R := RepT x.V t) (s := 3) (fun _ _ q => by rw [← ht]; exact q.len) iN hiN hb3
    have hrep : ∀ (row : Array Value), row.toList.take ((List.length xs + List.length ys) * 3) = cur.toList.take (iN * 3) ++ es2 ++ (cur.toList.take (List.length xs * 3)).drop (iN * 3) → (∀ v ∈ row.toList, v.oneCell' = true) →
        RepCs x (.ar t (xs.take iN ++ (ys ++ xs.drop iN))) row.toList := fun row hr ho => by
      rw [hct, hci, List.append_assoc] at hr
      refine ⟨_, row.toList.drop ((List.length xs + List.length ys) * 3), (List.take_append_drop _ _).symm, ?_, fun v hv => ho v (List.mem_of_mem_drop hv)⟩
      rw [hr]
      exact q1.append (hr2.append q2)
    have hfin : ∀ {w' : World} {c : Nat} {A : Option Addr} {x' : Ctx}, R gl V ⟨w, D, pin⟩ 3 x' (put (br 0) (.ar t (xs.take iN ++ (ys ++ xs.drop iN))) (killAll 0 (encH (XIns t).hin (List.length xs, (iN : Int), ys, xs, ())))) { tmps := [Value.slice (some ⟨bl, 0, none⟩) (List.length xs) sz.2, Value.int .i64 iN, Value.slice (some ⟨vb, voff, none⟩) (List.length ys) c2].toArray, defers := [] } w' →
        RepV x' (.os 0 (List.length xs + List.length ys)) (.slice A (List.length xs + List.length ys) c) →
        ∃ x' rs, Ending.returned (.slice A (List.length xs + List.length ys) c) = Ending.returned (retV rs) ∧ rs.length = (XIns t).nr ∧ R gl V ⟨w, D, pin⟩ rs.length x' (encH (XIns t).hout ((XIns t).val (List.length xs, (iN : Int), ys, xs, ()))) { tmps := rs.toArray, defers := [] } w' := fun {w' c A x'} hR' hv' => by
      refine ⟨x', [_], rfl, rfl, ?_⟩
      exact hR'.one (k := 0) (zs := xs.take iN ++ (ys ++ xs.drop iN)) (n := List.length xs + List.length ys) (by rw [get_put, if_pos rfl]) hv' (hpk' w)
    by_cases hroom : List.length xs + List.length ys ≤ sz.2
    · refine (hShift bl (List.length xs) sz.2 iN vb voff (List.length ys) c2 cur E' es2 w hlt hm hroom hbig hvb hb1 h52 hy3 hvs hone1 hone2).mono ?_
      rintro e w' ⟨rfl, row, rfl, hrs, hrt, hro⟩
      have hin := hR.inplace (k := 0) (row := row) (E := E') (t := t) (xs := xs.take iN ++ (ys ++ xs.drop iN)) (w' := w.drew.setRow bl row) hi0' hk hsg hz0 (by rw [ht]; exact h51) rfl rfl rfl (by simp) (fun j hj => setRow_other w.drew bl j row hj) (setRow_heap w.drew bl cur row E' _ hb1)
        (by rw [ht]; exact hrs) (hrep row hrt hro)
      exact hfin hin ⟨bl, sz, _, (show (if (0 : Nat) = 0 then some (bl, sz) else x.sg 0) = some (bl, sz) from if_pos rfl), rfl, hroom, fun _ => rfl⟩
    · refine (hGrow bl (List.length xs) sz.2 iN vb voff (List.length ys) c2 cur E' es2 w hlt hm hle (by omega) hbig hvb hb1 h52 hy3 hvs hone1 hone2).mono ?_
      rintro e w' ⟨G, row, rfl, hG, hw, hrow, hrs, hrt, hro⟩
      have hin := hR.moved (k := 0) (row := row) (t := t) (xs := xs.take iN ++ (ys ++ xs.drop iN)) (G := G) hi0' hk (by omega) hw hrow (by rw [ht]; exact hrs) (hrep row hrt hro)
      exact hfin hin ⟨w.heap.size, (t.size, G), _, (show (if (0 : Nat) = 0 then some (w.heap.size, (t.size, G)) else x.sg 0) = some (w.heap.size, (t.size, G)) from if_pos rfl), rfl, hG, fun _ => rfl⟩

@[reducible] def XDel (t : Ty) : XSpec := XSpec.mk [(0, .os 0), (2, .i .i64), (4, .i .i64), (1, .ar t)] [(0, .os 0), (1, .ar t)] 3 1 false []
  (fun x => decide (x.1 = List.length x.2.2.2.1) && (decide (0 ≤ x.2.1) && (decide (x.2.1 < x.2.2.1) && (decide (x.2.2.1 ≤ (List.length x.2.2.2.1 : Int)) && decide (List.length x.2.2.2.1 * 32 ≤ 140737488351232)))))
  (fun x => (List.length x.2.2.2.1 - (x.2.2.1.toNat - x.2.1.toNat), ((x.2.2.2.1.take x.2.1.toNat ++ x.2.2.2.1.drop x.2.2.1.toNat, ()))))

/-- slices.Delete, from what its walk shows. -/
theorem xok_delete {f : Nat} {t : Ty} (ht : t.size = 3)
    (hDel : ∀ (b n c i j : Nat) (cur : Array Value) (E : TypeId) (w : World), w.heap[b]? = some (.cells cur E (0, 0)) → cur.size = c * 3 → n ≤ c → i < j → j ≤ n → n * 32 ≤ 140737488351232 → (∀ v ∈ cur.toList, v.oneCell' = true) →
      Calls P f #[.slice (some ⟨b, 0, none⟩) n c, .int .i64 i, .int .i64 j] w fun e w' =>
        e = .returned (.slice (some ⟨b, 0, none⟩) (n - (j - i)) c) ∧ ∃ row : Array Value, w' = w.drew.setRow b row ∧ row.size = c * 3 ∧ row.toList.take ((n - (j - i)) * 3) = cur.toList.take (i * 3) ++ (cur.toList.take (n * 3)).drop (j * 3) ∧ (∀ v ∈ row.toList, v.oneCell' = true)) :
    XOK P gl f (XDel t) := by
  intro V w D pin x v vs hpre hlen hpin hR
  obtain ⟨n, i, j, xs, ⟨⟩⟩ := v
  simp only [XDel, Bool.and_eq_true, decide_eq_true_eq] at hpre
  obtain ⟨hn, hi1, hij, hj, hbig⟩ := hpre
  have hn : n = List.length xs := hn
  have hi1 : (0 : Int) ≤ (i : Int) := hi1
  have hij : @LT.lt Int _ i j := hij
  have hj : @LE.le Int _ j (List.length xs : Int) := hj
  have hbig : List.length xs * 32 ≤ 140737488351232 := hbig
  subst hn
  have hpk : ∀ k p, pin k = some p → False := fun k p e => by have := hpin k p e; cases this
  match vs, hlen, hR with
  | [va, vi, vj], _, hR =>
  have h0 : RepV x (.os 0 (List.length xs)) va := hR.slots 0 _ rfl
  have h1 : RepV x (.i .i64 i) vi := hR.slots 1 _ rfl
  have h2 : RepV x (.i .i64 j) vj := hR.slots 2 _ rfl
  have hk : get (encH (XDel t).hin (List.length xs, i, j, xs, ())) (br 0) = some (.ar t xs) := rfl
  have h1' := int_of h1
  have h2' := int_of h2
  subst h1' h2'
  obtain ⟨iN, hiN⟩ : ∃ k : Nat, (i : Int) = (k : Int) := ⟨Int.toNat i, (Int.toNat_of_nonneg (by omega)).symm⟩
  subst hiN
  obtain ⟨jN, hjN⟩ : ∃ k : Nat, (j : Int) = (k : Int) := ⟨Int.toNat j, (Int.toNat_of_nonneg (by omega)).symm⟩
  subst hjN
  obtain ⟨bl, sz, ad, hsg, hva, hle, had⟩ := id h0
  have hz0 : sz.2 ≠ 0 := by omega
  have hva' : va = .slice (some ⟨bl, 0, none⟩) (List.length xs) sz.2 := by rw [had hz0] at hva; simpa using hva
  subst hva'
  have hi0' : (0 : Nat) < [Value.slice (some ⟨bl, 0, none⟩) (List.length xs) sz.2, Value.int .i64 iN, Value.int .i64 jN].length := Nat.succ_pos _
  obtain ⟨cur, E', hb1, ⟨c1, c2', hb2, hb3, hb4⟩, hb5⟩ := hR.good.at hk hsg hz0
  obtain ⟨h51, h52⟩ := hb5 _ _ rfl
  rw [ht] at h52 h51
  have hc13 : c1.length = List.length xs * 3 := by rw [← ht]; exact hb3.len (fun _ _ q => q.len)
  have hone1 : ∀ v ∈ cur.toList, v.oneCell' = true := fun v hv => by
    rw [hb2, List.mem_append] at hv
    exact hv.elim (RepArr.one (fun _ _ q => q.one) hb3 v) (hb4 v)
  have hct : cur.toList.take (List.length xs * 3) = c1 := by rw [hb2]; exact List.take_left' hc13
  have hci : cur.toList.take (iN * 3) = c1.take (iN * 3) := by rw [hb2, List.take_append_of_le_length (by omega)]
  obtain ⟨q1, _⟩ := RepArr.split (R := RepT x.V t) (s := 3) (fun _ _ q => by rw [← ht]; exact q.len) iN (by omega) hb3
  obtain ⟨_, q2⟩ := RepArr.split (R := RepT x.V t) (s := 3) (fun _ _ q => by rw [← ht]; exact q.len) jN (by omega) hb3
  refine (hDel bl (List.length xs) sz.2 iN jN cur E' w hb1 h52 hle (by omega) (by omega) hbig hone1).mono ?_
  rintro e w' ⟨rfl, row, rfl, hrs, hrt, hro⟩
  have hrep : RepCs x (.ar t (xs.take iN ++ xs.drop jN)) row.toList := by
    rw [hct, hci] at hrt
    refine ⟨_, row.toList.drop ((List.length xs - (jN - iN)) * 3), (List.take_append_drop _ _).symm, ?_, fun v hv => hro v (List.mem_of_mem_drop hv)⟩
    rw [hrt]
    exact q1.append q2
  have hin := hR.inplace (k := 0) (row := row) (E := E') (t := t) (xs := xs.take iN ++ xs.drop jN) (w' := w.drew.setRow bl row) hi0' hk hsg hz0 (by rw [ht]; exact h51) rfl rfl rfl (by simp) (fun j hj => setRow_other w.drew bl j row hj) (setRow_heap w.drew bl cur row E' _ hb1)
    (by rw [ht]; exact hrs) hrep
  have hone := hin.one (k := 0) (zs := xs.take iN ++ xs.drop jN) (n := List.length xs - (jN - iN)) (v := .slice (some ⟨bl, 0, none⟩) (List.length xs - (jN - iN)) sz.2) (by rw [get_put, if_pos rfl])
    ⟨bl, sz, _, (show (if (0 : Nat) = 0 then some (bl, sz) else x.sg 0) = some (bl, sz) from if_pos rfl), rfl, by omega, fun _ => rfl⟩ (fun k p e => (hpk k p e).elim)
  exact ⟨_, [_], rfl, rfl, hone⟩
end
end Go.Abs
