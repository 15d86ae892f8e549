/- Own text of this session: a part of the proof; no condition of its own. -/
import Derived.Test.YtiodlajaecaoaaaPart
import Derived.Test.YtiodlajaecaoaaaProg
import Derived.Shelf.Abstract
import Derived.WalkKit
import Derived.WalkSpells
import Derived.WideMake
set_option linter.unusedVariables false
set_option linter.unusedSimpArgs false
namespace Go.WObj
open Go Go.RowKit Go.Shelf Go.Abs Go.Inc
theorem run_mk {P : Program} (t : TypeId) (w : World) : (Instr.makeMap t none).run P w = .ok (.map (some w.heap.size)) (w.alloc (.map #[] 0)) := rfl
attribute [local go_sem] run_mk

abbrev aggV (v : Val) : Value := .agg #[.int .i64 v.1, .int .i64 v.2.1, .string v.2.2.1]
abbrev aggK (k : ObjKey) : Value := .agg #[.int .i64 k.1, .int .i64 k.2.1, .int .i64 k.2.2.1, .string k.2.2.2.1]

theorem keysOk : Mp.Keys Go.Proofs.Try.prog 41 aggK := by
  refine ⟨⟨_, Go.Proofs.Try.underlying41⟩, fun a => ⟨_, rfl⟩, fun w a b => ?_, fun w e a => ?_, fun a => ?_⟩
  · have h := run_equal (P := Go.Proofs.Try.prog) (w := w) (x := bare fun _ _ => none) (t := .pr (.int .i64) (.pr VT .un)) (A := enc (.pr (.int .i64) (.pr VT .un)) (a.1, (a.2, ()))) (B := enc (.pr (.int .i64) (.pr VT .un)) (b.1, (b.2, ()))) (T := 41) (dp := 10000) (v := aggK a) (u := aggK b)
      (r := _) (by kernel_rfl) rfl rfl rfl (by decide) ⟨_, rfl, [.int .i64 a.1], _, rfl, rfl, [.int .i64 a.2.1, .int .i64 a.2.2.1, .string a.2.2.2.1], [], rfl, ⟨[.int .i64 a.2.1], _, rfl, rfl, [.int .i64 a.2.2.1], _, rfl, rfl, [.string a.2.2.2.1], [], rfl, rfl, rfl⟩, rfl⟩
      ⟨_, rfl, [.int .i64 b.1], _, rfl, rfl, [.int .i64 b.2.1, .int .i64 b.2.2.1, .string b.2.2.2.1], [], rfl, ⟨[.int .i64 b.2.1], _, rfl, rfl, [.int .i64 b.2.2.1], _, rfl, rfl, [.string b.2.2.2.1], [], rfl, rfl, rfl⟩, rfl⟩
    refine h.trans ?_
    congr 1
    show (a.1 == b.1 && ((a.2.1 == b.2.1 && (a.2.2.1 == b.2.2.1 && (a.2.2.2.1 == b.2.2.2.1 && true))) && true)) = (a == b)
    rw [Bool.eq_iff_iff]
    simp only [Bool.and_eq_true, beq_iff_eq, and_true]
    constructor
    · rintro ⟨h1, h2, h3, h4⟩
      obtain ⟨a1, a2, a3, a4, ⟨⟩⟩ := a
      obtain ⟨b1, b2, b3, b4, ⟨⟩⟩ := b
      simp_all
    · rintro rfl; simp
  · rw [show (10000 : Nat) = 9997 + 1 + 1 + 1 from rfl]
    have h3 : ∀ (n : Int) m, (Instr.checkKey e (m + 1) 3 (.int .i64 n)).run Go.Proofs.Try.prog w = .ok () w := fun n m => by
      unfold Instr.checkKey
      simp [run_underlying Go.Proofs.Try.underlying3, Result.andThen]
    have h2 : ∀ (n : Int) m, (Instr.checkKey e (m + 1) 2 (.int .i64 n)).run Go.Proofs.Try.prog w = .ok () w := fun n m => by
      unfold Instr.checkKey
      simp [run_underlying Go.Proofs.Try.underlying2, Result.andThen]
    have h10 : ∀ (n : ByteArray) m, (Instr.checkKey e (m + 1) 9 (.string n)).run Go.Proofs.Try.prog w = .ok () w := fun n m => by
      unfold Instr.checkKey
      simp [run_underlying Go.Proofs.Try.underlying9, Result.andThen]
    have hV : ∀ (v : Val) m, (Instr.checkKey e (m + 1 + 1) 31 (aggV v)).run Go.Proofs.Try.prog w = .ok () w := fun v m => by
      unfold Instr.checkKey
      simp [run_underlying Go.Proofs.Try.underlying31, Result.andThen, go_sem, h3, h2, h10]
    unfold Instr.checkKey
    simp only [run_underlying Go.Proofs.Try.underlying41, Result.andThen, go_sem]
    have e1 := h3 a.1 9998
    have e2 := hV a.2 9997
    simp only [Nat.reduceAdd] at e1 e2
    simp [run_underlying Go.Proofs.Try.underlying41, Result.andThen, go_sem, e1, e2]
  · unfold Instr.sameBits
    simp [Instr.sameBits]

/-- A slice of operations lies below n0. -/
def OpsAt (n0 : Nat) (W : World) (sl : Value) (ops : List Opr) : Prop := ∃ ad c, sl = .slice ad ops.length c ∧ ∀ i o, ops[i]? = some o → ∃ b off a1 n1 c1 a2 n2 c2, ad = some ⟨b, off, none⟩ ∧ b < n0 ∧
  W.cell? ⟨b, off + i * 12, none⟩ = some (.int .i64 o.1.1) ∧ W.cell? ⟨b, off + i * 12 + 1, none⟩ = some (.int .i64 o.1.2.1) ∧ W.cell? ⟨b, off + i * 12 + 2, none⟩ = some (.string o.1.2.2.1) ∧
  W.cell? ⟨b, off + i * 12 + 3, none⟩ = some (.int .i64 o.2.1) ∧ W.cell? ⟨b, off + i * 12 + 4, none⟩ = some (.int .i64 o.2.2.1.1) ∧ W.cell? ⟨b, off + i * 12 + 5, none⟩ = some (.int .i64 o.2.2.1.2.1) ∧ W.cell? ⟨b, off + i * 12 + 6, none⟩ = some (.string o.2.2.1.2.2.1) ∧
  W.cell? ⟨b, off + i * 12 + 7, none⟩ = some (.int .i64 o.2.2.2.1) ∧ W.cell? ⟨b, off + i * 12 + 8, none⟩ = some (.slice a1 n1 c1) ∧ W.cell? ⟨b, off + i * 12 + 9, none⟩ = some (.slice a2 n2 c2) ∧ W.cell? ⟨b, off + i * 12 + 10, none⟩ = some (.int .i64 o.2.2.2.2.2.2.1) ∧ W.cell? ⟨b, off + i * 12 + 11, none⟩ = some (.int .i64 o.2.2.2.2.2.2.2.1)

theorem OpsAt.below {n0 : Nat} {A B : World} {sl : Value} {ops : List Opr} (h : Below n0 A B) (k : OpsAt n0 A sl ops) : OpsAt n0 B sl ops := by
  obtain ⟨ad, c, e, k⟩ := k
  refine ⟨ad, c, e, fun i o ho => ?_⟩
  obtain ⟨b, off, a1, n1, c1, a2, n2, c2, e1, hb, k0, k1, k2, k3, k4, k5, k6, k7, k8, k9, k10, k11⟩ := k i o ho
  have hc : ∀ j, B.cell? ⟨b, j, none⟩ = A.cell? ⟨b, j, none⟩ := fun j => h.cell (p := ⟨b, j, none⟩) hb
  exact ⟨b, off, a1, n1, c1, a2, n2, c2, e1, hb, (hc _).trans k0, (hc _).trans k1, (hc _).trans k2, (hc _).trans k3, (hc _).trans k4, (hc _).trans k5, (hc _).trans k6, (hc _).trans k7, (hc _).trans k8, (hc _).trans k9, (hc _).trans k10, (hc _).trans k11⟩

/-- The groups' rows: each one its own. -/
structure Inner (W : World) (n0 : Nat) (vs : List Value) (gs : List (List Int)) : Prop where
  row : ∀ (j : Nat) (u : Value) (g : List Int), vs[j]? = some u → gs[j]? = some g → W.ownsRow n0 3 1 u g.length (g.map (Value.int .i64))
  one : ∀ (j j' : Nat) (u u' : Value), vs[j]? = some u → vs[j']? = some u' → u.ownBlock = u'.ownBlock → u.ownBlock ≠ none → j = j'
structure ObjR (n : Nat) (w : World) (st : ObjSt) (v : Value) (M : Nat) (W : World) : Prop where
  b : Below w.heap.size w W
  hM : w.heap.size ≤ M
  m : Mp.MapAt aggK W M st.2
  vs : ∃ vs, W.ownsRow w.heap.size 29 1 v st.1.length vs ∧ Inner W w.heap.size vs st.1
  ok : ObjOk st
  gl : ∀ g ∈ st.1, g.length ≤ n

theorem setCell_row {W : World} {b m : Nat} {cur : Array Value} {t : TypeId} (v : Value) (h : W.heap[b]? = some (.cells cur t (0, 0))) : (W.setCell ⟨b, m, none⟩ v).heap[b]? = some (.cells (cur.setIfInBounds m v) t (0, 0)) := by
  obtain ⟨hlt, hk⟩ := Array.getElem?_eq_some_iff.1 h
  show (W.heap.modify b _)[b]? = _
  rw [Array.getElem?_eq_getElem (by rw [Array.size_modify]; exact hlt), Array.getElem_modify_self, hk]
  rfl
theorem grownBy_setCell1 (W : World) (b m : Nat) (v : Value) : W.grownBy (W.setCell ⟨b, m, none⟩ v) (some b) :=
  ⟨rfl, rfl, rfl, (KeepsWalks.setCell W _ v).size, fun k _ hk => Below.heap_setCell _ _ _ k (fun e => hk (by rw [e]))⟩
theorem ownBlock_row {W : World} {n0 n : Nat} {e : TypeId} {size : Nat} {v : Value} {xs : List Value} (h : W.ownsRow n0 e size v n xs) {g : Nat} (hg : v.ownBlock = some g) : n0 ≤ g ∧ ∃ cur, W.heap[g]? = some (.cells cur e (0, 0)) := by
  rcases h.2 with ⟨rfl, _⟩ | ⟨g', cap, cur, rfl, hb, hgb, _⟩
  · simp [Value.ownBlock] at hg
  · obtain rfl : g' = g := by simpa [Value.ownBlock] using hg
    exact ⟨hb, cur, hgb⟩
/-- One place more in a group. -/
theorem inner_step {Wa W1 : World} {n0 N gb cap m : Nat} {vs : List Value} {gs : List (List Int)} {u u' : Value} {g : List Int} {i : Int}
    (hv : Wa.ownsRow n0 29 1 (.slice (some ⟨gb, 0, none⟩) N cap) N vs) (hI : Inner Wa n0 vs gs) (hN : gs.length = N) (hm : m < N) (hu : vs[m]? = some u) (hg : gs[m]? = some g)
    (hr : W1.ownsRow n0 3 1 u' (g.length + 1) (g.map (Value.int .i64) ++ [.int .i64 i])) (hgr : Wa.grownBy W1 u.ownBlock) (hat : u'.ownBlock = u.ownBlock ∨ u'.ownBlock = some Wa.heap.size) (hn0 : n0 ≤ Wa.heap.size) :
    W1.cell? ⟨gb, m, none⟩ = some u ∧ W1.frozen? ⟨gb, m, none⟩ = false ∧ (W1.setCell ⟨gb, m, none⟩ u').ownsRow n0 29 1 (.slice (some ⟨gb, 0, none⟩) N cap) N (vs.set m u') ∧
    Inner (W1.setCell ⟨gb, m, none⟩ u') n0 (vs.set m u') (gs.modify m (· ++ [i])) ∧ Below n0 Wa (W1.setCell ⟨gb, m, none⟩ u') ∧ (∀ (M : Nat) (es : Array MapEntry) (c : Nat), Wa.heap[M]? = some (.map es c) → (W1.setCell ⟨gb, m, none⟩ u').heap[M]? = some (.map es c)) := by
  have hgrow := hI.row m u g hu hg
  obtain ⟨hl, (⟨e, _⟩ | ⟨gb', cap', cur, e, hb, hgb, hle, hcm, hsz, htk⟩)⟩ := id hv
  · cases e
  cases e
  have hne : some gb ≠ u.ownBlock := fun e => by
    obtain ⟨_, cur', h'⟩ := ownBlock_row hgrow e.symm
    rw [hgb] at h'; cases h'
  have hgb1 : W1.heap[gb]? = some (.cells cur 29 (0, 0)) := (hgr.block gb (Array.getElem?_eq_some_iff.1 hgb).1 hne).trans hgb
  have hcu : cur[m]? = some u := by
    rw [← Array.getElem?_toList]
    rw [← htk, List.getElem?_take] at hu
    split at hu
    · exact hu
    · cases hu
  have hset := setCell_row (m := m) u' hgb1
  have hrow : ∀ j uj gj, vs[j]? = some uj → gs[j]? = some gj → j ≠ m → (W1.setCell ⟨gb, m, none⟩ u').ownsRow n0 3 1 uj gj.length (gj.map (Value.int .i64)) := fun j uj gj h1 h2 hj => by
    have h3 := hI.row j uj gj h1 h2
    have h4 : W1.ownsRow n0 3 1 uj gj.length (gj.map (Value.int .i64)) := h3.kept hgr (by
      rcases h3.2 with ⟨rfl, _⟩ | ⟨g', cap', cur', rfl, _, hg', _⟩
      · exact .inl rfl
      · refine .inr fun e => hj (hI.one j m _ u h1 hu e ?_)
        simp [Value.ownBlock])
    refine h4.kept (grownBy_setCell1 W1 gb m u') ?_
    rcases h4.2 with ⟨rfl, _⟩ | ⟨g', cap', cur', rfl, _, hg', _⟩
    · exact .inl rfl
    · refine .inr fun e => ?_
      obtain rfl : g' = gb := by simpa [Value.ownBlock] using e
      rw [hgb1] at hg'; cases hg'
  have hr2 : (W1.setCell ⟨gb, m, none⟩ u').ownsRow n0 3 1 u' (g.length + 1) (g.map (Value.int .i64) ++ [.int .i64 i]) := by
    refine hr.kept (grownBy_setCell1 W1 gb m u') ?_
    rcases hr.2 with ⟨rfl, _⟩ | ⟨g', cap', cur', rfl, _, hg', _⟩
    · exact .inl rfl
    · refine .inr fun e => ?_
      obtain rfl : g' = gb := by simpa [Value.ownBlock] using e
      rw [hgb1] at hg'; cases hg'
  refine ⟨by simp [World.cell?, hgb1, hcu], by simp [World.frozen?, hgb1], ⟨by simpa using hl, .inr ⟨gb, cap, _, rfl, hb, hset, hle, hcm, by simpa using hsz, ?_⟩⟩, ⟨fun j uj gj h1 h2 => ?_, fun j j' uj uj' h1 h2 he hn => ?_⟩, ?_, fun M es c hM => ?_⟩
  · rw [Array.toList_setIfInBounds, List.take_set, htk]
  · rw [List.getElem?_set] at h1
    rw [List.getElem?_modify] at h2
    by_cases hj : m = j
    · subst hj
      rw [if_pos rfl] at h1
      have hml : m < vs.length := (List.getElem?_eq_some_iff.1 hu).1
      rw [if_pos hml] at h1
      cases h1
      have h2' : g ++ [i] = gj := by simpa [hg] using h2
      subst h2'
      simpa using hr2
    · rw [if_neg hj] at h1
      have h2' : gs[j]? = some gj := by simpa [hj] using h2
      exact hrow j uj gj h1 h2' (fun e => hj e.symm)
  · have hml : m < vs.length := (List.getElem?_eq_some_iff.1 hu).1
    have key : ∀ j uj, j ≠ m → vs[j]? = some uj → uj.ownBlock ≠ none → uj.ownBlock ≠ u'.ownBlock := fun j uj hj h hn e => by
      rcases hat with h' | h'
      · rw [h'] at e; exact hj (hI.one j m uj u h hu e hn)
      · rw [h'] at e
        have hjl : j < gs.length := by
          have h1 := hv.1
          have h2 := (List.getElem?_eq_some_iff.1 h).1
          omega
        obtain ⟨_, cur', h5⟩ := ownBlock_row (hI.row j uj _ h (List.getElem?_eq_getElem hjl)) e
        have := (Array.getElem?_eq_some_iff.1 h5).1
        omega
    rw [List.getElem?_set] at h1 h2
    by_cases hj : m = j
    · by_cases hj' : m = j'
      · omega
      · rw [if_neg hj'] at h2
        rw [if_pos hj, if_pos (by omega)] at h1
        cases h1
        exact absurd he.symm (key j' uj' (fun e => hj' e.symm) h2 (by rw [← he]; exact hn))
    · rw [if_neg hj] at h1
      by_cases hj' : m = j'
      · rw [if_pos hj', if_pos (by omega)] at h2
        cases h2
        exact absurd he (key j uj (fun e => hj e.symm) h1 hn)
      · rw [if_neg hj'] at h2
        exact hI.one j j' uj uj' h1 h2 he hn
  · refine ((Below.refl n0 Wa).grown hgr hn0 fun j ej => (ownBlock_row hgrow ej).1).setCell (p := ⟨gb, m, none⟩) hb _
  · have h1 : M ≠ gb := fun e => by subst e; rw [hgb] at hM; cases hM
    rw [Below.heap_setCell _ _ _ M h1]
    refine (hgr.block M (Array.getElem?_eq_some_iff.1 hM).1 fun e => ?_).trans hM
    obtain ⟨_, cur', h'⟩ := ownBlock_row hgrow e.symm
    rw [hM] at h'; cases h'

theorem Inner.kept {W W' : World} {n0 : Nat} {vs : List Value} {gs : List (List Int)} {row : Option Nat} (h : Inner W n0 vs gs) (hg : W.grownBy W' row) (hr : ∀ g cur, row = some g → W.heap[g]? ≠ some (.cells cur 3 (0, 0))) : Inner W' n0 vs gs :=
  ⟨fun j u g h1 h2 => by
    have h3 := h.row j u g h1 h2
    refine h3.kept hg ?_
    rcases h3.2 with ⟨rfl, _⟩ | ⟨g', cap', cur', rfl, _, hg', _⟩
    · exact .inl rfl
    · exact .inr fun e => hr g' cur' e.symm hg', h.one⟩
theorem Inner.alloc {W : World} {n0 : Nat} {vs : List Value} {gs : List (List Int)} (h : Inner W n0 vs gs) (o : Obj) : Inner (W.alloc o) n0 vs gs := h.kept (World.grownBy_alloc W o none) (fun g cur e => by cases e)
theorem map_alloc {W : World} {M : Nat} {l : List (ObjKey × Int)} (h : Mp.MapAt aggK W M l) (o : Obj) : Mp.MapAt aggK (W.alloc o) M l := h.other (Below.heap_alloc _ _ _ h.lt)
/-- A group more. -/
theorem outer_step {Wa W1 : World} {n0 N : Nat} {vs : List Value} {gs : List (List Int)} {v : Value} (hv : Wa.ownsRow n0 29 1 v N vs) (hI : Inner Wa n0 vs gs) (hN : gs.length = N)
    (hgr : Wa.grownBy W1 v.ownBlock) (hn0 : n0 ≤ Wa.heap.size) : Inner W1 n0 (vs ++ [.slice none 0 0]) (gs ++ [[]]) ∧ Below n0 Wa W1 ∧ (∀ M l, Mp.MapAt aggK Wa M l → Mp.MapAt aggK W1 M l) := by
  have hvl : vs.length = N := by have := hv.1; omega
  have hk := hI.kept hgr (fun g cur e h => by
    obtain ⟨_, cur', h'⟩ := ownBlock_row hv e
    rw [h'] at h; cases h)
  refine ⟨⟨fun j u g h1 h2 => ?_, fun j j' u u' h1 h2 he hn => ?_⟩, (Below.refl n0 Wa).grown hgr hn0 fun j ej => (ownBlock_row hv ej).1, fun M l ⟨es, c, e1, e2⟩ => ⟨es, c, ?_, e2⟩⟩
  · by_cases hj : j < N
    · rw [List.getElem?_append_left (by omega)] at h1 h2
      exact hk.row j u g h1 h2
    · rw [List.getElem?_append_right (by omega)] at h1 h2
      rw [hvl] at h1
      rw [hN] at h2
      have : j - N = 0 := by
        cases hq : j - N with
        | zero => rfl
        | succ q => rw [hq] at h1; simp at h1
      rw [this] at h1 h2
      simp only [List.getElem?_cons_zero, Option.some.injEq] at h1 h2
      subst h1 h2
      exact World.ownsRow_nil _ _ _ _
  · have key : ∀ (j : Nat) (u : Value), (vs ++ [Value.slice none 0 0])[j]? = some u → u.ownBlock ≠ none → vs[j]? = some u := fun j u h hn => by
      by_cases hj : j < N
      · rwa [List.getElem?_append_left (by omega)] at h
      · rw [List.getElem?_append_right (by omega)] at h
        cases hq : j - vs.length with
        | zero => rw [hq] at h; simp only [List.getElem?_cons_zero, Option.some.injEq] at h; subst h; exact absurd rfl hn
        | succ q => rw [hq] at h; simp at h
    exact hI.one j j' u u' (key j u h1 hn) (key j' u' h2 (by rw [← he]; exact hn)) he hn
  · refine (hgr.block M (Array.getElem?_eq_some_iff.1 e1).1 fun e => ?_).trans e1
    obtain ⟨_, cur', h'⟩ := ownBlock_row hv e.symm
    rw [e1] at h'; cases h'
theorem outer_cell {W : World} {n0 N gb cap m : Nat} {vs : List Value} {u : Value} (h : W.ownsRow n0 29 1 (.slice (some ⟨gb, 0, none⟩) N cap) N vs) (hu : vs[m]? = some u) : W.cell? ⟨gb, m, none⟩ = some u := by
  obtain ⟨hl, (⟨e, _⟩ | ⟨gb', cap', cur, e, hb, hgb, hle, hcm, hsz, htk⟩)⟩ := h
  · cases e
  cases e
  rw [← htk, List.getElem?_take] at hu
  split at hu
  · simp [World.cell?, hgb, ← Array.getElem?_toList, hu]
  · cases hu
theorem slice_shape {W : World} {n0 n : Nat} {e : TypeId} {size : Nat} {v : Value} {xs : List Value} (h : W.ownsRow n0 e size v n xs) : ∃ ad cap, v = .slice ad n cap ∧ (0 < n → ∃ g, ad = some ⟨g, 0, none⟩) := by
  rcases h.2 with ⟨rfl, rfl⟩ | ⟨g, cap, cur, rfl, _⟩
  · exact ⟨none, 0, rfl, fun h => by omega⟩
  · exact ⟨_, cap, rfl, fun _ => ⟨g, rfl⟩⟩
theorem gl_modify {gs : List (List Int)} {n m : Nat} {i : Int} (h : ∀ g ∈ gs, g.length ≤ n) {y : List Int} (hy : y ∈ gs.modify m (· ++ [i])) : y.length ≤ n + 1 := by
  obtain ⟨j, hj⟩ := List.mem_iff_getElem?.1 hy
  rw [List.getElem?_modify] at hj
  cases hg : gs[j]? with
  | none => rw [hg] at hj; simp at hj
  | some g =>
    have := h g (List.mem_of_getElem? hg)
    rw [hg] at hj
    by_cases hm : m = j
    · have e : g ++ [i] = y := by simpa [hm] using hj
      rw [← e]; simp; omega
    · have e : g = y := by simpa [hm] using hj
      rw [← e]; omega
theorem modify_last {α : Type} (f : α → α) (x : α) : ∀ l : List α, (l ++ [x]).modify l.length f = l ++ [f x]
  | [] => rfl
  | y :: l => by rw [List.cons_append, List.length_cons, List.modify_succ_cons, modify_last f x l]; rfl
theorem size_put (W : World) (l : Nat) (o : Obj) : (W.putObj l o).heap.size = W.heap.size := by simp [World.putObj]
theorem cell_one' {W : World} {n : Nat} (hn : n = W.heap.size) (v : Value) (t : TypeId) (j : Nat) (u : Value) (h : [v][j]? = some u) : (W.alloc (.cells #[v] t)).cell? ((⟨n, 0, none⟩ : Addr).add j) = some u := by
  subst hn; exact cell_one_new W v t j u h
theorem info1 {T b : Nat} (h : (Go.Proofs.Try.prog.info? T).map (fun i => (i.size, i.zero.map (·.cells.size), i.bytes)) = some (1, some 1, b)) : ∃ i0 z0, Go.Proofs.Try.prog.info? T = some i0 ∧ i0.zero = some z0 ∧ i0.size = 1 ∧ i0.bytes = b ∧ z0.cells.size = 1 := by
  cases hi : Go.Proofs.Try.prog.info? T with
  | none => rw [hi] at h; cases h
  | some i0 =>
    rw [hi] at h
    simp only [Option.map_some, Option.some.injEq, Prod.mk.injEq] at h
    obtain ⟨h1, h2, h3⟩ := h
    cases hz : i0.zero with
    | none => rw [hz] at h2; cases h2
    | some z0 =>
      rw [hz] at h2
      exact ⟨i0, z0, rfl, hz, h1, h3, by simpa using h2⟩

set_option maxRecDepth 100000 in
set_option maxHeartbeats 2000000 in
theorem Objects_in (ops : List Opr) (hxl : ops.length ≤ 1000) (ad : Option Addr) (c : Nat) (w : World) (hL : OpsAt w.heap.size w (.slice ad ops.length c) ops) :
    Calls Go.Proofs.Try.prog 8 #[.slice ad ops.length c] w fun e w' => ∃ v M, e = .returned v ∧ ObjR ops.length w (objRun 0 ops ([], [])) v M w' := by
  obtain ⟨i3, z3, hi3, hz3, hs3, hb3, hc3⟩ := info1 (T := 3) (b := 8) (by kernel_rfl)
  obtain ⟨i29, z29, hi29, hz29, hs29, hb29, hc29⟩ := info1 (T := 29) (b := 24) (by kernel_rfl)
  have objRun_len : ∀ i, (objRun 0 (ops.take i) ([], [])).1.length ≤ i := fun i => by
    have key : ∀ (l : List Opr) (j : Nat) (st : ObjSt), (objRun j l st).1.length ≤ st.1.length + l.length := by
      intro l
      induction l with
      | nil => intro j st; exact Nat.le_refl _
      | cons o l ih =>
        intro j st
        have h1 := ih (j + 1) (objStep st j o)
        have h2 := objStep_len st j o
        rw [objRun, List.length_cons]; omega
    have := key (ops.take i) 0 ([], [])
    rw [List.length_take] at this
    simp only [List.length_nil] at this
    omega
  go_enter Go.Proofs.Try.func8, Go.Proofs.Try.ntmps8
  go_wp2
  go_loopw [3, 13] (fun p q wr => ∃ (i : Nat), q = .int .i64 (i : Int) ∧ i ≤ ops.length ∧ ObjR i w (objRun 0 (ops.take i) ([], [])) p w.heap.size wr) (fun _ q _ => 2000 - (intOf q).toNat)
  case atStart =>
    refine ⟨0, rfl, Nat.zero_le _, (Below.refl _ w).alloc (Nat.le_refl _) _, Nat.le_refl _, ⟨#[], 0, World.alloc_heap_new w _, rfl⟩, ⟨[], World.ownsRow_nil _ _ _ _, fun j u g h => by simp at h, fun j j' u u' h => by simp at h⟩, (fun k g h => by cases h), fun g h => by simp [objRun] at h⟩
  case round =>
    obtain ⟨i, rfl, hi, hR⟩ := hrel
    have hw1 : IntKind.i64.wrap ((i : Int) + 1) = (i : Int) + 1 := by rw [IntKind.wrap_i64]; omega
    by_cases hlt : i < ops.length
    · obtain ⟨o, ho⟩ : ∃ o, ops[i]? = some o := ⟨_, List.getElem?_eq_getElem hlt⟩
      obtain ⟨ad', c', e', hcell⟩ := hL.below hR.b
      cases e'
      obtain ⟨b, off, a1, n1, c1, a2, n2, c2, rfl, hbn, k0, k1, k2, k3, k4, k5, k6, k7, k8, k9, k10, k11⟩ := hcell i o ho
      have hc : (i : Int) < (ops.length : Int) := by omega
      have hM := hR.m
      have hMlt := hM.lt
      have hMa : ∀ o1 o2, Mp.MapAt aggK ((wr.alloc o1).alloc o2) w.heap.size (objRun 0 (ops.take i) ([], [])).2 := fun o1 o2 => map_alloc (map_alloc hM o1) o2
      clear hcell
      have hnext : objRun 0 (ops.take (i + 1)) ([], []) = objStep (objRun 0 (ops.take i) ([], [])) i o := by
        rw [List.take_add_one, ho, objRun_app, List.length_take, Nat.min_eq_left hi, Nat.zero_add]; rfl
      have hlenst : (objRun 0 (ops.take i) ([], [])).1.length ≤ i := objRun_len i
      obtain ⟨vs, hv, hI⟩ := hR.vs
      have hRb := hR.b
      have hok := hR.ok
      generalize objRun 0 (ops.take i) ([], []) = st at *
      obtain ⟨adv, capv, rfl, hsome⟩ := slice_shape hv
      have hws : w.heap.size ≤ wr.heap.size := hRb.size
      cases hlk : Mp.look (objK o) st.2 with
      | some g =>
        obtain ⟨m, rfl, hm⟩ := hok _ _ hlk
        obtain ⟨gb, rfl⟩ := hsome (by omega)
        obtain ⟨u, hu⟩ : ∃ u, vs[m]? = some u := ⟨_, List.getElem?_eq_getElem (by have := hv.1; omega)⟩
        obtain ⟨g, hg⟩ : ∃ g, st.1[m]? = some g := ⟨_, List.getElem?_eq_getElem hm⟩
        obtain ⟨adu, capu, rfl, _⟩ := slice_shape (hI.row m u g hu hg)
        have hcl : ∀ o1 o2, ((wr.alloc o1).alloc o2).cell? ⟨gb, m, none⟩ = some (.slice adu g.length capu) := fun o1 o2 => outer_cell ((hv.alloc o1).alloc o2) hu
        have hmi : (m : Int) < (st.1.length : Int) := by omega
        have hglen : g.length ≤ 2000 := Nat.le_trans (hR.gl g (List.mem_of_getElem? hg)) (by omega)
        go_wp2_with (first
          | (at_lookup; refine Mp.at_look rfl _ _ rfl keysOk Go.Proofs.Try.underlying39 (fun _ => rfl) w.heap.size _ rfl (hMa _ _) (objK o) rfl ?_)
          | (at_builtin; refine wpList_append_own_at _ rfl _ _ 29 rfl w.heap.size 3 i3 z3 1 8 Go.Proofs.Try.underlying29 hi3 hz3 hs3 hb3 hc3 (by decide) _ g.length (g.map (Value.int .i64)) rfl (((hI.row m _ g hu hg).alloc _).alloc _ |>.alloc _) ⟨wr.heap.size + 1 + 1, 0, none⟩ 1 1 [.int .i64 (i : Int)] rfl rfl (cell_one' (by simp) _ _) (by simp [Value.oneCell']) (by unfold maxLen; omega) (by omega) (by simp; omega) ?_
             intro u' W1 hr hgr _ hat
             obtain ⟨g', cap', rfl⟩ := ownsRow_succ hr
             obtain ⟨q1, q2, q3, q4, q5, q6⟩ := inner_step (((hv.alloc _).alloc _).alloc _) (((hI.alloc _).alloc _).alloc _) rfl hm hu hg hr hgr hat (by simp; omega))
          | go_in)
        go_roundw
        case rel =>
          refine ⟨i + 1, by simp, by omega, ?_⟩
          rw [hnext]
          have he : objStep st i o = (st.1.modify m (· ++ [(i : Int)]), st.2) := by unfold objStep; rw [hlk]; rfl
          obtain ⟨es, cl, m1, m2⟩ := map_alloc (map_alloc (map_alloc hM _) _) _
          rw [he]
          exact ⟨(hRb.trans ((((Below.refl _ wr).alloc hws _).alloc (by simp; omega) _).alloc (by simp; omega) _)).trans q5, Nat.le_refl _, ⟨es, cl, q6 _ _ _ m1, m2⟩, ⟨_, by simpa using q3, q4⟩, he ▸ hok.step i o, fun y hy => gl_modify hR.gl hy⟩
        case measure => simp [intOf]; omega
      | none =>
        obtain ⟨es0, cl0, hm0, _⟩ := id hM
        have hm1 : ∀ o1 o2, ((wr.alloc o1).alloc o2).heap[w.heap.size]? = some (.map es0 cl0) := fun o1 o2 => (Below.heap_alloc _ _ _ (by simp; omega)).trans ((Below.heap_alloc _ _ _ hMlt).trans hm0)
        have hvp : ∀ o1 o2 ob o3, ((((wr.alloc o1).alloc o2).putObj w.heap.size ob).alloc o3).ownsRow w.heap.size 29 1 (.slice adv st.1.length capv) st.1.length vs := fun o1 o2 ob o3 => (ownsRow_putObj ((hv.alloc o1).alloc o2) ob (hm1 o1 o2) rfl).alloc o3
        have hIp : ∀ o1 o2 ob o3, Inner ((((wr.alloc o1).alloc o2).putObj w.heap.size ob).alloc o3) w.heap.size vs st.1 := fun o1 o2 ob o3 => (((hI.alloc o1).alloc o2).kept (grownBy_putObj' _ w.heap.size ob) (fun g cur e h => by cases e; rw [hm1] at h; cases h)).alloc o3
        have hBp : ∀ o1 o2 ob o3, Below w.heap.size w ((((wr.alloc o1).alloc o2).putObj w.heap.size ob).alloc o3) := fun o1 o2 ob o3 => hRb.trans (((((Below.refl _ wr).alloc hws o1).alloc (by simp; omega) o2).trans ((Below.refl _ _).grown (grownBy_putObj' _ w.heap.size ob) (by simp; omega) (fun j ej => by cases ej; exact Nat.le_refl _))).alloc (by rw [size_put]; simp; omega) o3)
        have hsz : ∀ o1 o2 ob, ((((wr.alloc o1).alloc o2).putObj w.heap.size ob)).heap.size = wr.heap.size + 1 + 1 := fun o1 o2 ob => by rw [size_put]; simp
        have hnl : (0 : Int) ≤ (st.1.length : Int) := by omega
        go_wp2_with (first
          | (at_lookup; refine Mp.at_look rfl _ _ rfl keysOk Go.Proofs.Try.underlying39 (fun _ => rfl) w.heap.size _ rfl (hMa _ _) (objK o) rfl ?_)
          | (at_mapUpdate; refine Mp.at_upd rfl _ _ _ rfl keysOk Go.Proofs.Try.underlying39 w.heap.size _ rfl (hMa _ _) (objK o) (st.1.length : Int) rfl rfl ?_
             intro ob hMb)
          | (at_builtin; refine wpList_append_own_at _ rfl _ _ 25 rfl w.heap.size 29 i29 z29 1 24 Go.Proofs.Try.underlying25 hi29 hz29 hs29 hb29 hc29 (by decide) (.slice adv st.1.length capv) st.1.length vs rfl (hvp _ _ _ _) ⟨wr.heap.size + 1 + 1, 0, none⟩ 1 1 [.slice none 0 0] rfl rfl (cell_one' (hsz _ _ _).symm _ _) (by simp [Value.oneCell']) (by unfold maxLen; omega) (by omega) (hBp _ _ _ _).size ?_
             intro v' W1 hr hgr _ _
             obtain ⟨gb, capb, rfl⟩ := ownsRow_succ hr
             obtain ⟨hI1, hB1, hM1⟩ := outer_step (hvp _ _ _ _) (hIp _ _ _ _) rfl hgr (hBp _ _ _ _).size
             have hMc := hM1 _ _ (map_alloc hMb _)
             have hB2 := (hBp _ _ _ _).trans hB1
             have hcl := outer_cell (m := st.1.length) (u := .slice none 0 0) hr (by have := hv.1; rw [List.getElem?_append_right (by omega), show st.1.length - vs.length = 0 by omega]; rfl)
             have hB2s := hB2.size
             clear hM1 hvp hIp hBp hsz)
          | (at_builtin; refine wpList_append_own_at _ rfl _ _ 29 rfl w.heap.size 3 i3 z3 1 8 Go.Proofs.Try.underlying29 hi3 hz3 hs3 hb3 hc3 (by decide) (.slice none 0 0) 0 [] rfl (World.ownsRow_nil _ _ _ _) ⟨W1.heap.size, 0, none⟩ 1 1 [.int .i64 (i : Int)] rfl rfl (cell_one' rfl _ _) (by simp [Value.oneCell']) (by unfold maxLen; omega) (by omega) (by simp; omega) ?_
             intro u' W2 hr2 hgr2 _ hat2
             obtain ⟨g', cap', rfl⟩ := ownsRow_succ hr2
             obtain ⟨q1, q2, q3, q4, q5, q6⟩ := inner_step (m := st.1.length) (g := []) (hr.alloc _) (hI1.alloc _) (by simp) (by omega) (by have := hv.1; rw [List.getElem?_append_right (by omega), show st.1.length - vs.length = 0 by omega]; rfl) (by rw [List.getElem?_append_right (by omega), Nat.sub_self]; rfl) hr2 hgr2 hat2 (by simp; omega))
          | go_in)
        refine ⟨⟨i + 1, by simp, by omega, ?_⟩, by simp [intOf]; omega⟩
        rw [hnext]
        have he : objStep st i o = (st.1 ++ [[(i : Int)]], Mp.upd (objK o) (st.1.length : Int) st.2) := by unfold objStep; rw [hlk]
        have hmd : (st.1 ++ [[]]).modify st.1.length (· ++ [(i : Int)]) = st.1 ++ [[(i : Int)]] := modify_last _ _ _
        obtain ⟨es, cl, m1, m2⟩ := map_alloc hMc _
        have hok' := hok.step i o
        rw [he] at hok' ⊢
        rw [hmd] at q4
        exact ⟨(hB2.trans ((Below.refl _ W1).alloc (by omega) _)).trans q5, Nat.le_refl _, ⟨es, cl, q6 _ _ _ m1, m2⟩, ⟨_, by simpa using q3, q4⟩, hok', fun y hy => by
          rcases List.mem_append.1 hy with hy | hy
          · have := hR.gl y hy; omega
          · rw [List.mem_singleton.1 hy]; simp⟩
    · have hc : ¬ ((i : Int) < (ops.length : Int)) := by omega
      obtain rfl : i = ops.length := by omega
      rw [List.take_length] at hR
      go_wp2
      go_ret
      first | exact ⟨_, rfl, _, hR⟩ | exact ⟨_, _, rfl, hR⟩ | exact ⟨_, hR⟩
end Go.WObj
