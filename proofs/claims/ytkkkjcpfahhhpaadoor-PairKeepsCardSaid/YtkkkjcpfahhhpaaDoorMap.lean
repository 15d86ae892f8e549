/- Maps whose keys are structs: what a block holds; looking up, writing, deleting. Own text of this session. -/
import Derived.Test.YtkkkjcpfahhhpaaDoorAbs20
import Derived.Maps.OwnIn
import Derived.Maps.OwnOps
import Derived.Maps.OwnSet
import Derived.DeepKeys3
import Derived.RangeFuncRecord
import Derived.RangeFuncNested
set_option linter.unusedVariables false
set_option linter.unusedSimpArgs false
set_option linter.unusedSectionVars false
namespace Go.Mp
open Go Go.RowKit

/-- Values that are a map's keys. -/
structure Keys (P : Program) (K : TypeId) {κ : Type} (enc : κ → Value) [BEq κ] [LawfulBEq κ] : Prop where
  u : ∃ fs, P.underlying K = some (.struct fs)
  agg : ∀ a, ∃ cs, enc a = .agg cs
  eq : ∀ w a b, (Op.equal K (enc a) (enc b)).run P w = .ok (a == b) w
  ck : ∀ w e a, (Instr.checkKey e 10000 K (enc a)).run P w = .ok () w
  bits : ∀ a, Instr.sameBits 10000 (enc a) (enc a) = true

section
variable {P : Program} {κ : Type} [BEq κ] [LawfulBEq κ] {K T E : TypeId} {enc : κ → Value} {w : World}

def look (k : κ) : List (κ × Int) → Option Int
  | [] => none
  | p :: l => bif k == p.1 then some p.2 else look k l
def upd (k : κ) (v : Int) : List (κ × Int) → List (κ × Int)
  | [] => [(k, v)]
  | p :: l => bif k == p.1 then (k, v) :: l else p :: upd k v l
def del (k : κ) : List (κ × Int) → List (κ × Int)
  | [] => []
  | p :: l => bif k == p.1 then l else p :: del k l

/-- Block b holds a map. -/
def MapAt (enc : κ → Value) (w : World) (b : Nat) (l : List (κ × Int)) : Prop := ∃ es clock, w.heap[b]? = some (.map es clock) ∧ es.toList.map (fun e => (e.key, e.val)) = l.map fun p => (enc p.1, Value.int .i64 p.2)

/-- Where a key stands. -/
def seekK (k : κ) : List (κ × Int) → Nat → Option (Nat × Int)
  | [], _ => none
  | p :: l, i => bif k == p.1 then some (i, p.2) else seekK k l (i + 1)

theorem run_findAsking (hK : Keys P K enc) (k : κ) : ∀ {l : List (κ × Int)} {es : List MapEntry} (i : Nat), es.map (fun e => (e.key, e.val)) = l.map (fun p => (enc p.1, Value.int .i64 p.2)) →
    (Instr.findAsking K (enc k) es i).run P w = .ok ((seekK k l i).map fun q => (q.1, Value.int .i64 q.2)) w
  | [], [], i, _ => by simp [Instr.findAsking, seekK]
  | [], _ :: _, i, h => by simp at h
  | _ :: _, [], i, h => by simp at h
  | p :: l, e :: es, i, h => by
    simp only [List.map_cons, List.cons.injEq, Prod.mk.injEq] at h
    obtain ⟨⟨h1, h2⟩, h3⟩ := h
    rw [Instr.findAsking, Sem.run_bind, h1, hK.eq, Result.andThen_ok, seekK]
    cases (k == p.1) with
    | true => simp [h2]
    | false => simp only [Bool.false_eq_true, if_false, cond_false]; exact run_findAsking hK k (i + 1) h3

theorem run_findKey (hK : Keys P K enc) (k : κ) {l : List (κ × Int)} {es : List MapEntry} (h : es.map (fun e => (e.key, e.val)) = l.map (fun p => (enc p.1, Value.int .i64 p.2))) :
    (Instr.findKey K (enc k) es).run P w = .ok ((seekK k l 0).map fun q => (q.1, Value.int .i64 q.2)) w := by
  obtain ⟨fs, hu⟩ := hK.u
  unfold Instr.findKey
  rw [Sem.run_bind, run_underlying hu, Result.andThen_ok]
  cases es with
  | nil =>
    cases l with
    | nil => simp [Instr.findNow, seekK]
    | cons p l => simp at h
  | cons e es =>
    have : Instr.findNow (.struct fs) (enc k) (e :: es) 0 = none := by
      unfold Instr.findNow
      simp [Instr.sameNow]
    rw [this]
    exact run_findAsking hK k 0 h

theorem seek_look (k : κ) : ∀ (l : List (κ × Int)) (i : Nat), (seekK k l i).map (·.2) = look k l
  | [], _ => rfl
  | p :: l, i => by
    rw [seekK, look]
    cases (k == p.1) with
    | true => rfl
    | false => exact seek_look k l (i + 1)

theorem run_getObj' {b : Nat} {es : Array MapEntry} {clock : Nat} (h : w.heap[b]? = some (.map es clock)) : (getObj b).run P w = .ok (.map es clock) w := Go.MapKept.run_getObj_map h
theorem run_setO {b : Nat} {es : Array MapEntry} {clock : Nat} (o : Obj) (h : w.heap[b]? = some (.map es clock)) : (setObj b o).run P w = .ok () (w.putObj b o) := Go.MapKept.run_setObj_map o h

/-- Looking up, with ok. -/
theorem run_lookup (hK : Keys P K enc) (hT : P.underlying T = some (.map K E)) (hz : (zeroValue E).run P w = .ok (.int .i64 0) w) {b : Nat} {l : List (κ × Int)} (hm : MapAt enc w b l) (k : κ) :
    (Instr.lookup T (.map (some b)) (enc k) true).run P w = .ok (.tuple #[.int .i64 ((look k l).getD 0), .bool (look k l).isSome]) w := by
  obtain ⟨es, clock, h1, h2⟩ := hm
  unfold Instr.lookup
  rw [Sem.run_bind, run_underlying hT, Result.andThen_ok]
  simp only [Sem.run_bind, run_getObj' h1, Result.andThen_ok, Sem.run_pure, hK.ck, run_findKey hK k h2]
  rw [← seek_look k l 0]
  cases seekK k l 0 with
  | none => simp [hz]
  | some q => simp

theorem upd_seek (k : κ) (v : Int) : ∀ (l : List (κ × Int)) (i : Nat), (seekK k l i = none → upd k v l = l ++ [(k, v)]) ∧ (∀ q, seekK k l i = some q → i ≤ q.1 ∧ q.1 - i < l.length ∧ upd k v l = l.modify (q.1 - i) (fun _ => (k, v)) ∧ (l[q.1 - i]?).map (·.1) = some k)
  | [], i => ⟨fun _ => rfl, fun q h => by cases h⟩
  | p :: l, i => by
    obtain ⟨a1, a2⟩ := upd_seek k v l (i + 1)
    rw [seekK, upd]
    cases hk : (k == p.1) with
    | true =>
      refine ⟨fun h => (by simp at h), fun q h => ?_⟩
      simp only [cond_true, Option.some.injEq] at h
      subst h
      have := eq_of_beq hk
      simp [this]
    | false =>
      refine ⟨fun h => by simp only [cond_false] at h ⊢; rw [a1 h]; rfl, fun q h => ?_⟩
      simp only [cond_false] at h ⊢
      obtain ⟨b1, b2, b3, b4⟩ := a2 q h
      refine ⟨by omega, by simp; omega, ?_, ?_⟩
      · rw [b3, show q.1 - i = (q.1 - (i + 1)) + 1 by omega]; rfl
      · rw [show q.1 - i = (q.1 - (i + 1)) + 1 by omega]; simpa using b4

theorem del_seek (k : κ) : ∀ (l : List (κ × Int)) (i : Nat), (seekK k l i = none → del k l = l) ∧ (∀ q, seekK k l i = some q → i ≤ q.1 ∧ q.1 - i < l.length ∧ del k l = l.eraseIdx (q.1 - i))
  | [], i => ⟨fun _ => rfl, fun q h => by cases h⟩
  | p :: l, i => by
    obtain ⟨a1, a2⟩ := del_seek k l (i + 1)
    rw [seekK, del]
    cases hk : (k == p.1) with
    | true =>
      refine ⟨fun h => (by simp at h), fun q h => ?_⟩
      simp only [cond_true, Option.some.injEq] at h
      subst h
      simp
    | false =>
      refine ⟨fun h => by simp only [cond_false] at h ⊢; rw [a1 h], fun q h => ?_⟩
      simp only [cond_false] at h ⊢
      obtain ⟨b1, b2, b3⟩ := a2 q h
      refine ⟨by omega, by simp; omega, ?_⟩
      rw [b3, show q.1 - i = (q.1 - (i + 1)) + 1 by omega]; rfl

/-- Writing. -/
theorem run_update (hK : Keys P K enc) (hT : P.underlying T = some (.map K E)) {b : Nat} {l : List (κ × Int)} (hm : MapAt enc w b l) (k : κ) (v : Int) :
    ∃ o, (Instr.mapUpdate T (.map (some b)) (enc k) (.int .i64 v)).run P w = .ok () (w.putObj b o) ∧ MapAt enc (w.putObj b o) b (upd k v l) := by
  obtain ⟨es, clock, h1, h2⟩ := hm
  have hlt : b < w.heap.size := (Array.getElem?_eq_some_iff.1 h1).1
  obtain ⟨s1, s2⟩ := upd_seek k v l 0
  unfold Instr.mapUpdate
  rw [Sem.run_bind, run_underlying hT, Result.andThen_ok]
  simp only [Sem.run_bind, run_getObj' h1, Result.andThen_ok, hK.ck, run_findKey hK k h2]
  cases hs : seekK k l 0 with
  | none =>
    refine ⟨.map (es.push { key := enc k, val := .int .i64 v, born := clock }) (clock + 1), ?_, _, _, World.putObj_heap_same hlt, ?_⟩
    · simp [run_setO _ h1]
    · rw [s1 hs]; simp [h2]
  | some q =>
    obtain ⟨b1, b2, b3, b4⟩ := s2 q hs
    simp only [Nat.sub_zero] at b2 b3 b4
    have hlen : es.size = l.length := by have := congrArg List.length h2; simpa using this
    have hkey : ((es[q.1]?).map (·.key)).getD (enc k) = enc k := by
      have h3 := congrArg (fun r => r[q.1]?) h2
      simp only [List.getElem?_map] at h3
      rw [Array.getElem?_toList] at h3
      cases he : es[q.1]? with
      | none => rfl
      | some e =>
        rw [he] at h3
        cases hl : l[q.1]? with
        | none => rw [hl] at h3; simp at h3
        | some p =>
          rw [hl] at h3 b4
          simp only [Option.map_some, Option.some.injEq, Prod.mk.injEq] at h3 b4
          simp [h3.1, b4]
    refine ⟨.map (es.modify q.1 fun e => { e with key := enc k, val := .int .i64 v }) clock, ?_, _, _, World.putObj_heap_same hlt, ?_⟩
    · simp only [Option.map_some]
      rw [hkey]
      simp [Instr.keyThatStays, hK.bits, run_setO _ h1, Result.andThen]
    · rw [b3]
      apply List.ext_getElem?
      intro j
      have h3 := congrArg (fun r => r[j]?) h2
      simp only [List.getElem?_map] at h3
      simp only [List.getElem?_map, Array.toList_modify, List.getElem?_modify]
      by_cases hj : q.1 = j
      · subst hj
        simp only [if_true]
        cases he : es.toList[q.1]? with
        | none => rw [he] at h3; cases hl : l[q.1]? with
          | none => simp
          | some p => rw [hl] at h3; simp at h3
        | some e => rw [he] at h3; cases hl : l[q.1]? with
          | none => rw [hl] at h3; simp at h3
          | some p => simp
      · simp only [hj, if_false]
        cases he : es.toList[j]? with
        | none => rw [he] at h3; cases hl : l[j]? with
          | none => simp
          | some p => rw [hl] at h3; simp at h3
        | some e => rw [he] at h3; cases hl : l[j]? with
          | none => rw [hl] at h3; simp at h3
          | some p => rw [hl] at h3; simpa using h3

/-- Taking away. -/
theorem run_delete (hK : Keys P K enc) (hT : P.underlying T = some (.map K E)) {b : Nat} {l : List (κ × Int)} (hm : MapAt enc w b l) (k : κ) (ty U : TypeId) :
    ∃ o, (Builtin.delete_ #[T, U] ty #[.map (some b), enc k]).run P w = .ok (.tuple #[]) (w.putObj b o) ∧ MapAt enc (w.putObj b o) b (del k l) := by
  obtain ⟨es, clock, h1, h2⟩ := hm
  have hlt : b < w.heap.size := (Array.getElem?_eq_some_iff.1 h1).1
  obtain ⟨s1, s2⟩ := del_seek k l 0
  cases hs : seekK k l 0 with
  | none =>
    refine ⟨.map es clock, ?_, _, _, World.putObj_heap_same hlt, ?_⟩
    · have hf := run_findKey (P := P) (w := w) hK k h2
      rw [hs] at hf
      simp [Builtin.delete_, run_underlying hT, run_getObj' h1, Result.andThen_ok, hK.ck, hf, run_setO _ h1]
    · rw [s1 hs]; exact h2
  | some q =>
    obtain ⟨b1, b2, b3⟩ := s2 q hs
    simp only [Nat.sub_zero] at b2 b3
    have hlen : es.size = l.length := by have := congrArg List.length h2; simpa using this
    refine ⟨.map (es.eraseIdxIfInBounds q.1) clock, ?_, _, _, World.putObj_heap_same hlt, ?_⟩
    · have hf := run_findKey (P := P) (w := w) hK k h2
      rw [hs] at hf
      simp [Builtin.delete_, run_underlying hT, run_getObj' h1, Result.andThen_ok, hK.ck, hf, run_setO _ h1]
    · rw [b3, Array.eraseIdxIfInBounds, dif_pos (by omega)]
      simp only [Array.toList_eraseIdx]
      rw [Go.ChangeMaps.map_eraseIdx, Go.ChangeMaps.map_eraseIdx, h2]

/-! At the operations -/
theorem at_look {ops : Array Oper} {rest : List Oper} {o : Oper} {a : Act} {Q : Exit → Act → World → Prop} (hg : o.guard = none) (m x : Operand) (hop : o.op = Op.lookup T m x true)
    (hK : Keys P K enc) (hT : P.underlying T = some (.map K E)) (hz : ∀ w, (zeroValue E).run P w = .ok (.int .i64 0) w) (b : Nat) (l : List (κ × Int)) (hm : a.eval m = .map (some b)) (hM : MapAt enc w b l) (k : κ) (hx : a.eval x = enc k)
    (h : wpList P ops Q rest (a.put o.dst (.tuple #[.int .i64 ((look k l).getD 0), .bool (look k l).isSome])) w) : wpList P ops Q (o :: rest) a w := by
  refine wpList_plain hg fun K' hK' => ?_
  have hrun := run_lookup hK hT (hz w) hM k
  unfold Oper.wp
  simp [execOp, hop, hm, hx, hrun, Result.andThen]
  exact hK' _ _ h
theorem at_upd {ops : Array Oper} {rest : List Oper} {o : Oper} {a : Act} {Q : Exit → Act → World → Prop} (hg : o.guard = none) (m x y : Operand) (hop : o.op = Op.mapUpdate T m x y)
    (hK : Keys P K enc) (hT : P.underlying T = some (.map K E)) (b : Nat) (l : List (κ × Int)) (hm : a.eval m = .map (some b)) (hM : MapAt enc w b l) (k : κ) (v : Int) (hx : a.eval x = enc k) (hy : a.eval y = .int .i64 v)
    (h : ∀ ob, MapAt enc (w.putObj b ob) b (upd k v l) → wpList P ops Q rest (a.put o.dst undef) (w.putObj b ob)) : wpList P ops Q (o :: rest) a w := by
  refine wpList_plain hg fun K' hK' => ?_
  obtain ⟨ob, hrun, hM'⟩ := run_update hK hT hM k v
  unfold Oper.wp
  simp [execOp, hop, hm, hx, hy, hrun, Result.andThen]
  exact hK' _ _ (h ob hM')
theorem at_del {ops : Array Oper} {rest : List Oper} {o : Oper} {a : Act} {Q : Exit → Act → World → Prop} (hg : o.guard = none) (m x : Operand) (U : TypeId) (hop : o.op = Op.call { callee := Callee.builtin Builtin.delete, args := #[m, x], argTypes := #[T, U] })
    (hK : Keys P K enc) (hT : P.underlying T = some (.map K E)) (b : Nat) (l : List (κ × Int)) (hm : a.eval m = .map (some b)) (hM : MapAt enc w b l) (k : κ) (hx : a.eval x = enc k)
    (h : ∀ ob, MapAt enc (w.putObj b ob) b (del k l) → wpList P ops Q rest (a.put o.dst (.tuple #[])) (w.putObj b ob)) : wpList P ops Q (o :: rest) a w := by
  refine wpList_plain hg fun K' hK' => ?_
  obtain ⟨ob, hrun, hM'⟩ := run_delete hK hT hM k o.type U
  unfold Oper.wp
  simp [execOp, hop, resolve, invoke, builtin, hm, hx, hrun, Result.andThen]
  exact hK' _ _ (h ob hM')

theorem MapAt.other {w' : World} {b : Nat} {l : List (κ × Int)} (h : MapAt enc w b l) (he : w'.heap[b]? = w.heap[b]?) : MapAt enc w' b l := by
  obtain ⟨es, c, h1, h2⟩ := h
  exact ⟨es, c, he.trans h1, h2⟩
theorem MapAt.lt {b : Nat} {l : List (κ × Int)} (h : MapAt enc w b l) : b < w.heap.size := by
  obtain ⟨es, c, h1, h2⟩ := h
  exact (Array.getElem?_eq_some_iff.1 h1).1
end
end Go.Mp
