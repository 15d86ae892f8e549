/- The abstract machine, part 10: rows that are laid, and appends. Own text of this session. -/
import Derived.Test.YtkkkjcpfahhhpaaDoorAbs9
set_option linter.unusedVariables false
set_option linter.unusedSimpArgs false
namespace Go.Abs
open Go Go.RowKit

section
variable {P : Program} {gl : List (Nat × AVal)} {C : Cfg} {V0 V : Vis} {w0 : Base} {w : World} {x : Ctx} {ρ : St} {a : Act} {nt : Nat}
variable {α : Type} {K : St → Foot → Option α} {z : α} {d ty : Nat} {ps : String} {af : Array Edge} {gd : Option (Nat × Bool)}

def visNew (V : Vis) (n : Nat) (es : List Value) : Vis := fun b o => if b = n then es[o]? else V b o

theorem visNew_ok {w' : World} {es : List Value} {cs : Array Value} {E : Nat} {fr : Nat × Nat} (hv : VisOk V w) (hw : Below w.heap.size w w') (hb : w'.heap[w.heap.size]? = some (.cells cs E fr))
    (he : ∀ (j : Nat) (v : Value), es[j]? = some v → cs[j]? = some v) : VisOk (visNew V w.heap.size es) w' := fun b o v e => by
  unfold visNew at e
  split at e
  · rename_i hb'; subst hb'
    rw [cell_of_row _ _ _ cs E fr hb]; exact he o v e
  · exact hv.below hw b o v e

theorem visNew_le {es : List Value} (hv : VisOk V w) : VLe V (visNew V w.heap.size es) := fun b o v e => by
  have h1 := hv b o v e
  have h2 := World.block_lt_of_cell? w _ h1
  unfold visNew
  rw [if_neg (by simp at h2; omega)]; exact e

theorem visNew_old {es : List Value} {n : Nat} : ∀ b o, b < n → visNew V n es b o = V b o := fun b o h => by
  unfold visNew; rw [if_neg (by omega)]

theorem visNew_reads {es : List Value} {n : Nat} : Reads (visNew V n es) (some ⟨n, 0, none⟩) es := fun j v e => ⟨n, 0, rfl, by unfold visNew; rw [if_pos rfl, Nat.zero_add]; exact e⟩

theorem zeroD_rep1 {t : Ty} {v : Value} (ht : t.isAgg = false) (h : zOk1 t v = true) : RepT V t (zeroD t) [v] := by
  have := zero_one (x := bare V) ht h
  cases t <;> simp only [Ty.isAgg, Bool.true_eq_false] at ht
  case int k => exact this
  case bool => exact this
  case str => exact this
  case sl t => exact this.1
  case o1 => exact this

theorem zeroD_list : ∀ {t : Ty} {l r : List Value}, zList t l = some r → ∃ c, l = c ++ r ∧ RepT V t (zeroD t) c := by
  intro t
  induction t with
  | un => intro l r h; simp only [zList, Option.some.injEq] at h; exact ⟨[], by simp [h], rfl⟩
  | pr a b iha ihb =>
    intro l r h
    simp only [zList] at h
    cases hm : zList a l with
    | none => simp [hm] at h
    | some m =>
      simp only [hm, Option.bind_some] at h
      obtain ⟨c1, e1, r1⟩ := iha hm
      obtain ⟨c2, e2, r2⟩ := ihb h
      exact ⟨c1 ++ c2, by rw [e1, e2, List.append_assoc], c1, c2, rfl, r1, r2⟩
  | _ =>
    intro l r h
    cases l with
    | nil => simp [zList] at h
    | cons v l =>
      simp only [zList] at h
      split at h
      · rename_i hz
        cases h
        exact ⟨[v], rfl, zeroD_rep1 rfl hz⟩
      · cases h

theorem zeroD_rep {t : Ty} {zv : Option Value} (h : zOk t zv = true) : ∃ v, zv = some v ∧ RepT V t (zeroD t) v.cells.toList := by
  obtain ⟨v, hv, hr⟩ := zero_rep (x := bare V) h
  refine ⟨v, hv, ?_⟩
  have : ∀ {t : Ty} {cs : List Value}, RepCs (bare V) (zeroA t) cs → RepT V t (zeroD t) cs := by
    intro t
    induction t with
    | pr p q ihp ihq => rintro cs ⟨c1, c2, e, r1, r2⟩; exact ⟨c1, c2, e, ihp r1, ihq r2⟩
    | sl t ih => intro cs r; exact r.1
    | _ => intro cs r; exact r
  exact this hr

/-! Slice literals -/
theorem sliceParts_fill (hC : CfgOk P gl C) (h : R gl V0 w0 nt x ρ a w) {t : Ty} : ∀ {l : List (Nat × Operand)} {n : Nat} {xs : List t.den} {done rest : List Value}, sliceParts C ρ t n l = some xs → done.length = n * t.size → rest.length = l.length * t.size →
    ∃ es, RepArr (RepT x.V t) xs es ∧ Instr.fill (fun i => some (i * t.size, t.size)) (done ++ rest).toArray (l.map fun p => (p.1, a.eval p.2)) = some (done ++ es).toArray ∧ xs.length = l.length
  | [], n, xs, done, rest, e, hd, hr => by
    cases e
    have : rest = [] := List.eq_nil_of_length_eq_zero (by simpa using hr)
    subst this
    exact ⟨[], rfl, rfl, rfl⟩
  | (i, X) :: l, n, xs, done, rest, e, hd, hr => by
    simp only [sliceParts] at e
    split at e
    case h_2 => cases e
    rename_i hi
    rw [beq_true] at hi
    subst hi
    split at e
    case h_2 => cases e
    rename_i A hX
    split at e
    case h_2 => cases e
    rename_i dv hdv
    split at e
    case h_2 => cases e
    rename_i r hrr
    cases e
    have h1 : RepV x A (a.eval X) := by
      cases X with
      | tmp t => exact h.slots t A hX
      | const v => exact (ofConst_rep hX).1
      | global g =>
        simp only [opnd, hC.glob] at hX
        obtain ⟨t, d, es, rfl, h1, h2⟩ := h.good.gok g A hX
        exact ⟨g, 0, es, rfl, h1.mono h.good.grow, h2.mono h.good.grow⟩
      | func f => simp only [opnd, Option.some.injEq] at hX; subst hX; exact rfl
    have hct : ∀ {t : Ty} {A : AVal} {d : t.den}, dec t A = some d → hasTy t A = true := by
      intro t
      induction t with
      | pr p q ihp ihq =>
        intro A d e
        cases A <;> simp only [dec] at e <;> (try cases e)
        split at e
        · rename_i u hu
          split at e
          · rename_i v hv; simp only [hasTy, ihp hu, ihq hv]
          · cases e
        · cases e
      | int k => intro A d e; cases A <;> simp only [dec] at e <;> (try cases e); simp only [hasTy]; split at e <;> first | (cases e; done) | rfl
      | sl t ih => intro A d e; cases A <;> simp only [dec] at e <;> (try cases e) <;> simp only [hasTy]; split at e <;> first | (cases e; done) | rfl
      | bool => intro A d e; cases A <;> simp only [dec] at e <;> (try cases e); rfl
      | str => intro A d e; cases A <;> simp only [dec] at e <;> (try cases e); rfl
      | un => intro A d e; cases A <;> simp only [dec] at e <;> (try cases e); rfl
      | o1 => intro A d e; cases A <;> simp only [dec] at e <;> cases e
    have hA := hct hdv
    have hcs := hasTy_cells hA (coerce_rep (t := t) h1)
    have hT := repT_dec hdv hcs
    have hlen := hasTy_len hA hcs
    have hrl : t.size ≤ rest.length := by rw [hr, List.length_cons, Nat.add_mul]; omega
    obtain ⟨es, g1, g2, g3⟩ := sliceParts_fill hC h (l := l) (n := i + 1) (done := done ++ (a.eval X).cells.toList) (rest := rest.drop t.size) hrr (by rw [List.length_append, hd, hlen, Nat.add_mul]; omega)
      (by rw [List.length_drop, hr, List.length_cons, Nat.add_mul]; omega)
    refine ⟨(a.eval X).cells.toList ++ es, ⟨_, _, rfl, hT, g1⟩, ?_, by simp [g3]⟩
    simp only [List.map_cons]
    rw [fill_place (fun i => some (i * t.size, t.size)) (p := done) (q := rest.take t.size) (r := rest.drop t.size) (o := i * t.size) (s := t.size) rfl (by simp) hd (by rw [List.length_take, hlen]; omega) (by rw [← Array.length_toList, hlen])]
    rw [← List.append_assoc, g2, List.append_assoc]

theorem ev_buildSlice (hC : CfgOk P gl C) (h : R gl V0 w0 C.nt x ρ a w) (hlt : d < C.nt) {T len : Nat} {parts : Array (Nat × Operand)}
    (e : evOp C ρ ⟨some d, .buildSlice T len parts, ty, ps, af, gd⟩ K = some z) : Sound P gl C V0 w0 w ρ a ⟨some d, .buildSlice T len parts, ty, ps, af, gd⟩ K z := by
  simp only [evOp] at e
  split at e
  case h_2 => cases e
  rename_i t hT
  split at e
  case h_2 => cases e
  rename_i xs hxs
  split at e
  case h_2 => cases e
  rename_i b1 b2 b3
  rw [beq_true] at b1
  have b2 := Nat.le_of_ble_eq_true b2
  have b3 := Nat.le_of_ble_eq_true b3
  obtain ⟨E, hE, hck⟩ := chk_sl (hC.tab _ _ hT)
  obtain ⟨i, hi, hs, hz⟩ := chk_info hck
  obtain ⟨zv, hzv, hzr⟩ := zeroD_rep (V := x.V) hz
  have hres : ¬ len * t.size > 2 ^ 24 := by simp only [Nat.not_lt]; simpa using b2
  obtain ⟨es, g1, g2, g3⟩ := sliceParts_fill hC h (l := parts.toList) (n := 0) (done := []) (rest := (List.range (len * t.size)).map fun i => (if len * t.size = 0 then #[] else zv.cells)[i % (if len * t.size = 0 then #[] else zv.cells).size]!) hxs (by simp) (by simp [b1])
  have hfill : Instr.fill (fun i => some (i * t.size, t.size)) ((Array.range (len * t.size)).map fun i => (if len * t.size = 0 then #[] else zv.cells)[i % (if len * t.size = 0 then #[] else zv.cells).size]!) (parts.map fun x => (x.1, a.eval x.2)).toList = some es.toArray := by
    rw [List.nil_append, List.nil_append] at g2
    rw [show (parts.map fun x => (x.1, a.eval x.2)).toList = parts.toList.map fun p => (p.1, a.eval p.2) from by simp]
    rw [show (Array.range (len * t.size)).map (fun i => (if len * t.size = 0 then #[] else zv.cells)[i % (if len * t.size = 0 then #[] else zv.cells).size]!) =
      ((List.range (len * t.size)).map fun i => (if len * t.size = 0 then #[] else zv.cells)[i % (if len * t.size = 0 then #[] else zv.cells).size]!).toArray from by apply Array.ext'; simp]
    exact g2
  have hlen : xs.length = len := by rw [g3, b1]
  have hrun : (execOp a.eval ⟨some d, .buildSlice T len parts, ty, ps, af, gd⟩).run P w = .ok (.value (.slice (some ⟨w.heap.size, 0, none⟩) len len)) (w.alloc (.cells es.toArray E)) := by
    simp only [execOp, Instr.buildSlice, Sem.run_bind, run_underlying hE, Result.andThen_ok, chk_size hck, Sem.run_ite, if_neg hres]
    by_cases h0 : len * t.size = 0
    · simp only [h0, if_true, Sem.run_pure, Result.andThen_ok] at hfill ⊢
      rw [hfill]
      simp [newRow]
    · simp only [h0, if_false, Sem.run_bind, zeroValue, typeInfo, run_program, Result.andThen_ok, hi, Sem.run_pure, hzv] at hfill ⊢
      rw [hfill]
      simp [newRow]
  split at e
  case h_2 =>
    split at e
    case h_2 => cases e
    rename_i hn
    refine ⟨_, _, e, fun Kc Q hK => ?_⟩
    unfold Oper.wp
    rw [hrun]
    have hesl := RepArr.len (fun _ _ q => q.len) g1
    have H : ((t.size, len).2 = 0 ∧ ∃ u, AVal.ar t xs = .ar u [] ∧ (t.size, len).1 = u.size) ∨
        ((t.size, len).2 ≠ 0 ∧ (w.alloc (.cells es.toArray E)).heap[w.heap.size]? = some (.cells es.toArray E (0, 0)) ∧ RepCs x (.ar t xs) es ∧
          (∀ u ys, AVal.ar t xs = .ar u ys → (t.size, len).1 = u.size ∧ es.toArray.size = (t.size, len).2 * u.size)) := by
      by_cases h0 : len = 0
      · refine .inl ⟨h0, t, ?_, rfl⟩
        rw [List.eq_nil_of_length_eq_zero (show List.length xs = 0 by omega)]
      · refine .inr ⟨h0, by rw [heap_alloc_new], ⟨es, [], by simp, g1, by simp⟩, fun u ys e => ?_⟩
        cases e
        exact ⟨rfl, by rw [List.size_toArray, hesl, hlen]⟩
    obtain ⟨x', hx'⟩ := h.boxG (Nat.le_refl _) (A := .os d (List.length xs)) (v := .slice (some ⟨w.heap.size, 0, none⟩) len len) hlt hn (below_alloc _) H
      (fun k m => by simp [mentions] at m) (fun y hy => ⟨_, _, _, hy, by rw [hlen], by rw [hlen]; exact Nat.le_refl _, fun _ => rfl⟩) (fun k m => (beq_true.1 (show Nat.beq d k = true from m)).symm)
    exact hK _ _ _ hx'
  refine ⟨_, _, e, yields_grow (V' := visNew x.V w.heap.size es) h rfl hlt hrun (below_alloc _) (visNew_ok h.good.vis (below_alloc _) (by rw [heap_alloc_new]) (fun j v ev => by simpa using ev)) (visNew_le h.good.vis) (visNew_old) ?_ (men_none fun _ => rfl)⟩
  rw [← hlen]
  exact rep_sl (x := { x with V := visNew x.V w.heap.size es }) (Nat.le_refl _) (g1.imp fun _ _ q => q.mono (visNew_le h.good.vis)) visNew_reads ⟨_, _, rfl⟩

/-! Arrays of zeros -/
theorem zeros_list (zs : List Value) (n : Nat) : (List.range (n * zs.length)).map (fun i => zs.toArray[i % zs.toArray.size]!) = (List.replicate n zs).flatten := by
  induction n with
  | zero => simp
  | succ n ih =>
    rw [Nat.add_mul, Nat.one_mul, List.range_add, List.map_append, ih, List.replicate_succ', List.flatten_append]
    congr 1
    simp only [List.flatten_cons, List.flatten_nil, List.append_nil, List.map_map]
    apply List.ext_getElem?
    intro j
    by_cases hj : j < zs.length
    · rw [List.getElem?_map, List.getElem?_range hj]
      simp only [Option.map_some, Function.comp, List.size_toArray]
      rw [show (n * zs.length + j) % zs.length = j from by rw [Nat.add_comm, Nat.add_mul_mod_self_right, Nat.mod_eq_of_lt hj], List.getElem?_eq_getElem hj]
      simp [hj]
    · rw [List.getElem?_eq_none (by simp; omega), List.getElem?_eq_none (by omega)]

theorem rep_replicate {t : Ty} {dv : t.den} {cs : List Value} (h : RepT V t dv cs) : ∀ n, RepArr (RepT V t) (List.replicate n dv) (List.replicate n cs).flatten
  | 0 => rfl
  | n + 1 => ⟨cs, _, by simp [List.replicate_succ], h, rep_replicate h n⟩

end
end Go.Abs
