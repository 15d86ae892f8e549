/- The abstract machine, part 9: arrays, literals, appends, calls. Own text of this session. -/
import Derived.Test.YtkkkjcpfahhhpaaDoorAbs8
set_option linter.unusedVariables false
set_option linter.unusedSimpArgs false
namespace Go.Abs
open Go Go.RowKit

section
variable {P : Program} {gl : List (Nat × AVal)} {C : Cfg} {V0 : Vis} {w0 : Base} {w : World} {x : Ctx} {ρ : St} {a : Act} {nt : Nat}
variable {α : Type} {K : St → Foot → Option α} {z : α} {d ty : Nat} {ps : String} {af : Array Edge} {gd : Option (Nat × Bool)}

theorem RepArr.set {β : Type} {R : β → List Value → Prop} {s : Nat} (h : ∀ x cs, R x cs → cs.length = s) {y : β} {c : List Value} (hy : R y c) : ∀ {i : Nat} {xs : List β} {es}, RepArr R xs es → i < xs.length →
    ∃ p q r, es = p ++ (q ++ r) ∧ p.length = i * s ∧ q.length = s ∧ (∀ d, R (xs.getD i d) q) ∧ RepArr R (xs.set i y) (p ++ (c ++ r))
  | i, [], _, _, hi => by simp at hi
  | 0, x :: xs, _, ⟨c1, c2, e, r, q⟩, _ => ⟨[], c1, c2, e, by simp, h _ _ r, fun _ => r, c, c2, rfl, hy, q⟩
  | i + 1, x :: xs, _, ⟨c1, c2, e, r, q⟩, hi => by
    obtain ⟨p, q', r', rfl, hp, hq, hx, hr⟩ := RepArr.set h hy q (by simpa using hi)
    exact ⟨c1 ++ p, q', r', by rw [e, List.append_assoc], by rw [List.length_append, h _ _ r, hp, Nat.add_mul]; omega, hq, fun d => hx d, c1, p ++ (c ++ r'), by rw [List.append_assoc], r, hr⟩

theorem ev_store_bi (hC : CfgOk P gl C) (h : R gl V0 w0 C.nt x ρ a w) {T k i off : Nat} {X Y : Operand} {t u : Ty} {A : AVal} (hT : look C.tab T = some t) (hX : opnd C ρ X = some (.bi k i off)) (hY : opnd C ρ Y = some A)
    (hA : hasTy t (coerce t A) = true) {xs : u.sl.den} (hc : get ρ (br k) = some (.ar u xs)) (hi : i < List.length xs) {c1 e1 : AVal} (hov : overAt off (flat (coerce t A) .un) (flat (enc u (List.getD xs i (zeroD u))) .un) = some c1)
    (hun : unflat u c1 = some (e1, .un)) {y : u.den} (hd : dec u e1 = some y) :
    Yields P gl V0 w0 C.nt ⟨none, .store T X Y, ty, ps, af, gd⟩ a w (put (br k) (.ar u (List.set xs i y)) ρ) := by
  intro Kc Q hK
  obtain ⟨bl, sz, hs, hv, hz⟩ := bi_of (opnd_rep hC h hX).1
  obtain ⟨cs, E, hb, hr, har⟩ := h.good.at hc hs hz
  obtain ⟨hsz, hcap⟩ := har u xs rfl
  obtain ⟨a1, a2, ha12, harr, hone⟩ := hr
  obtain ⟨h1, h2⟩ := opnd_rep hC h hY
  have hcs := hasTy_cells hA (coerce_rep (t := t) h1)
  have hf := flat_rep hcs (show RepCs x .un [] from rfl)
  rw [List.append_nil] at hf
  -- the element's own cells
  obtain ⟨ce, re, _⟩ := RepArr.get (fun _ _ q => q.len) (zeroD u) harr i hi
  obtain ⟨p0, q0, r0, e0, hp0, hq0, hx0, _⟩ := RepArr.set (fun _ _ q => q.len) (R := RepT x.V u) re harr hi
  have hel := hx0 (zeroD u)
  have hfe := flat_rep (repCs_enc hel) (show RepCs x .un [] from rfl)
  rw [List.append_nil] at hfe
  obtain ⟨p, q, r, hpq, hp, hq, hr'⟩ := overAt_rep hov hf hfe
  obtain ⟨u1, u2, hu, hl, ru1, ru2, _⟩ := unflat_rep hun hr'
  have : u2 = [] := ru2
  subst this
  rw [List.append_nil] at hu
  have hy := repT_dec hd ru1
  rw [← hu] at hy
  obtain ⟨p2, q2, r2, e2, hp2, hq2, hx2, hset⟩ := RepArr.set (fun _ _ q => q.len) (R := RepT x.V u) hy harr hi
  have hqe : q2 = p ++ (q ++ r) := by
    have e3 := hx2 (zeroD u)
    -- both are the cells at the same place
    have : p2 ++ (q2 ++ r2) = p0 ++ (q0 ++ r0) := by rw [← e2, ← e0]
    have e4 := List.append_inj this (by rw [hp2, hp0])
    have e5 := List.append_inj e4.2 (by rw [hq2, hq0])
    rw [e5.1]; exact hpq
  have hcs2 : cs.toList = (p2 ++ p) ++ (q ++ (r ++ (r2 ++ a2))) := by rw [ha12, e2, hqe]; simp [List.append_assoc]
  have hb' : w.heap[bl]? = some (.cells ((p2 ++ p) ++ (q ++ (r ++ (r2 ++ a2)))).toArray E (0, 0)) := by rw [← hcs2]; exact hb
  unfold Oper.wp
  have hrun : (execOp a.eval ⟨none, .store T X Y, ty, ps, af, gd⟩).run P w = .ok .skip (w.setRow bl ((p2 ++ p) ++ ((a.eval Y).cells.toList ++ (r ++ (r2 ++ a2)))).toArray) := by
    have := run_storeVar (P := P) (hC.tab _ _ hT) hb' (hasTy_len hA hcs) hq (fun u m => hcs.one u m)
    rw [List.length_append, hp2, hp, ← hsz] at this
    simp only [execOp, hv, Sem.run_bind, this, Result.andThen_ok, Sem.run_pure]
  rw [hrun]
  show Kc (a.put none undef) _
  refine hK x a _ (h.setBox hz hc hs hb' ?_ ?_ ?_)
  · exact ⟨p2 ++ ((p ++ ((a.eval Y).cells.toList ++ r)) ++ r2), a2, by simp [List.append_assoc], hset, hone⟩
  · intro t' xs' e; cases e
    refine ⟨hsz, ?_⟩
    have hcl : cs.size = ((p2 ++ p) ++ (q ++ (r ++ (r2 ++ a2)))).length := by rw [← hcs2, Array.length_toList]
    rw [← hcap, hcl]
    simp only [List.size_toArray, List.length_append]; omega
  · intro j m; simp [mentions] at m

theorem ev_store (hC : CfgOk P gl C) (h : R gl V0 w0 C.nt x ρ a w) {T : Nat} {X Y : Operand}
    (e : evOp C ρ ⟨none, .store T X Y, ty, ps, af, gd⟩ K = some z) : Sound P gl C V0 w0 w ρ a ⟨none, .store T X Y, ty, ps, af, gd⟩ K z := by
  simp only [evOp] at e
  split at e
  · rename_i t k off A hT hX hY
    split at e
    case h_2 => cases e
    rename_i c hA hc
    split at e
    case h_2 => cases e
    rename_i c' hov
    exact ⟨_, _, e, ev_store_bx hC h hT hX hY hA hc hov⟩
  · rename_i t k i off A hT hX hY
    split at e
    case h_2 => cases e
    rename_i u xs hA hc
    cases hi : decide (i < List.length xs) with
    | false => rw [hi] at e; cases e
    | true =>
      rw [hi] at e; simp only [cond_true] at e
      split at e
      case h_2 => cases e
      rename_i c1 hov
      split at e
      case h_2 => cases e
      rename_i e1 hun
      split at e
      case h_2 => cases e
      rename_i y hd
      exact ⟨_, _, e, ev_store_bi hC h hT hX hY hA hc (by simpa using hi) hov hun hd⟩
  · cases e

/-! Struct literals -/
theorem setNthA_rep : ∀ {t : Ty} {A B v : AVal} {f : Nat} {o : Nat} {u : Ty} {cs vs : List Value}, hasTy t A = true → setNthA A f v = some B → fieldOf t f = some (o, u) → hasTy u v = true → RepCs x A cs → RepCs x v vs →
    hasTy t B = true ∧ (∃ p q r, cs = p ++ (q ++ r) ∧ p.length = o ∧ q.length = vs.length ∧ RepCs x B (p ++ (vs ++ r))) ∧ (∀ k, mentions k B = true → mentions k A = true ∨ mentions k v = true) := by
  intro t
  induction t with
  | pr p q ihp ihq =>
    intro A B v f o u cs vs hA hB hf hv r rv
    cases A <;> simp only [hasTy] at hA <;> (try cases hA)
    rename_i A1 A2
    split at hA
    case h_2 => cases hA
    rename_i hA1
    obtain ⟨c1, c2, rfl, r1, r2⟩ := r
    cases f with
    | zero =>
      cases hB; cases hf
      refine ⟨by simp only [hasTy, hv]; exact hA, ⟨[], c1, c2, rfl, rfl, by rw [hasTy_len hA1 r1, hasTy_len hv rv], vs, c2, rfl, rv, r2⟩, fun k m => ?_⟩
      simp only [mentions] at m
      split at m
      · rename_i hm; exact .inr hm
      · exact .inl (by simp only [mentions]; split <;> first | rfl | exact m)
    | succ f =>
      simp only [setNthA] at hB
      split at hB
      case h_2 => cases hB
      rename_i r' hr'
      cases hB
      simp only [fieldOf] at hf
      split at hf
      case h_2 => cases hf
      rename_i o' t' ho'
      cases hf
      obtain ⟨g1, ⟨p', q', r'', rfl, g2, g3, g4⟩, g5⟩ := ihq hA hr' ho' hv r2 rv
      refine ⟨by simp only [hasTy, hA1]; exact g1, ⟨c1 ++ p', q', r'', by simp [List.append_assoc], by rw [List.length_append, hasTy_len hA1 r1, g2], g3, c1, p' ++ (vs ++ r''), by simp [List.append_assoc], r1, g4⟩, fun k m => ?_⟩
      simp only [mentions] at m
      split at m
      · rename_i hm; exact .inl (by simp only [mentions, hm])
      · rcases g5 k m with h | h
        · exact .inl (by simp only [mentions]; split <;> first | rfl | exact h)
        · exact .inr h
  | _ => intro A B v f o u cs vs hA hB hf; cases f <;> cases hf

theorem hasTy_zero : ∀ t : Ty, hasTy t (zeroA t) = true
  | .int k => by simp only [zeroA, hasTy]; split <;> first | rfl | (rename_i h _; exact absurd rfl h)
  | .bool => rfl
  | .str => rfl
  | .sl t => by simp only [zeroA, hasTy]; split <;> first | rfl | (rename_i h _; exact absurd rfl h)
  | .un => rfl
  | .pr a b => by simp only [zeroA, hasTy, hasTy_zero a, hasTy_zero b]
  | .o1 => rfl

theorem fill_place (f : Nat → Option (Nat × Nat)) {cells : Array Value} {i o s : Nat} {p q r : List Value} {v : Value} (hf : f i = some (o, s)) (hc : cells.toList = p ++ (q ++ r)) (hp : p.length = o) (hq : q.length = v.cells.toList.length) (hs : v.cells.size = s) (rest : List (Nat × Value)) :
    Instr.fill f cells ((i, v) :: rest) = Instr.fill f (p ++ (v.cells.toList ++ r)).toArray rest := by
  have hsz : cells.size = p.length + (q.length + r.length) := by rw [← Array.length_toList, hc]; simp
  have hvl : v.cells.size = v.cells.toList.length := by simp
  have hfold : v.cells.zipIdx.foldl (fun cs (x : Value × Nat) => cs.setIfInBounds (o + x.2) x.1) cells = (p ++ (v.cells.toList ++ r)).toArray := by
    rw [← Array.foldl_toList, Array.toList_zipIdx]
    have gen : ∀ (vs : List Value) (n : Nat) (p q r : List Value) (cells : Array Value), cells.toList = p ++ (q ++ r) → p.length = o + n → q.length = vs.length →
        (vs.zipIdx n).foldl (fun cs (x : Value × Nat) => cs.setIfInBounds (o + x.2) x.1) cells = (p ++ (vs ++ r)).toArray := by
      intro vs
      induction vs with
      | nil =>
        intro n p q r cells hc hp hq
        have : q = [] := List.eq_nil_of_length_eq_zero hq
        subst this
        simp only [List.zipIdx_nil, List.foldl_nil]
        apply Array.ext'; simpa using hc
      | cons v vs ih =>
        intro n p q r cells hc hp hq
        cases q with
        | nil => simp at hq
        | cons u q =>
          simp only [List.zipIdx_cons, List.foldl_cons]
          rw [ih (n + 1) (p ++ [v]) q r _ ?_ (by simp [hp]; omega) (by simpa using hq)]
          · simp
          · rw [Array.toList_setIfInBounds, hc, ← hp, List.set_append_right _ _ (Nat.le_refl _), Nat.sub_self]
            simp
    exact gen _ 0 p q r cells hc (by omega) hq
  conv => lhs; rw [Instr.fill]
  simp only [hf]
  rw [if_neg (by rw [hs]; simp; rw [← hs, hvl, hsz]; omega), hfold]

theorem chk_struct {t : Ty} {T : Nat} (hT : chk P t (.inl T) = true) (ha : t.isAgg = true) : ∃ fs, P.underlying T = some (.struct fs) ∧ ∀ f o u, fieldOf t f = some (o, u) → ∃ fd, fs[f]? = some fd ∧ fd.offset = o ∧ chk P u (.inl fd.type) = true := by
  obtain ⟨dd, h1, h2⟩ := chk_und hT
  cases dd <;> simp only [ha, Bool.true_eq_false] at h2
  rename_i fs
  refine ⟨fs, h1, fun f o u hf => ?_⟩
  obtain ⟨fs', fd, g1, g2, g3, g4, _⟩ := chk_field hT hf
  rw [h1] at g1; cases g1
  exact ⟨fd, g2, g3, g4⟩


theorem places_flds : ∀ {t : Ty} {l : List Field} {off : Nat}, chk P t (.inr (l, off)) = true →
    ∃ pl : List (Nat × Nat), (l.mapM (fun f => do pure (f.offset, ← sizeOf f.type)) : Sem (List (Nat × Nat))).run P w = .ok pl w ∧ ∀ f o u, fieldOf t f = some (o, u) → pl[f]? = some (off + o, u.size)
  | .un, [], off, h => ⟨[], rfl, fun f o u hf => by simp [fieldOf] at hf⟩
  | .pr a b, fd :: r, off, h => by
    simp only [chk, Bool.and_eq_true, beq_iff_eq, bne_iff_ne, decide_eq_true_eq] at h
    obtain ⟨pl, h1, h2⟩ := places_flds h.2.2.2.2
    refine ⟨(fd.offset, a.size) :: pl, ?_, fun f o u hf => ?_⟩
    · simp only [List.mapM_cons, Sem.run_bind, chk_size h.2.2.2.1, Result.andThen_ok, Sem.run_pure, h1]
    · cases f with
      | zero => cases hf; simp [h.1]
      | succ f =>
        simp only [fieldOf] at hf
        split at hf
        case h_2 => cases hf
        rename_i o' t' ho'
        cases hf
        simp only [List.getElem?_cons_succ, h2 _ _ _ ho', Nat.add_assoc]
  | .un, _ :: _, off, h => by simp [chk] at h
  | .pr a b, [], off, h => by simp [chk] at h
  | .int _, l, off, h => by cases l <;> simp [chk] at h
  | .bool, l, off, h => by cases l <;> simp [chk] at h
  | .str, l, off, h => by cases l <;> simp [chk] at h
  | .sl _, l, off, h => by cases l <;> simp [chk] at h
  | .o1, l, off, h => by cases l <;> simp [chk] at h

theorem places_ok {t : Ty} {T : Nat} (hT : chk P t (.inl T) = true) (ha : t.isAgg = true) : ∃ fs, ∃ pl : Array (Nat × Nat), P.underlying T = some (.struct fs) ∧
    (fs.mapM (fun f => do pure (f.offset, ← sizeOf f.type)) : Sem (Array (Nat × Nat))).run P w = .ok pl w ∧ ∀ f o u, fieldOf t f = some (o, u) → pl[f]? = some (o, u.size) := by
  have key : ∀ fs : Array Field, P.underlying T = some (.struct fs) → chk P t (.inr (fs.toList, 0)) = true → ∃ fs, ∃ pl : Array (Nat × Nat), P.underlying T = some (.struct fs) ∧
      (fs.mapM (fun f => do pure (f.offset, ← sizeOf f.type)) : Sem (Array (Nat × Nat))).run P w = .ok pl w ∧ ∀ f o u, fieldOf t f = some (o, u) → pl[f]? = some (o, u.size) := by
    intro fs hu hc
    obtain ⟨pl, h1, h2⟩ := places_flds (w := w) hc
    refine ⟨fs, pl.toArray, hu, ?_, fun f o u hf => by simpa using h2 f o u hf⟩
    rw [Array.mapM_eq_mapM_toList, Sem.run_map, h1]; rfl
  cases t <;> simp only [Ty.isAgg, Bool.false_eq_true] at ha
  · simp only [chk, Bool.and_eq_true] at hT
    obtain ⟨_, _, h⟩ := hT
    split at h
    · rename_i fs hu
      exact key fs hu (by rw [List.isEmpty_iff.1 h]; rfl)
    · cases h
  · rename_i p q
    simp only [chk, Bool.and_eq_true] at hT
    obtain ⟨_, _, h⟩ := hT
    split at h
    · rename_i fs hu
      split at h
      · rename_i g r hl
        refine key fs hu ?_
        rw [hl]; simp only [Bool.and_eq_true] at h; simp only [chk, Bool.and_eq_true, Nat.zero_add]; exact h
      · cases h
    · cases h

theorem buildParts_rep (hC : CfgOk P gl C) (h : R gl V0 w0 nt x ρ a w) {t : Ty} {place : Nat → Option (Nat × Nat)} (hp : ∀ f o u, fieldOf t f = some (o, u) → place f = some (o, u.size)) :
    ∀ {l : List (Nat × Operand)} {acc v : AVal} {cells : Array Value}, buildParts C ρ t l acc = some v → hasTy t acc = true → RepCs x acc cells.toList → (∀ k, mentions k acc = true → ∃ A', get ρ (br k) = some A') →
      ∃ cells', Instr.fill place cells (l.map fun p => (p.1, a.eval p.2)) = some cells' ∧ RepCs x v cells'.toList ∧ hasTy t v = true ∧ (∀ k, mentions k v = true → ∃ A', get ρ (br k) = some A')
  | [], acc, v, cells, e, ha, hr, hm => by cases e; exact ⟨cells, rfl, hr, ha, hm⟩
  | (i, X) :: l, acc, v, cells, e, ha, hr, hm => by
    simp only [buildParts] at e
    split at e
    case h_2 => cases e
    rename_i A o u hX hf
    split at e
    case h_2 => cases e
    rename_i hA
    split at e
    case h_2 => cases e
    rename_i acc' hs
    have ⟨h1, h2⟩ : RepV x A (a.eval X) ∧ ∀ k, mentions k A = true → ∃ A', get ρ (br k) = some A' := by
      cases X with
      | tmp t => exact ⟨h.slots t A hX, fun k hm => h.good.clo _ _ k hX hm⟩
      | const v => exact ⟨(ofConst_rep hX).1, fun k hm => by rw [(ofConst_rep (x := x) hX).2 k] at hm; cases hm⟩
      | global g =>
        simp only [opnd, hC.glob] at hX
        obtain ⟨t, d, es, rfl, h1, h2⟩ := h.good.gok g A hX
        exact ⟨⟨g, 0, es, rfl, h1.mono h.good.grow, h2.mono h.good.grow⟩, fun k hm => by simp [mentions] at hm⟩
      | func f => simp only [opnd, Option.some.injEq] at hX; subst hX; exact ⟨rfl, fun k hm => by simp [mentions] at hm⟩
    have hcs := hasTy_cells hA (coerce_rep (t := u) h1)
    obtain ⟨g1, ⟨p, q, r, hcl, gp, gq, gr⟩, g2⟩ := setNthA_rep ha hs hf hA hr hcs
    have hlen := hasTy_len hA hcs
    obtain ⟨cells', f1, f2, f3, f4⟩ := buildParts_rep hC h hp (l := l) (acc := acc') (cells := (p ++ ((a.eval X).cells.toList ++ r)).toArray) e g1 (by simpa using gr) (fun k m => by
      rcases g2 k m with m | m
      · exact hm k m
      · exact h2 k (coerce_men m))
    refine ⟨cells', ?_, f2, f3, f4⟩
    simp only [List.map_cons]
    rw [fill_place place (hp _ _ _ hf) hcl gp gq (by rw [← Array.length_toList, hlen])]
    exact f1

theorem ev_build (hC : CfgOk P gl C) (h : R gl V0 w0 C.nt x ρ a w) (hlt : d < C.nt) {T : Nat} {parts : Array (Nat × Operand)}
    (e : evOp C ρ ⟨some d, .build T parts, ty, ps, af, gd⟩ K = some z) : Sound P gl C V0 w0 w ρ a ⟨some d, .build T parts, ty, ps, af, gd⟩ K z := by
  simp only [evOp] at e
  split at e
  case h_2 => cases e
  rename_i t hT
  split at e
  case h_2 => cases e
  rename_i ha
  split at e
  case h_2 => cases e
  rename_i v hv
  obtain ⟨i, hi, hs, hz⟩ := chk_info (hC.tab _ _ hT)
  obtain ⟨zv, hzv, hzr⟩ := zero_rep (x := x) hz
  obtain ⟨fs, pl, hu, hpl, hpf⟩ := places_ok (w := w) (hC.tab _ _ hT) ha
  obtain ⟨cells', f1, f2, f3, f4⟩ := buildParts_rep hC h (place := (pl[·]?)) hpf (cells := zv.cells) hv (hasTy_zero t) hzr (fun k m => by rw [zeroA_men] at m; cases m)
  obtain ⟨q1, q2, q3, q4⟩ := hasTy_agg f3
  have hrep := rep_cells q1 q2 q3 q4 f2 (hasTy_len f3 f2)
  rw [ha] at hrep
  refine ⟨_, _, e, yields_val h rfl hlt (v := .agg cells') ?_ (by simpa using hrep) f4⟩
  have hmap : (parts.map fun x => (x.1, a.eval x.2)).toList = parts.toList.map fun p => (p.1, a.eval p.2) := by simp
  simp only [execOp, Instr.build, zeroValue, typeInfo, Sem.run_bind, run_program, Result.andThen_ok, hi, Sem.run_pure, hzv, run_underlying hu, hpl]
  rw [hmap, f1]
  rfl
end
end Go.Abs
