/- The abstract machine, part 5: operations that only compute or read. Own text of this session. -/
import Derived.Test.YtkkkjcpfahhhpaaDoorAbs4
set_option linter.unusedVariables false
set_option linter.unusedSimpArgs false
namespace Go.Abs
open Go Go.RowKit

section
variable {P : Program} {gl : List (Nat × AVal)} {C : Cfg} {V0 : Vis} {w0 : Base} {w : World} {x : Ctx} {ρ : St} {a : Act}
variable {α : Type} {K : St → Foot → Option α} {z : α} {d ty : Nat} {ps : String} {af : Array Edge} {gd : Option (Nat × Bool)}

/-- What is to be shown of an operation. -/
def Sound (P : Program) (gl : List (Nat × AVal)) (C : Cfg) (V0 : Vis) (w0 : Base) (w : World) (ρ : St) (a : Act) (o : Oper) {α : Type} (K : St → Foot → Option α) (z : α) : Prop :=
  ∃ ρ' f, K ρ' f = some z ∧ Yields P gl V0 w0 C.nt o a w ρ'

theorem ev_move (hC : CfgOk P gl C) (h : R gl V0 w0 C.nt x ρ a w) (hlt : d < C.nt) {X : Operand} (o : Oper) (ho : o.op = .move X ∨ o.op = .assign X) (hd : o.dst = some d)
    (e : (match opnd C ρ X with | some v => setD ρ d (typedAt C o.type v) (rdOf X) K | none => none) = some z) : Sound P gl C V0 w0 w ρ a o K z := by
  split at e
  · rename_i A hA
    obtain ⟨h1, h2⟩ := opnd_rep hC h hA
    refine ⟨_, _, e, yields_val h hd hlt (v := a.eval X) ?_ (typedAt_rep h1) (fun k hm => h2 k (typedAt_men hm))⟩
    unfold execOp
    rcases ho with ho | ho <;> rw [ho] <;> rfl
  · cases e

theorem ev_pick (hC : CfgOk P gl C) (h : R gl V0 w0 C.nt x ρ a w) (hlt : d < C.nt) {c A B : Operand}
    (e : evOp C ρ ⟨some d, .pick c A B, ty, ps, af, gd⟩ K = some z) : Sound P gl C V0 w0 w ρ a ⟨some d, .pick c A B, ty, ps, af, gd⟩ K z := by
  simp only [evOp] at e
  split at e
  · rename_i b hb
    have hb' := bool_of (opnd_rep hC h hb).1
    cases b
    · simp only [cond_false] at e
      split at e
      · rename_i v hv
        obtain ⟨h1, h2⟩ := opnd_rep hC h hv
        exact ⟨_, _, e, yields_val h rfl hlt (v := a.eval B) (by simp [execOp, hb', asBool]) h1 h2⟩
      · cases e
    · simp only [cond_true] at e
      split at e
      · rename_i v hv
        obtain ⟨h1, h2⟩ := opnd_rep hC h hv
        exact ⟨_, _, e, yields_val h rfl hlt (v := a.eval A) (by simp [execOp, hb', asBool]) h1 h2⟩
      · cases e
  · cases e

theorem run_loadVar {t : Ty} {T : Nat} (hT : chk P t (.inl T) = true) {bl off : Nat} {cs : List Value} (hl : cs.length = t.size)
    (hc : ∀ j v, cs[j]? = some v → w.cell? ⟨bl, off + j, none⟩ = some v) :
    (Instr.loadAt T (.pointer (some ⟨bl, off, none⟩))).run P w = .ok (match t.isAgg with | true => .agg cs.toArray | false => cs.headD undef) w := by
  simp only [Instr.loadAt, Instr.sureAddr, loadVar, Sem.run_bind, Sem.run_pure, Result.andThen_ok, chk_agg hT]
  cases ha : t.isAgg with
  | true =>
    simp only [Sem.run_ite, if_true, Sem.run_bind, chk_size hT, Result.andThen_ok]
    have := run_loadCells_list (P := P) (w := w) ⟨bl, off, none⟩ cs (fun j v e => by rw [Addr.add_lit]; exact hc j v e)
    rw [hl] at this
    simp only [this, Result.andThen_ok, Sem.run_pure]
  | false =>
    have h1 : t.size = 1 := by cases t <;> simp_all [Ty.isAgg, Ty.size]
    rw [h1] at hl
    obtain ⟨v, rfl⟩ : ∃ v, cs = [v] := by
      match cs, hl with
      | [v], _ => exact ⟨v, rfl⟩
    have := hc 0 v rfl
    simp only [Nat.add_zero] at this
    simp [this]

theorem rep_cells {t : Ty} {A : AVal} {cs : List Value} (hA : (A matches .pr _ _ | .un) = t.isAgg) (hn : A ≠ .nd) (htu : ∀ l, A ≠ .tu l) (har : ∀ u xs, A ≠ .ar u xs) (h : RepCs x A cs) (hl : cs.length = t.size) :
    RepV x A (match t.isAgg with | true => .agg cs.toArray | false => cs.headD undef) := by
  cases ha : t.isAgg with
  | true =>
    rw [ha] at hA
    cases A <;> simp at hA
    · have : cs = [] := h
      subst this; rfl
    · exact ⟨cs, rfl, h⟩
  | false =>
    have h1 : t.size = 1 := by cases t <;> simp_all [Ty.isAgg, Ty.size]
    rw [h1] at hl
    obtain ⟨v, rfl⟩ : ∃ v, cs = [v] := by
      match cs, hl with
      | [v], _ => exact ⟨v, rfl⟩
    rw [ha] at hA
    cases A <;> first | exact h | (simp at hA; done) | exact absurd rfl hn | exact absurd rfl (htu _) | exact absurd rfl (har _ _)

theorem enc_agg (t : Ty) (v : t.den) : ((enc t v) matches .pr _ _ | .un) = t.isAgg := by cases t <;> rfl
theorem enc_ne_nd (t : Ty) (v : t.den) : enc t v ≠ .nd := by cases t <;> simp [enc]
theorem enc_ne_tu (t : Ty) (v : t.den) (l : AVal) : enc t v ≠ .tu l := by cases t <;> simp [enc]
theorem enc_ne_ar (t : Ty) (v : t.den) (u : Ty) (xs : List u.den) : enc t v ≠ .ar u xs := by cases t <;> simp [enc]

theorem rep_enc {t : Ty} {v : t.den} {cs : List Value} (h : RepT x.V t v cs) : RepV x (enc t v) (match t.isAgg with | true => .agg cs.toArray | false => cs.headD undef) :=
  rep_cells (enc_agg t v) (enc_ne_nd t v) (enc_ne_tu t v) (enc_ne_ar t v) (repCs_enc h) h.len

theorem pt_of {t : Ty} {v : t.den} {u : Value} (h : RepV x (.pt t v) u) : ∃ bl off es, u = .pointer (some ⟨bl, off, none⟩) ∧ RepT x.V t v es ∧ Reads x.V (some ⟨bl, off, none⟩) es := by
  obtain ⟨bl, off, es, e, h1, h2⟩ := h
  simp only [List.cons.injEq, and_true] at e
  exact ⟨bl, off, es, e, h1, h2⟩

theorem Reads.cell {V : Vis} (hv : VisOk V w) {bl off : Nat} {es : List Value} (h : Reads V (some ⟨bl, off, none⟩) es) : ∀ j v, es[j]? = some v → w.cell? ⟨bl, off + j, none⟩ = some v := fun j v e => by
  obtain ⟨b, o, h1, h2⟩ := h j v e
  simp only [Option.some.injEq, Addr.mk.injEq, and_true] at h1
  obtain ⟨rfl, rfl⟩ := h1
  exact hv _ _ _ h2

theorem ev_load_pt (hC : CfgOk P gl C) (h : R gl V0 w0 C.nt x ρ a w) (hlt : d < C.nt) {T : Nat} {X : Operand} {t u : Ty} {v : u.den} (hT : look C.tab T = some t) (hX : opnd C ρ X = some (.pt u v))
    (e : (match decEq u t with | .isTrue _ => setD ρ d (enc u v) (rdOf X) K | .isFalse _ => none) = some z) : Sound P gl C V0 w0 w ρ a ⟨some d, .load T X, ty, ps, af, gd⟩ K z := by
  split at e
  · rename_i hu _
    subst hu
    obtain ⟨bl, off, es, hp, h1, h2⟩ := pt_of (opnd_rep hC h hX).1
    refine ⟨_, _, e, yields_val h rfl hlt (by
      simp only [execOp, hp, Sem.run_bind, run_loadVar (hC.tab _ _ hT) h1.len (Reads.cell h.good.vis h2), Result.andThen_ok, Sem.run_pure]) (rep_enc h1) (men_none (fun k => enc_men k u v))⟩
  · cases e

theorem ev_nilCheck (hC : CfgOk P gl C) (h : R gl V0 w0 C.nt x ρ a w) (hlt : d < C.nt) {X : Operand}
    (e : evOp C ρ ⟨some d, .nilCheck X, ty, ps, af, gd⟩ K = some z) : Sound P gl C V0 w0 w ρ a ⟨some d, .nilCheck X, ty, ps, af, gd⟩ K z := by
  simp only [evOp] at e
  split at e
  · rename_i u v hX
    obtain ⟨h1, h2⟩ := opnd_rep hC h hX
    obtain ⟨bl, off, es, hp, _⟩ := pt_of h1
    exact ⟨_, _, e, yields_val h rfl hlt (v := a.eval X) (by simp [execOp, hp]) h1 h2⟩
  · rename_i k off hX
    obtain ⟨h1, h2⟩ := opnd_rep hC h hX
    have h1' := h1
    obtain ⟨bl, sz, _, hp, _⟩ := h1'
    simp only [List.cons.injEq, and_true] at hp
    exact ⟨_, _, e, yields_val h rfl hlt (v := a.eval X) (by simp [execOp, hp]) h1 h2⟩
  · rename_i k i off hX
    obtain ⟨h1, h2⟩ := opnd_rep hC h hX
    have h1' := h1
    obtain ⟨bl, sz, _, hp, _⟩ := h1'
    simp only [List.cons.injEq, and_true] at hp
    exact ⟨_, _, e, yields_val h rfl hlt (v := a.eval X) (by simp [execOp, hp]) h1 h2⟩
  · cases e

/-! Comparisons -/
theorem part_field {t : Ty} {T off : Nat} {ht : chk P t (.inl T) = true} {cs : Array Value} {c1 c2 c3 : List Value} (hcs : cs.toList = c1 ++ (c2 ++ c3)) (ho : off = c1.length) (hl : c2.length = t.size) :
    (part T cs off).run P w = .ok (match t.isAgg with | true => .agg c2.toArray | false => c2.headD undef) w := by
  unfold part
  rw [Sem.run_bind, chk_agg ht, Result.andThen_ok]
  cases ha : t.isAgg with
  | true =>
    simp only [if_true, Sem.run_bind, chk_size ht, Result.andThen_ok, Sem.run_pure]
    congr 2
    apply Array.ext'
    rw [Array.toList_extract, hcs, ho, ← hl]
    simp
  | false =>
    have h1 : t.size = 1 := by cases t <;> simp_all [Ty.isAgg, Ty.size]
    rw [h1] at hl
    obtain ⟨v, rfl⟩ : ∃ v, c2 = [v] := by
      match c2, hl with
      | [v], _ => exact ⟨v, rfl⟩
    have : cs[off]? = some v := by rw [← Array.getElem?_toList, hcs, ho]; simp
    simp [this]

theorem hasTy_len : ∀ {t : Ty} {A : AVal} {cs : List Value}, hasTy t A = true → RepCs x A cs → cs.length = t.size := by
  intro t
  induction t with
  | pr p q ihp ihq =>
    intro A cs h r
    cases A <;> simp only [hasTy] at h <;> (try cases h)
    split at h
    · rename_i h1
      obtain ⟨c1, c2, rfl, r1, r2⟩ := r
      rw [List.length_append, ihp h1 r1, ihq h r2]; rfl
    · cases h
  | un => intro A cs h r; cases A <;> simp only [hasTy] at h <;> (try cases h); rw [show cs = [] from r]; rfl
  | int k => intro A cs h r; cases A <;> simp only [hasTy] at h <;> (try cases h); rw [show cs = _ from r]; rfl
  | bool => intro A cs h r; cases A <;> simp only [hasTy] at h <;> (try cases h); rw [show cs = _ from r]; rfl
  | str => intro A cs h r; cases A <;> simp only [hasTy] at h <;> (try cases h); rw [show cs = _ from r]; rfl
  | sl t ih =>
    intro A cs h r
    cases A <;> simp only [hasTy] at h <;> (try cases h)
    · obtain ⟨⟨ad, c, es, e, _⟩, _⟩ := r; rw [e]; rfl
    · rw [show cs = _ from r]; rfl
    · obtain ⟨bl, sz, ad, _, e, _⟩ := r; rw [e]; rfl
  | o1 =>
    intro A cs h r
    cases A <;> simp only [hasTy] at h <;> (try cases h)
    · obtain ⟨bl, sz, _, e, _⟩ := r; rw [e]; rfl
    · obtain ⟨e, _⟩ := r; rw [e]; rfl
    · rw [show cs = _ from r]; rfl
    · obtain ⟨v, e, _⟩ := r; rw [e]; rfl

theorem hasTy_agg : ∀ {t : Ty} {A : AVal}, hasTy t A = true → (A matches .pr _ _ | .un) = t.isAgg ∧ A ≠ .nd ∧ (∀ l, A ≠ .tu l) ∧ (∀ u xs, A ≠ .ar u xs) := by
  intro t A h
  cases t <;> cases A <;> simp_all [hasTy, Ty.isAgg]

/-- Equal, as 'eqA' says. -/
theorem run_equal : ∀ {t : Ty} {A B : AVal} {r : Bool} {T dp : Nat} {v u : Value}, chk P t (.inl T) = true → hasTy t A = true → hasTy t B = true → eqA A B = some r → t.ht < dp →
    RepV x A v → RepV x B u → (Op.equalIn dp T v u).run P w = .ok r w := by
  intro t
  suffices H : ∀ {A B : AVal} {r : Bool} {dp : Nat}, hasTy t A = true → hasTy t B = true → eqA A B = some r → t.ht < dp →
      (∀ {T : Nat} {v u : Value}, chk P t (.inl T) = true → RepV x A v → RepV x B u → (Op.equalIn dp T v u).run P w = .ok r w) ∧
      (∀ {l : List Field} {off : Nat} {xs ys : Array Value} {p1 p2 c1 c2 : List Value}, chk P t (.inr (l, off)) = true → xs.toList = p1 ++ c1 → ys.toList = p2 ++ c2 → p1.length = off → p2.length = off →
        RepCs x A c1 → RepCs x B c2 → (Op.eqFields (dp - 1) xs ys l).run P w = .ok r w) by
    intro A B r T dp v u hT hA hB he hd hv hu
    exact (H hA hB he hd).1 hT hv hu
  induction t with
  | int k =>
    intro A B r dp hA hB he hd
    refine ⟨fun {T v u} hT hv hu => ?_, fun {l _ _ _ _ _ _ _} hc => by cases l <;> simp [chk] at hc⟩
    obtain ⟨dq, rfl⟩ : ∃ m, dp = m + 1 := ⟨dp - 1, by omega⟩
    cases A <;> simp only [hasTy] at hA <;> (try cases hA)
    cases B <;> simp only [hasTy] at hB <;> (try cases hB)
    simp only [eqA] at he
    simp only [chk, Bool.and_eq_true] at hT
    obtain ⟨_, hT⟩ := hT
    split at hT
    · rename_i hu'
      split at he
      · rename_i e _; subst e; cases he
        rw [int_of hv, int_of hu, run_equalIn_int _ _ _ _ _ _ _ hu']
      · cases he
    · cases hT
  | bool =>
    intro A B r dp hA hB he hd
    refine ⟨fun {T v u} hT hv hu => ?_, fun {l _ _ _ _ _ _ _} hc => by cases l <;> simp [chk] at hc⟩
    obtain ⟨dq, rfl⟩ : ∃ m, dp = m + 1 := ⟨dp - 1, by omega⟩
    cases A <;> simp only [hasTy] at hA <;> (try cases hA)
    cases B <;> simp only [hasTy] at hB <;> (try cases hB)
    simp only [chk, Bool.and_eq_true] at hT
    obtain ⟨_, hT⟩ := hT
    split at hT
    · rename_i hu'
      cases he
      rw [bool_of hv, bool_of hu, run_equalIn_bool' _ _ _ _ _ hu']
    · cases hT
  | str =>
    intro A B r dp hA hB he hd
    refine ⟨fun {T v u} hT hv hu => ?_, fun {l _ _ _ _ _ _ _} hc => by cases l <;> simp [chk] at hc⟩
    obtain ⟨dq, rfl⟩ : ∃ m, dp = m + 1 := ⟨dp - 1, by omega⟩
    cases A <;> simp only [hasTy] at hA <;> (try cases hA)
    cases B <;> simp only [hasTy] at hB <;> (try cases hB)
    simp only [chk, Bool.and_eq_true] at hT
    obtain ⟨_, hT⟩ := hT
    split at hT
    · rename_i hu'
      cases he
      rw [str_of hv, str_of hu, run_equalIn_string _ _ _ _ _ hu', beq_toListBytes]
    · cases hT
  | sl t ih =>
    intro A B r dp hA hB he hd
    cases A <;> simp only [hasTy] at hA <;> (try cases hA) <;> simp [eqA] at he
  | o1 =>
    intro A B r dp hA hB he hd
    cases A <;> simp only [hasTy] at hA <;> (try cases hA) <;> simp [eqA] at he
  | un =>
    intro A B r dp hA hB he hd
    obtain ⟨dq, rfl⟩ : ∃ m, dp = m + 1 := ⟨dp - 1, by omega⟩
    cases A <;> simp only [hasTy] at hA <;> (try cases hA)
    cases B <;> simp only [hasTy] at hB <;> (try cases hB)
    cases he
    refine ⟨fun {T v u} hT hv hu => ?_, fun {l _ _ _ _ _ _ _} hc _ _ _ _ _ _ => ?_⟩
    · simp only [chk, structOk, Bool.and_eq_true, Bool.not_eq_true'] at hT
      obtain ⟨_, ⟨hs, _⟩, hT⟩ := hT
      split at hT
      · rename_i fs hu'
        have hf : P.fieldsOf T = fs := by simp [Program.fieldsOf, hu']
        rw [show v = .agg #[] from hv, show u = .agg #[] from hu, run_equalIn_agg _ _ _ _ _ (by rw [hf]; exact hu') hs, hf, List.isEmpty_iff.1 hT]
        rfl
      · cases hT
    · cases l with
      | nil => rfl
      | cons f l => simp [chk] at hc
  | pr p q ihp ihq =>
    intro A B r dp hA hB he hd
    obtain ⟨dq, rfl⟩ : ∃ m, dp = m + 1 := ⟨dp - 1, by omega⟩
    cases A <;> simp only [hasTy] at hA <;> (try cases hA)
    rename_i A1 A2
    cases B <;> simp only [hasTy] at hB <;> (try cases hB)
    rename_i B1 B2
    split at hA
    case h_2 => cases hA
    rename_i hA1
    split at hB
    case h_2 => cases hB
    rename_i hB1
    simp only [eqA] at he
    split at he
    case h_2 => cases he
    rename_i r1 hr1
    split at he
    case h_2 => cases he
    rename_i r2 hr2
    cases he
    simp only [Ty.ht] at hd
    have key : ∀ {l : List Field} {off : Nat} {xs ys : Array Value} {p1 p2 c1 c2 : List Value}, chk P (.pr p q) (.inr (l, off)) = true → xs.toList = p1 ++ c1 → ys.toList = p2 ++ c2 → p1.length = off → p2.length = off →
        RepCs x (.pr A1 A2) c1 → RepCs x (.pr B1 B2) c2 → (Op.eqFields dq xs ys l).run P w = .ok (r1 && r2) w := by
      intro l off xs ys p1 p2 c1 c2 hc hx hy hp1 hp2 hv hu
      cases l with
      | nil => simp [chk] at hc
      | cons f l =>
        simp only [chk, Bool.and_eq_true, beq_iff_eq, bne_iff_ne, decide_eq_true_eq] at hc
        obtain ⟨ho, hn, _, hcp, hcq⟩ := hc
        obtain ⟨a1, a2, rfl, ra1, ra2⟩ := hv
        obtain ⟨b1, b2, rfl, rb1, rb2⟩ := hu
        have la := hasTy_len hA1 ra1
        have lb := hasTy_len hB1 rb1
        obtain ⟨g1, g2, g3, g4⟩ := hasTy_agg hA1
        obtain ⟨k1, k2, k3, k4⟩ := hasTy_agg hB1
        have e1 := (ihp hA1 hB1 hr1 (show p.ht < dq by omega)).1 hcp (rep_cells g1 g2 g3 g4 ra1 la) (rep_cells k1 k2 k3 k4 rb1 lb)
        have e2 := (ihq hA hB hr2 (show q.ht < dq + 1 by omega)).2 (xs := xs) (ys := ys) (p1 := p1 ++ a1) (p2 := p2 ++ b1) hcq (by rw [hx, List.append_assoc]) (by rw [hy, List.append_assoc])
          (by rw [List.length_append, hp1, la]) (by rw [List.length_append, hp2, lb]) ra2 rb2
        simp only [Op.eqFields, if_pos hn, Sem.run_bind, ne_eq, hn, not_false_eq_true, if_true]
        rw [part_field (ht := hcp) hx (by rw [ho, hp1]) la, Result.andThen_ok, part_field (ht := hcp) hy (by rw [ho, hp2]) lb, Result.andThen_ok, e1, Result.andThen_ok]
        cases r1
        · rfl
        · simp only [Bool.not_true, Bool.false_eq_true, if_false, Bool.true_and]; exact e2
    refine ⟨fun {T v u} hT hv hu => ?_, fun {l off xs ys p1 p2 c1 c2} hc hx hy hp1 hp2 hv hu => key hc hx hy hp1 hp2 hv hu⟩
    obtain ⟨cs, rfl, hv⟩ := hv
    obtain ⟨ds, rfl, hu⟩ := hu
    simp only [chk, structOk, Bool.and_eq_true, Bool.not_eq_true'] at hT
    obtain ⟨_, ⟨hs, _⟩, hT⟩ := hT
    split at hT
    · rename_i fs hu'
      have hf : P.fieldsOf T = fs := by simp [Program.fieldsOf, hu']
      rw [run_equalIn_agg _ _ _ _ _ (by rw [hf]; exact hu') hs, hf]
      split at hT
      · rename_i g l hl
        refine key (off := 0) (p1 := []) (p2 := []) ?_ (by simp) (by simp) rfl rfl hv hu
        rw [hl]
        simp only [Bool.and_eq_true] at hT
        simp only [chk, Bool.and_eq_true, Nat.zero_add]
        exact hT
      · cases hT
    · cases hT
end
end Go.Abs
