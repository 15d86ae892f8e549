/- The abstract machine, part 6: more operations that only compute. Own text of this session. -/
import Derived.Test.YtkkkjcpfahhhpaaDoorAbs5
import Derived.Laws.Slices
set_option linter.unusedVariables false
set_option linter.unusedSimpArgs false
namespace Go.Abs
open Go Go.RowKit

section
variable {P : Program} {gl : List (Nat × AVal)} {C : Cfg} {V0 : Vis} {w0 : Base} {w : World} {x : Ctx} {ρ : St} {a : Act}
variable {α : Type} {K : St → Foot → Option α} {z : α} {d ty : Nat} {ps : String} {af : Array Edge} {gd : Option (Nat × Bool)}

theorem intBin_sound {op : BinOp} {k j : IntKind} {m n : Int} {T : Nat} {X Y : Operand} {Kb : AVal → Option α} (e : intBin op k m n Kb = some z) (hk : k = j ∨ op = .shl ∨ op = .shr) :
    ∃ A v, Kb A = some z ∧ RepV x A v ∧ (∀ q, mentions q A = false) ∧
      ((do eqGuard op T X Y (.int k m) (.int j n); binOp op T (.int k m) (.int j n)) : Sem Value).run P w = .ok v w := by
  have hg : ∀ o, eqGuard o T X Y (.int k m) (.int j n) = pure () := fun o => eqGuard_at_int ..
  rw [hg, Sem.run_bind, Sem.run_pure, Result.andThen_ok]
  cases op <;> simp only [intBin] at e
  case add => obtain rfl := hk.resolve_right (by simp); exact ⟨_, _, e, rfl, fun _ => rfl, by rw [binOp_add]; rfl⟩
  case sub => obtain rfl := hk.resolve_right (by simp); exact ⟨_, _, e, rfl, fun _ => rfl, by rw [binOp_sub]; rfl⟩
  case mul => obtain rfl := hk.resolve_right (by simp); exact ⟨_, _, e, rfl, fun _ => rfl, by rw [binOp_mul]; rfl⟩
  case quo =>
    obtain rfl := hk.resolve_right (by simp)
    cases hn : n == 0 with
    | true => rw [hn] at e; cases e
    | false =>
      rw [hn] at e; simp only [cond_false] at e
      have : n ≠ 0 := by simpa using hn
      exact ⟨_, _, e, rfl, fun _ => rfl, by rw [binOp_quo]; simp [Op.intDiv, this]⟩
  case rem =>
    obtain rfl := hk.resolve_right (by simp)
    cases hn : n == 0 with
    | true => rw [hn] at e; cases e
    | false =>
      rw [hn] at e; simp only [cond_false] at e
      have : n ≠ 0 := by simpa using hn
      exact ⟨_, _, e, rfl, fun _ => rfl, by rw [binOp_rem]; simp [Op.intDiv, this]⟩
  case and => obtain rfl := hk.resolve_right (by simp); exact ⟨_, _, e, rfl, fun _ => rfl, by rw [binOp_and]; rfl⟩
  case or => obtain rfl := hk.resolve_right (by simp); exact ⟨_, _, e, rfl, fun _ => rfl, by rw [binOp_or]; rfl⟩
  case xor => obtain rfl := hk.resolve_right (by simp); exact ⟨_, _, e, rfl, fun _ => rfl, by rw [binOp_xor]; rfl⟩
  case andNot => obtain rfl := hk.resolve_right (by simp); exact ⟨_, _, e, rfl, fun _ => rfl, by rw [binOp_andNot]; rfl⟩
  case shl =>
    cases hn : decide (n < 0) with
    | true => rw [hn] at e; cases e
    | false =>
      rw [hn] at e; simp only [cond_false] at e
      have : ¬ n < 0 := by simpa using hn
      exact ⟨_, _, e, rfl, fun _ => rfl, by rw [binOp_shl]; simp [Op.shift, this]⟩
  case shr =>
    cases hn : decide (n < 0) with
    | true => rw [hn] at e; cases e
    | false =>
      rw [hn] at e; simp only [cond_false] at e
      have : ¬ n < 0 := by simpa using hn
      exact ⟨_, _, e, rfl, fun _ => rfl, by rw [binOp_shr]; simp [Op.shift, this]⟩
  case eql => obtain rfl := hk.resolve_right (by simp); exact ⟨_, _, e, rfl, fun _ => rfl, by rw [binOp_eql]; rfl⟩
  case neq => obtain rfl := hk.resolve_right (by simp); exact ⟨_, _, e, rfl, fun _ => rfl, by rw [binOp_neq]; rfl⟩
  case lss => obtain rfl := hk.resolve_right (by simp); exact ⟨_, _, e, rfl, fun _ => rfl, by rw [binOp_lss]; rfl⟩
  case leq => obtain rfl := hk.resolve_right (by simp); exact ⟨_, _, e, rfl, fun _ => rfl, by rw [binOp_leq]; rfl⟩
  case gtr => obtain rfl := hk.resolve_right (by simp); exact ⟨_, _, e, rfl, fun _ => rfl, by rw [binOp_gtr]; rfl⟩
  case geq => obtain rfl := hk.resolve_right (by simp); exact ⟨_, _, e, rfl, fun _ => rfl, by rw [binOp_geq]; rfl⟩

theorem strBin_sound {op : BinOp} {m n : ByteArray} {T : Nat} {X Y : Operand} {Kb : AVal → Option α} (e : strBin op m n Kb = some z) :
    ∃ A v, Kb A = some z ∧ RepV x A v ∧ (∀ q, mentions q A = false) ∧
      ((do eqGuard op T X Y (.string m) (.string n); binOp op T (.string m) (.string n)) : Sem Value).run P w = .ok v w := by
  have hg : ∀ o, eqGuard o T X Y (.string m) (.string n) = pure () := fun o => eqGuard_at_string ..
  rw [hg, Sem.run_bind, Sem.run_pure, Result.andThen_ok]
  have hb : ∀ o, binOp o T (.string m) (.string n) = Op.stringOp o m n := fun o => by cases o <;> rfl
  rw [hb]
  cases op <;> simp only [strBin] at e <;> (try (cases e; done))
  case add =>
    cases hn : decide (m.size + n.size ≤ 140737488355328) with
    | false => rw [hn] at e; cases e
    | true =>
      rw [hn] at e; simp only [cond_true] at e
      have h1 : m.size + n.size ≤ 140737488355328 := by simpa using hn
      refine ⟨_, _, e, rfl, fun _ => rfl, ?_⟩
      simp only [Op.stringOp, IntKind.max_i64]
      rw [if_neg (by omega)]; rfl
  all_goals exact ⟨_, _, e, rfl, fun _ => rfl, rfl⟩

theorem ht_lt (t : Ty) (hs : t.ht < 9999) : t.ht < Op.maxDepth := by simp only [Op.maxDepth]; omega

theorem run_eql_nil {T E : Nat} {ad : Option Addr} {n c : Nat} (hu : P.underlying T = some (.slice E)) : (Op.equal T (.slice ad n c) (.slice none 0 0)).run P w = .ok ad.isNone w := by
  unfold Op.equal
  rw [show Op.maxDepth = 9999 + 1 from rfl, Op.equalIn, Sem.run_bind, run_underlying hu, Result.andThen_ok]
  cases ad <;> rfl

theorem bin_sound (hC : CfgOk P gl C) {op : BinOp} {T : Nat} {A B : AVal} {va vb : Value} {X Y : Operand} {Kb : AVal → Option α} (ha : RepV x A va) (hb : RepV x B vb)
    (e : bin C op T A B Kb = some z) :
    ∃ A' v, Kb A' = some z ∧ RepV x A' v ∧ (∀ q, mentions q A' = false) ∧ ((do eqGuard op T X Y va vb; binOp op T va vb) : Sem Value).run P w = .ok v w := by
  unfold bin at e
  split at e
  · rename_i j m k n
    rw [int_of ha, int_of hb]
    split at e
    · exact intBin_sound e (.inr (.inl rfl))
    · exact intBin_sound e (.inr (.inr rfl))
    · split at e
      · rename_i hjk _; exact intBin_sound e (.inl hjk)
      · cases e
  · rw [str_of ha, str_of hb]; exact strBin_sound e
  · rename_i m n
    rw [bool_of ha, bool_of hb]
    have hg : ∀ o, eqGuard o T X Y (.bool m) (.bool n) = pure () := fun o => eqGuard_at_bool ..
    rw [hg, Sem.run_bind, Sem.run_pure, Result.andThen_ok]
    split at e
    · rename_i hT
      have hT' := hC.tab _ _ hT
      simp only [chk, Bool.and_eq_true] at hT'
      obtain ⟨_, hT'⟩ := hT'
      split at hT'
      · rename_i hu
        refine ⟨_, _, e, rfl, fun _ => rfl, ?_⟩
        simp [binOp, Op.equal, Op.maxDepth, run_equalIn_bool' _ _ _ _ _ hu]
      · cases hT'
    · rename_i hT
      have hT' := hC.tab _ _ hT
      simp only [chk, Bool.and_eq_true] at hT'
      obtain ⟨_, hT'⟩ := hT'
      split at hT'
      · rename_i hu
        refine ⟨_, _, e, rfl, fun _ => rfl, ?_⟩
        simp [binOp, Op.equal, Op.maxDepth, run_equalIn_bool' _ _ _ _ _ hu]
      · cases hT'
    · cases e
  · rename_i a1 a2 b1 b2
    split at e
    case h_2 => cases e
    rename_i t ht
    split at e
    case h_2 => cases e
    rename_i hA hB
    obtain ⟨cs, rfl, hcs⟩ := ha
    obtain ⟨ds, rfl, hds⟩ := hb
    have hT := hC.tab _ _ ht
    have hgd : (eqGuard op T X Y (.agg cs.toArray) (.agg ds.toArray)).run P w = .ok () w := by
      refine run_eqGuard_agg _ _ _ _ _ _ _ ?_
      cases t <;> simp only [hasTy] at hA <;> (try cases hA)
      simp only [chk, structOk, Bool.and_eq_true, Bool.not_eq_true'] at hT
      exact hT.2.1.2
    rw [Sem.run_bind, hgd, Result.andThen_ok]
    split at e
    · rename_i q hq
      have := run_equal (P := P) (w := w) (x := x) hT hA hB hq (ht_lt t (hC.ht _ _ ht)) (v := .agg cs.toArray) (u := .agg ds.toArray) ⟨cs, rfl, hcs⟩ ⟨ds, rfl, hds⟩
      exact ⟨_, _, e, rfl, fun _ => rfl, by rw [run_eql_struct]; simp only [Op.maxDepth] at this; rw [this]; rfl⟩
    · rename_i q hq
      have := run_equal (P := P) (w := w) (x := x) hT hA hB hq (ht_lt t (hC.ht _ _ ht)) (v := .agg cs.toArray) (u := .agg ds.toArray) ⟨cs, rfl, hcs⟩ ⟨ds, rfl, hds⟩
      exact ⟨_, _, e, rfl, fun _ => rfl, by rw [run_neq_struct]; simp only [Op.maxDepth] at this; rw [this]; rfl⟩
    · cases e
  · rename_i u xs g
    split at e
    case h_2 => cases e
    rename_i y hT hg
    have hvb : vb = .slice none 0 0 := by simpa [RepV, RepV1, RepCs] using hb
    obtain ⟨⟨ad, c, es, hva, _⟩, htag⟩ := ha
    have hva' : va = .slice ad xs.length c := by simpa using hva
    have hty := htag va rfl
    have hnil : ad.isNone = y := by
      cases g <;> simp only [nilB] at hg <;> (try (cases hg; done))
      · cases hg; obtain ⟨n, c, h⟩ := hty; rw [hva'] at h; cases h; rfl
      · cases hg; obtain ⟨a, n, c, h⟩ := hty; rw [hva'] at h; cases h; rfl
    obtain ⟨E, hu⟩ : ∃ E, P.underlying T = some (.slice E) := by
      cases hl : look C.tab T with
      | none => rw [hl] at hT; cases hT
      | some t =>
        rw [hl] at hT
        cases t <;> simp only [isSl] at hT <;> (try (cases hT; done))
        have h := hC.tab _ _ hl
        simp only [chk, Bool.and_eq_true] at h
        obtain ⟨_, h⟩ := h
        split at h
        · exact ⟨_, by assumption⟩
        · cases h
    subst hva'; subst hvb; subst hnil
    cases op <;> simp only at e <;> (try (cases e; done))
    · refine ⟨_, _, e, rfl, fun _ => rfl, ?_⟩
      have hg : eqGuard .eql T X Y (.slice ad xs.length c) (.slice none 0 0) = pure () := rfl
      have hq := run_eql_nil (P := P) (w := w) (ad := ad) (n := xs.length) (c := c) hu
      rw [hg, Sem.run_bind, Sem.run_pure, Result.andThen_ok]
      simp only [binOp, Sem.run_bind, Sem.run_map, hq]
      rfl
    · refine ⟨_, _, e, rfl, fun _ => rfl, ?_⟩
      have hg : eqGuard .neq T X Y (.slice ad xs.length c) (.slice none 0 0) = pure () := rfl
      have hq := run_eql_nil (P := P) (w := w) (ad := ad) (n := xs.length) (c := c) hu
      rw [hg, Sem.run_bind, Sem.run_pure, Result.andThen_ok]
      simp only [binOp, Sem.run_bind, Sem.run_map, hq]
      rfl
  · cases e


theorem ev_binOp (hC : CfgOk P gl C) (h : R gl V0 w0 C.nt x ρ a w) (hlt : d < C.nt) {op : BinOp} {T U : Nat} {X Y : Operand}
    (e : evOp C ρ ⟨some d, .binOp op T X Y U, ty, ps, af, gd⟩ K = some z) : Sound P gl C V0 w0 w ρ a ⟨some d, .binOp op T X Y U, ty, ps, af, gd⟩ K z := by
  simp only [evOp] at e
  split at e
  · rename_i A B hA hB
    obtain ⟨A', v, e', hv, hm, hr⟩ := bin_sound (X := X) (Y := Y) (P := P) (w := w) hC (opnd_rep hC h hA).1 (opnd_rep hC h hB).1 e
    refine ⟨_, _, e', yields_val h rfl hlt ?_ hv (men_none hm)⟩
    simp only [execOp, Sem.run_bind] at hr ⊢
    rw [hr]; rfl
  · cases e

theorem ev_unOp (hC : CfgOk P gl C) (h : R gl V0 w0 C.nt x ρ a w) (hlt : d < C.nt) {op : UnOp} {T : Nat} {X : Operand}
    (e : evOp C ρ ⟨some d, .unOp op T X, ty, ps, af, gd⟩ K = some z) : Sound P gl C V0 w0 w ρ a ⟨some d, .unOp op T X, ty, ps, af, gd⟩ K z := by
  cases op <;> simp only [evOp] at e <;> (try (cases e; done))
  · split at e
    · rename_i k n hX
      have hx := int_of (opnd_rep hC h hX).1
      exact ⟨_, _, e, yields_val h rfl hlt (by simp [execOp, hx, Op.unary, Op.intArith]) (rep_int _ _) (men_none fun _ => rfl)⟩
    · cases e
  · split at e
    · rename_i b hX
      have hx := bool_of (opnd_rep hC h hX).1
      exact ⟨_, _, e, yields_val h rfl hlt (by simp [execOp, hx, Op.unary]) (rep_bool _) (men_none fun _ => rfl)⟩
    · cases e

theorem ev_convert (hC : CfgOk P gl C) (h : R gl V0 w0 C.nt x ρ a w) (hlt : d < C.nt) {S T : Nat} {X : Operand}
    (e : evOp C ρ ⟨some d, .convert S T X, ty, ps, af, gd⟩ K = some z) : Sound P gl C V0 w0 w ρ a ⟨some d, .convert S T X, ty, ps, af, gd⟩ K z := by
  simp only [evOp] at e
  split at e
  · rename_i t1 k k' n hS hT hX
    have hx := int_of (opnd_rep hC h hX).1
    obtain ⟨ds, hds, _⟩ := chk_und (hC.tab _ _ hS)
    have hT' := hC.tab _ _ hT
    simp only [chk, Bool.and_eq_true] at hT'
    obtain ⟨_, hT'⟩ := hT'
    split at hT'
    · rename_i j hu
      have hj : j = k := by simpa using hT'
      subst hj
      refine ⟨_, _, e, yields_val h rfl hlt (v := .int j (j.wrap n)) ?_ (rep_int _ _) (men_none fun _ => rfl)⟩
      simp only [execOp, convert, Sem.run_bind, run_underlying hds, run_underlying hu, Result.andThen_ok, hx]
      cases ds <;> rfl
    · cases hT'
  · cases e

theorem ptField_rep : ∀ {u : Ty} {v : u.den} {f : Nat} {p : AVal}, ptField u v f = some p → ∃ o r y, fieldOf u f = some (o, r) ∧ p = .pt r y ∧
    ∀ {V : Vis} {es : List Value}, RepT V u v es → ∃ c1 c2 c3, es = c1 ++ (c2 ++ c3) ∧ c1.length = o ∧ RepT V r y c2
  | .pr b c, v, 0, _, e => by
    cases e
    refine ⟨0, b, v.1, rfl, rfl, ?_⟩
    rintro V _ ⟨c1, c2, rfl, r1, r2⟩
    exact ⟨[], c1, c2, rfl, rfl, r1⟩
  | .pr b c, v, f + 1, p, e => by
    obtain ⟨o, r, y, h1, h2, h3⟩ := ptField_rep (u := c) (v := v.2) (f := f) (p := p) e
    refine ⟨b.size + o, r, y, by simp only [fieldOf, h1], h2, ?_⟩
    rintro V _ ⟨c1, c2, rfl, r1, r2⟩
    obtain ⟨d1, d2, d3, rfl, hl, hr⟩ := h3 r2
    exact ⟨c1 ++ d1, d2, d3, by simp [List.append_assoc], by rw [List.length_append, r1.len, hl], hr⟩
  | .int _, _, f, _, e => by cases f <;> cases e
  | .bool, _, f, _, e => by cases f <;> cases e
  | .str, _, f, _, e => by cases f <;> cases e
  | .sl _, _, f, _, e => by cases f <;> cases e
  | .un, _, f, _, e => by cases f <;> cases e
  | .o1, _, f, _, e => by cases f <;> cases e

theorem run_fieldAt {t u : Ty} {S f o : Nat} (hT : chk P t (.inl S) = true) (hf : fieldOf t f = some (o, u)) (bl off : Nat) :
    (Instr.fieldAt S (.pointer (some ⟨bl, off, none⟩)) f).run P w = .ok (.pointer (some ⟨bl, off + o, none⟩)) w := by
  obtain ⟨fs, fd, h1, h2, h3, h4, h5⟩ := chk_field hT hf
  have hne : ¬ u.size = 0 := by omega
  simp only [Instr.fieldAt, Sem.run_bind, run_underlying h1, Result.andThen_ok, h2, Instr.sureAddr, Sem.run_pure, fieldPlace, chk_size h4, Sem.run_ite, if_neg hne, h3, Addr.add_lit]

theorem ev_fieldAddr (hC : CfgOk P gl C) (h : R gl V0 w0 C.nt x ρ a w) (hlt : d < C.nt) {S f : Nat} {X : Operand}
    (e : evOp C ρ ⟨some d, .fieldAddr S X f, ty, ps, af, gd⟩ K = some z) : Sound P gl C V0 w0 w ρ a ⟨some d, .fieldAddr S X f, ty, ps, af, gd⟩ K z := by
  simp only [evOp] at e
  split at e
  · rename_i t u v hS hX
    split at e
    case h_2 => cases e
    rename_i hu _
    subst hu
    split at e
    case h_2 => cases e
    rename_i p hp
    obtain ⟨bl, off, es, hv, h1, h2⟩ := pt_of (opnd_rep hC h hX).1
    obtain ⟨o, r, y, h3, rfl, h4⟩ := ptField_rep hp
    obtain ⟨c1, c2, c3, rfl, hl, hr⟩ := h4 h1
    refine ⟨_, _, e, yields_val h rfl hlt (v := .pointer (some ⟨bl, off + o, none⟩)) ?_ ⟨bl, off + o, c2, rfl, hr, ?_⟩ (men_none fun _ => rfl)⟩
    · simp only [execOp, hv, Sem.run_bind, run_fieldAt (hC.tab _ _ hS) h3, Result.andThen_ok, Sem.run_pure]
    · intro j u' e'
      obtain ⟨b, o', q1, q2⟩ := h2 (o + j) u' (by rw [← hl, List.getElem?_append_right (by omega), Nat.add_sub_cancel_left, List.getElem?_append_left (List.getElem?_eq_some_iff.1 e').1]; exact e')
      simp only [Option.some.injEq, Addr.mk.injEq, and_true] at q1
      obtain ⟨rfl, rfl⟩ := q1
      exact ⟨_, _, rfl, by rw [← q2]; congr 1; omega⟩
  · rename_i t k off hS hX
    split at e
    case h_2 => cases e
    rename_i o u hf
    obtain ⟨h1, h2⟩ := opnd_rep hC h hX
    obtain ⟨bl, sz, hs, hp, hz⟩ := h1
    simp only [List.cons.injEq, and_true] at hp
    refine ⟨_, _, e, yields_val h rfl hlt (v := .pointer (some ⟨bl, off + o, none⟩)) ?_ ⟨bl, sz, hs, rfl, hz⟩ (fun q hm => h2 q hm)⟩
    simp only [execOp, hp, Sem.run_bind, run_fieldAt (hC.tab _ _ hS) hf, Result.andThen_ok, Sem.run_pure]
  · rename_i t k i off hS hX
    split at e
    case h_2 => cases e
    rename_i o u hf
    obtain ⟨h1, h2⟩ := opnd_rep hC h hX
    obtain ⟨bl, sz, hs, hp, hz⟩ := h1
    simp only [List.cons.injEq, and_true] at hp
    refine ⟨_, _, e, yields_val h rfl hlt (v := .pointer (some ⟨bl, i * sz.1 + (off + o), none⟩)) ?_ ⟨bl, sz, hs, rfl, hz⟩ (fun q hm => h2 q hm)⟩
    simp only [execOp, hp, Sem.run_bind, run_fieldAt (hC.tab _ _ hS) hf, Result.andThen_ok, Sem.run_pure, Nat.add_assoc]
  · cases e

/-! A part of a struct -/
theorem nthA_rep : ∀ {t : Ty} {A B : AVal} {f : Nat}, hasTy t A = true → nthA A f = some B → ∃ o u, fieldOf t f = some (o, u) ∧ hasTy u B = true ∧ (∀ k, mentions k B = true → mentions k A = true) ∧
    ∀ {cs : List Value}, RepCs x A cs → ∃ c1 c2 c3, cs = c1 ++ (c2 ++ c3) ∧ c1.length = o ∧ RepCs x B c2 := by
  intro t
  induction t with
  | pr p q ihp ihq =>
    intro A B f h e
    cases A <;> simp only [hasTy] at h <;> (try cases h)
    rename_i A1 A2
    split at h
    case h_2 => cases h
    rename_i h1
    cases f with
    | zero =>
      cases e
      refine ⟨0, p, rfl, h1, fun k hm => by simp only [mentions, hm], ?_⟩
      rintro _ ⟨c1, c2, rfl, r1, r2⟩
      exact ⟨[], c1, c2, rfl, rfl, r1⟩
    | succ f =>
      obtain ⟨o, u, g1, g2, g3, g4⟩ := ihq h (show nthA A2 f = some B from e)
      refine ⟨p.size + o, u, by simp only [fieldOf, g1], g2, fun k hm => ?_, ?_⟩
      · simp only [mentions]; split
        · rfl
        · exact g3 k hm
      · rintro _ ⟨c1, c2, rfl, r1, r2⟩
        obtain ⟨d1, d2, d3, rfl, hl, hr⟩ := g4 r2
        exact ⟨c1 ++ d1, d2, d3, by simp [List.append_assoc], by rw [List.length_append, hasTy_len h1 r1, hl], hr⟩
  | _ => intro A B f h e; cases A <;> simp only [hasTy] at h <;> (try cases h) <;> cases f <;> cases e

theorem ev_field (hC : CfgOk P gl C) (h : R gl V0 w0 C.nt x ρ a w) (hlt : d < C.nt) {S f : Nat} {X : Operand}
    (e : evOp C ρ ⟨some d, .field S X f, ty, ps, af, gd⟩ K = some z) : Sound P gl C V0 w0 w ρ a ⟨some d, .field S X f, ty, ps, af, gd⟩ K z := by
  simp only [evOp] at e
  split at e
  case h_2 => cases e
  rename_i t A hS hX
  split at e
  case h_2 => cases e
  rename_i hA
  split at e
  case h_2 => cases e
  rename_i B hB
  obtain ⟨h1, h2⟩ := opnd_rep hC h hX
  obtain ⟨o, u, g1, g2, g3, g4⟩ := nthA_rep (x := x) hA hB
  obtain ⟨fs, fd, k1, k2, k3, k4, k5⟩ := chk_field (hC.tab _ _ hS) g1
  have ⟨cs, hv, hcs⟩ : ∃ cs : List Value, a.eval X = .agg cs.toArray ∧ RepCs x A cs := by
    cases A <;> (try (cases hB; done))
    exact h1
  obtain ⟨c1, c2, c3, rfl, hl, hr⟩ := g4 hcs
  obtain ⟨b1, b2, b3, b4⟩ := hasTy_agg g2
  have len := hasTy_len g2 hr
  refine ⟨_, _, e, yields_val h rfl hlt ?_ (rep_cells b1 b2 b3 b4 hr len) (fun k hm => h2 k (g3 k hm))⟩
  simp only [execOp, Instr.field, hv, Sem.run_bind, run_underlying k1, Result.andThen_ok, k2, asAgg, Sem.run_pure]
  rw [part_field (ht := k4) (c1 := c1) (c2 := c2) (c3 := c3) (by simp) (by rw [k3, hl]) len]
  rfl

theorem ev_extract (hC : CfgOk P gl C) (h : R gl V0 w0 C.nt x ρ a w) (hlt : d < C.nt) {f : Nat} {X : Operand}
    (e : evOp C ρ ⟨some d, .extract X f, ty, ps, af, gd⟩ K = some z) : Sound P gl C V0 w0 w ρ a ⟨some d, .extract X f, ty, ps, af, gd⟩ K z := by
  simp only [evOp] at e
  split at e
  case h_2 => cases e
  rename_i A hX
  split at e
  case h_2 => cases e
  rename_i B hB
  obtain ⟨⟨vs, hv, hvs⟩, h2⟩ := opnd_rep hC h hX
  have key : ∀ {A B : AVal} {f : Nat} {vs : List Value}, nthA A f = some B → RepTup x A vs → (∃ v, vs[f]? = some v ∧ RepV1 x B v) ∧ (∀ k, mentions k B = true → mentions k A = true) := by
    intro A
    induction A with
    | pr p q ihp ihq =>
      intro B f vs e hv
      obtain ⟨v, r, rfl, h1, h3⟩ := hv
      cases f with
      | zero => cases e; exact ⟨⟨v, rfl, h1⟩, fun k hm => by simp only [mentions, hm]⟩
      | succ f =>
        obtain ⟨g1, g2⟩ := ihq (f := f) e h3
        refine ⟨by simpa using g1, fun k hm => ?_⟩
        simp only [mentions]; split
        · rfl
        · exact g2 k hm
    | _ => intro B f vs e; cases f <;> cases e
  obtain ⟨⟨v, g1, g2⟩, g3⟩ := key hB hvs
  have hB1 : RepV x B v := by cases B <;> first | exact g2 | exact g2.elim
  refine ⟨_, _, e, yields_val h rfl hlt (v := v) ?_ hB1 (fun k hm => h2 k (by simp only [mentions]; exact g3 k hm))⟩
  simp [execOp, Instr.extract, hv, g1]

/-! Slices and strings -/
theorem chk_str {T : Nat} (h : chk P .str (.inl T) = true) : P.underlying T = some .string := by
  simp only [chk, Bool.and_eq_true] at h
  obtain ⟨_, h⟩ := h
  split at h
  · rename_i hu; exact hu
  · cases h

theorem ev_index (hC : CfgOk P gl C) (h : R gl V0 w0 C.nt x ρ a w) (hlt : d < C.nt) {T : Nat} {X I : Operand}
    (e : evOp C ρ ⟨some d, .index T X I, ty, ps, af, gd⟩ K = some z) : Sound P gl C V0 w0 w ρ a ⟨some d, .index T X I, ty, ps, af, gd⟩ K z := by
  simp only [evOp] at e
  split at e
  case h_2 => cases e
  rename_i s k n hT hX hI
  cases hc : (decide (0 ≤ n) && decide (n < (s.size : Int))) with
  | false => rw [hc] at e; cases e
  | true =>
    rw [hc] at e; simp only [cond_true] at e
    simp only [Bool.and_eq_true, decide_eq_true_eq] at hc
    have hx := str_of (opnd_rep hC h hX).1
    have hi := int_of (opnd_rep hC h hI).1
    have hlt' : n.toNat < s.size := by omega
    have hb : s[n.toNat]? = some s[n.toNat] := getElem?_pos s n.toNat hlt'
    refine ⟨_, _, e, yields_val h rfl hlt ?_ (rep_int _ _) (men_none fun _ => rfl)⟩
    simp only [execOp, Instr.index, hx, hi, asIntOf, Sem.run_bind, Sem.run_pure, Result.andThen_ok, run_underlying (chk_str (hC.tab _ _ hT)), if_pos hc.1, hb]
    congr 5
    rw [List.getD_eq_getElem?_getD, List.getElem?_eq_getElem (by simpa using hlt')]
    rfl

theorem arr_rep {V : Vis} {t : Ty} : ∀ {n : Nat} {v : (arrTy t n).den} {es : List Value}, RepT V (arrTy t n) v es → RepArr (RepT V t) (arrL t n v) es
  | 0, _, _, h => h
  | _ + 1, _, _, h => by
    obtain ⟨c1, c2, e, h1, h2⟩ := h
    exact ⟨c1, c2, e, h1, arr_rep h2⟩

theorem arrL_len {t : Ty} : ∀ {n : Nat} {v : (arrTy t n).den}, (arrL t n v).length = n
  | 0, _ => rfl
  | n + 1, v => by show (arrL t n v.2).length + 1 = _; rw [arrL_len]

theorem ev_indexAddr (hC : CfgOk P gl C) (h : R gl V0 w0 C.nt x ρ a w) (hlt : d < C.nt) {S : Nat} {X I : Operand}
    (e : evOp C ρ ⟨some d, .indexAddr S X I, ty, ps, af, gd⟩ K = some z) : Sound P gl C V0 w0 w ρ a ⟨some d, .indexAddr S X I, ty, ps, af, gd⟩ K z := by
  simp only [evOp] at e
  split at e
  · rename_i u t xs g k n hS hX hI
    split at e
    case h_2 => cases e
    rename_i hu _
    subst hu
    split at e
    case h_2 => cases e
    rename_i hsz
    cases hc : (decide (0 ≤ n) && decide (n < (xs.length : Int))) with
    | false => rw [hc] at e; cases e
    | true =>
      rw [hc] at e; simp only [cond_true] at e
      simp only [Bool.and_eq_true, decide_eq_true_eq] at hc
      obtain ⟨ad, c, es, hx, h1, h2, h3, _⟩ := sl_of (opnd_rep hC h hX).1
      have hi := int_of (opnd_rep hC h hI).1
      obtain ⟨E, hE, hck⟩ := chk_sl (hC.tab _ _ hS)
      obtain ⟨c', r1, r2⟩ := RepArr.get (fun _ _ q => q.len) (zeroD t) h2 n.toNat (by omega)
      have hz : ¬ t.size = 0 := by have := Nat.le_of_ble_eq_true hsz; omega
      · obtain ⟨v0, hv0⟩ : ∃ v, c'[0]? = some v := by
          have := r1.len
          cases c' with
          | nil => simp at this; exact absurd this.symm hz
          | cons v _ => exact ⟨v, rfl⟩
        obtain ⟨bl, off, rfl, _⟩ := h3 _ _ (r2 0 v0 hv0)
        refine ⟨_, _, e, yields_val h rfl hlt (v := .pointer (some ⟨bl, off + n.toNat * t.size, none⟩)) ?_ ⟨bl, _, c', rfl, r1, ?_⟩ (men_none fun _ => rfl)⟩
        · have hb : 0 ≤ n ∧ n < ((xs.length : Nat) : Int) := hc
          simp only [execOp, Instr.indexAt, hx, hi, asIntOf, Sem.run_bind, Sem.run_pure, Result.andThen_ok, run_underlying hE, Sem.run_ite, if_pos hb, chk_size hck, Addr.add_lit]
        · intro j v e'
          obtain ⟨b, o, q1, q2⟩ := h3 _ _ (r2 j v e')
          simp only [Option.some.injEq, Addr.mk.injEq, and_true] at q1
          obtain ⟨rfl, rfl⟩ := q1
          exact ⟨_, _, rfl, by rw [← q2]; congr 1; omega⟩
  · rename_i u k m j n hS hX hI
    split at e
    case h_2 => cases e
    rename_i t xs hb
    split at e
    case h_2 => cases e
    rename_i hu _
    subst hu
    cases hc : (decide (0 ≤ n) && decide (n < (m : Int))) with
    | false => rw [hc] at e; cases e
    | true =>
      rw [hc] at e; simp only [cond_true] at e
      simp only [Bool.and_eq_true, decide_eq_true_eq] at hc
      obtain ⟨h1, h2⟩ := opnd_rep hC h hX
      obtain ⟨bl, sz, ad, hs, hp, hmc, had⟩ := h1
      simp only [List.cons.injEq, and_true] at hp
      have hz : sz.2 ≠ 0 := by omega
      rw [had hz] at hp
      have hi := int_of (opnd_rep hC h hI).1
      obtain ⟨E, hE, hck⟩ := chk_sl (hC.tab _ _ hS)
      obtain ⟨cs, E', _, _, hsz⟩ := h.good.at hb hs hz
      have hsz' := (hsz t xs rfl).1
      refine ⟨_, _, e, yields_val h rfl hlt (v := .pointer (some ⟨bl, n.toNat * t.size, none⟩)) ?_ ⟨bl, sz, hs, by rw [hsz', Nat.add_zero], hz⟩ (fun q hm => h2 q hm)⟩
      have hb' : 0 ≤ n ∧ n < ((m : Nat) : Int) := hc
      simp only [execOp, Instr.indexAt, hp, hi, asIntOf, Sem.run_bind, Sem.run_pure, Result.andThen_ok, run_underlying hE, Sem.run_ite, if_pos hb', chk_size hck, Addr.add_lit, Nat.zero_add]
  · rename_i u v kk k hS hX hI
    split at e
    case h_2 => cases e
    rename_i t n hA
    split at e
    case h_2 => cases e
    rename_i hu _
    subst hu
    cases hc : (decide (0 ≤ k) && decide (k < (n : Int))) with
    | false => rw [hc] at e; cases e
    | true =>
      rw [hc] at e; simp only [cond_true] at e
      simp only [Bool.and_eq_true, decide_eq_true_eq] at hc
      obtain ⟨bl, off, es, hx, h1, h3⟩ := pt_of (opnd_rep hC h hX).1
      have h2 := arr_rep h1
      have hi := int_of (opnd_rep hC h hI).1
      obtain ⟨E, hE, hck, hsz⟩ := hC.arrs _ _ _ hA
      obtain ⟨c', r1, r2⟩ := RepArr.get (fun _ _ q => q.len) (zeroD t) h2 k.toNat (by rw [arrL_len]; omega)
      refine ⟨_, _, e, yields_val h rfl hlt (v := .pointer (some ⟨bl, off + k.toNat * t.size, none⟩)) ?_ ⟨bl, _, c', rfl, r1, ?_⟩ (men_none fun _ => rfl)⟩
      · have hb : 0 ≤ k ∧ k < ((n : Nat) : Int) := hc
        simp only [execOp, Instr.indexAt, hx, hi, asIntOf, Sem.run_bind, Sem.run_pure, Result.andThen_ok, run_underlying hE, Instr.sureAddr, Sem.run_ite, if_pos hb, chk_size hck, Addr.add_lit]
      · intro j v e'
        obtain ⟨b, o, q1, q2⟩ := h3 _ _ (r2 j v e')
        simp only [Option.some.injEq, Addr.mk.injEq, and_true] at q1
        obtain ⟨rfl, rfl⟩ := q1
        exact ⟨_, _, rfl, by rw [← q2]; congr 1; omega⟩
  · cases e

/-! Cuts -/
theorem opt_int (hC : CfgOk P gl C) (h : R gl V0 w0 C.nt x ρ a w) {n m : Int} {k : IntKind} : ∀ {o : Option Operand}, opt C ρ n o = some (.i k m) → (o = none ∧ m = n) ∨ ∃ X, o = some X ∧ a.eval X = .int k m
  | none, e => by simp only [opt, Option.some.injEq, AVal.i.injEq] at e; exact .inl ⟨rfl, e.2.symm⟩
  | some X, e => .inr ⟨X, rfl, int_of (opnd_rep hC h e).1⟩

theorem run_bounds {isSlice : Bool} {len cap : Nat} {lo hi : Option Value} {l h : Int} {k1 k2 : IntKind} (hl : (lo = none ∧ l = 0) ∨ lo = some (.int k1 l)) (hh : (hi = none ∧ h = (len : Int)) ∨ hi = some (.int k2 h))
    (h0 : 0 ≤ l) (h1 : l ≤ h) (h2 : h ≤ (len : Int)) (h3 : len ≤ cap) : (Instr.sliceBounds isSlice len cap lo hi none).run P w = .ok (l.toNat, h.toNat, cap) w := by
  have e1 : (0 ≤ h ∧ h ≤ (cap : Int)) := ⟨by omega, by omega⟩
  have e2 : (0 ≤ l ∧ l ≤ ((h.toNat : Nat) : Int)) := ⟨by omega, by omega⟩
  unfold Instr.sliceBounds
  rcases hh with ⟨rfl, rfl⟩ | rfl
  · rcases hl with ⟨rfl, rfl⟩ | rfl
    · simp
    · have e2' : (0 ≤ l ∧ l ≤ (len : Int)) := ⟨h0, h1⟩
      simp only [Sem.run_bind, Sem.run_pure, Result.andThen_ok, Instr.sliceBound, asIntOf, Sem.run_ite, if_pos e2', Int.toNat_natCast]
  · rcases hl with ⟨rfl, rfl⟩ | rfl
    · simp only [Sem.run_bind, Sem.run_pure, Result.andThen_ok, Instr.sliceBound, asIntOf, Sem.run_ite, if_pos e1, Int.toNat_zero]
    · simp only [Sem.run_bind, Sem.run_pure, Result.andThen_ok, Instr.sliceBound, asIntOf, Sem.run_ite, if_pos e1, if_pos e2]

theorem run_bounds3 {len cap : Nat} {lo : Option Value} {l h : Int} {k1 k2 k3 : IntKind} (hl : (lo = none ∧ l = 0) ∨ lo = some (.int k1 l))
    (h0 : 0 ≤ l) (h1 : l ≤ h) (h2 : h ≤ (len : Int)) (h3 : len ≤ cap) : (Instr.sliceBounds true len cap lo (some (.int k2 h)) (some (.int k3 h))).run P w = .ok (l.toNat, h.toNat, h.toNat) w := by
  have e1 : (0 ≤ h ∧ h ≤ (cap : Int)) := ⟨by omega, by omega⟩
  have e3 : (0 ≤ h ∧ h ≤ ((h.toNat : Nat) : Int)) := ⟨by omega, by omega⟩
  have e2 : (0 ≤ l ∧ l ≤ ((h.toNat : Nat) : Int)) := ⟨by omega, by omega⟩
  unfold Instr.sliceBounds
  rcases hl with ⟨rfl, rfl⟩ | rfl
  · simp only [Sem.run_bind, Sem.run_pure, Result.andThen_ok, Instr.sliceBound, asIntOf, Sem.run_ite, if_pos e1, if_pos e3, Int.toNat_zero]
  · simp only [Sem.run_bind, Sem.run_pure, Result.andThen_ok, Instr.sliceBound, asIntOf, Sem.run_ite, if_pos e1, if_pos e2, if_pos e3]

theorem sub_length {β : Type} (xs : List β) {l h : Int} (h0 : 0 ≤ l) (h1 : l ≤ h) (h2 : h ≤ (xs.length : Int)) : (sub xs l h).length = h.toNat - l.toNat := by
  simp only [sub, List.length_drop, List.length_take]; omega

theorem sub_rep {t : Ty} {xs : List t.den} {es : List Value} {ad : Option Addr} {V : Vis} {l h : Int} (h0 : 0 ≤ l) (h1 : l ≤ h) (h2 : h ≤ (xs.length : Int)) (hr : RepArr (RepT V t) xs es) (hrd : Reads V ad es) {m : Nat} (hm : h.toNat ≤ m) :
    ∃ es', RepArr (RepT V t) (sub xs l h) es' ∧ Reads V (if m = l.toNat then ad else ad.map (·.add (l.toNat * t.size))) es' := by
  refine ⟨_, RepArr.drop (fun _ _ q => q.len) l.toNat (RepArr.take (fun _ _ q => q.len) h.toNat hr), ?_⟩
  split
  · rename_i e
    have : h.toNat = l.toNat := by omega
    intro j v ev
    rw [this, List.getElem?_drop, List.getElem?_take, if_neg (by omega)] at ev
    cases ev
  · intro j v ev
    have h4 := hrd.take (n := h.toNat * t.size)
    rw [List.getElem?_drop] at ev
    obtain ⟨b, o, q1, q2⟩ := h4 _ _ ev
    subst q1
    exact ⟨b, o + l.toNat * t.size, by simp only [Option.map_some, Addr.add_lit], by rw [← q2]; congr 1; omega⟩

theorem opt_val (hC : CfgOk P gl C) (h : R gl V0 w0 C.nt x ρ a w) {n m : Int} {k : IntKind} {o : Option Operand} (e : opt C ρ n o = some (.i k m)) :
    (o.map a.eval = none ∧ m = n) ∨ o.map a.eval = some (.int k m) := by
  rcases opt_int hC h e with ⟨rfl, rfl⟩ | ⟨X, rfl, hX⟩
  · exact .inl ⟨rfl, rfl⟩
  · exact .inr (by rw [Option.map_some, hX])

theorem ev_slice (hC : CfgOk P gl C) (h : R gl V0 w0 C.nt x ρ a w) (hlt : d < C.nt) {T : Nat} {X : Operand} {lo hi mx : Option Operand}
    (e : evOp C ρ ⟨some d, .slice T X lo hi mx, ty, ps, af, gd⟩ K = some z) : Sound P gl C V0 w0 w ρ a ⟨some d, .slice T X lo hi mx, ty, ps, af, gd⟩ K z := by
  simp only [evOp] at e
  split at e
  · rename_i u t xs g hT hX
    split at e
    case h_2 => cases e
    rename_i _ _ _ hu k1 l k2 hh _ hlo hhi
    subst hu
    cases hc : (decide (0 ≤ l) && (decide (l ≤ hh) && decide (hh ≤ (xs.length : Int)))) with
    | false => rw [hc] at e; cases e
    | true =>
      rw [hc] at e; simp only [cond_true] at e
      simp only [Bool.and_eq_true, decide_eq_true_eq] at hc
      obtain ⟨c1, c2, c3⟩ := hc
      obtain ⟨E, hE, hck⟩ := chk_sl (hC.tab _ _ hT)
      obtain ⟨ad, c, es, hv, g1, g2, g3, _⟩ := sl_of (opnd_rep hC h hX).1
      have l1 := opt_val hC h hlo
      have l2 := opt_val hC h hhi
      have hlen := sub_length xs c1 c2 c3
      cases mx with
      | none =>
        simp only at e
        obtain ⟨es', r1, r2⟩ := sub_rep (m := c) c1 c2 c3 g2 g3 (by omega)
        refine ⟨_, _, e, yields_val h rfl hlt (v := .slice (if c = l.toNat then ad else ad.map (·.add (l.toNat * t.size))) (hh.toNat - l.toNat) (c - l.toNat)) ?_ ?_ (men_none fun _ => rfl)⟩
        · simp only [execOp, Instr.sliceAt, Instr.slice, hv, Sem.run_bind, run_underlying hE, Result.andThen_ok, Option.map_none, run_bounds (P := P) (w := w) l1 l2 c1 c2 c3 g1, chk_size hck, Sem.run_pure]
        · rw [← hlen]
          exact rep_sl (by rw [hlen]; omega) r1 r2 trivial
      | some m =>
        simp only at e
        split at e
        case h_2 => cases e
        rename_i _ _ hi' k3 q hm
        cases hq : q == hh with
        | false => rw [hq] at e; cases e
        | true =>
          rw [hq] at e; simp only [cond_true] at e
          have hq' : q = hh := by simpa using hq
          subst hq'
          have hmv := int_of (opnd_rep hC h hm).1
          have hhv : a.eval hi' = .int k2 q := by
            rcases l2 with ⟨h1, _⟩ | h1
            · simp at h1
            · simpa using h1
          obtain ⟨es', r1, r2⟩ := sub_rep (m := q.toNat) c1 c2 c3 g2 g3 (Nat.le_refl _)
          refine ⟨_, _, e, yields_val h rfl hlt (v := .slice (if q.toNat = l.toNat then ad else ad.map (·.add (l.toNat * t.size))) (q.toNat - l.toNat) (q.toNat - l.toNat)) ?_ ?_ (men_none fun _ => rfl)⟩
          · have hb3 := run_bounds3 (P := P) (w := w) (len := xs.length) (k2 := k2) (k3 := k3) l1 c1 c2 c3 g1
            simp only [execOp, Instr.sliceAt, Instr.slice, hv, Sem.run_bind, run_underlying hE, Result.andThen_ok, Option.map_some, hmv, hhv, chk_size hck, Sem.run_pure]
            rw [hb3]; rfl
          · rw [← hlen]
            exact rep_sl (Nat.le_refl _) r1 r2 ⟨_, _, rfl⟩
  · rename_i s hT hX
    split at e
    case h_2 => cases e
    rename_i _ _ _ k1 l k2 hh hlo hhi
    cases hc : (decide (0 ≤ l) && (decide (l ≤ hh) && decide (hh ≤ (s.size : Int)))) with
    | false => rw [hc] at e; cases e
    | true =>
      rw [hc] at e; simp only [cond_true] at e
      simp only [Bool.and_eq_true, decide_eq_true_eq] at hc
      obtain ⟨c1, c2, c3⟩ := hc
      have hv := str_of (opnd_rep hC h hX).1
      have l1 := opt_val hC h hlo
      have l2 := opt_val hC h hhi
      refine ⟨_, _, e, yields_val h rfl hlt (v := .string (s.extract l.toNat hh.toNat)) ?_ (rep_str _) (men_none fun _ => rfl)⟩
      simp only [execOp, Instr.sliceAt, Instr.slice, hv, Sem.run_bind, run_underlying (chk_str (hC.tab _ _ hT)), Result.andThen_ok, Option.map_none, Option.isSome_none, Bool.false_eq_true, if_false,
        run_bounds (P := P) (w := w) l1 l2 c1 c2 c3 (Nat.le_refl _), Sem.run_pure]
  · rename_i u v hT hX
    split at e
    case h_2 => cases e
    rename_i t n hA
    split at e
    case h_2 => cases e
    rename_i hu _
    subst hu
    obtain ⟨bl, off, es, hx, h1, h3⟩ := pt_of (opnd_rep hC h hX).1
    have h2 := arr_rep h1
    obtain ⟨E, hE, hck, hsz⟩ := hC.arrs _ _ _ hA
    have hel : P.underlying T = some (.array (P.arrayLen T) (P.elem T)) := by simp [Program.arrayLen, Program.elem, hE]
    have hal : P.arrayLen T = n := by simp [Program.arrayLen, hE]
    have hee : P.elem T = E := by simp [Program.elem, hE]
    refine ⟨_, _, e, yields_val h rfl hlt (v := .slice (some ⟨bl, off, none⟩) n n) ?_ ?_ (men_none fun _ => rfl)⟩
    · simp only [execOp, hx, Option.map_none, Sem.run_bind]
      rw [run_sliceAt_array_all w T ⟨bl, off, none⟩ hel, hal, hee, chk_size hck]
      simp [Result.andThen, slicedAt, Addr.add_lit]
    · have := rep_sl (x := x) (t := t) (xs := arrL t n v) (g := .no) (ad := some ⟨bl, off, none⟩) (c := n) (by rw [arrL_len]; exact Nat.le_refl _) h2 h3 trivial
      rw [arrL_len] at this
      exact this
  · cases e
end
end Go.Abs
