/- The abstract machine, part 17: code, and whole functions. Own text of this session. -/
import Derived.Test.YtkkkjcpfahhhpaaDoorAbs16
import Derived.LoopN
set_option linter.unusedVariables false
set_option linter.unusedSimpArgs false
namespace Go.Abs
open Go Go.RowKit

section
variable {P : Program} {gl : List (Nat × AVal)} {C : Cfg} {V0 V : Vis} {w0 : Base} {w : World} {x : Ctx} {ρ : St} {a : Act} {nt : Nat}
variable {α : Type} {z : α}

def exOf : Ex → Exit
  | .normal => .normal
  | .exit id => .exit id
  | .ret => .ret

def Behind (gl : List (Nat × AVal)) (C : Cfg) (V0 : Vis) (w0 : Base) {α : Type} (K : Ex → St → Option α) (z : α) (Q : Exit → Act → World → Prop) : Prop :=
  ∀ e ρ' x' a' w', K e ρ' = some z → R gl V0 w0 C.nt x' ρ' a' w' → Q (exOf e) a' w'

theorem loopN_sound {H : Head} {step : St → (Ex → St → Option α) → Option α} {b : Code} {Q : Exit → Act → World → Prop} {K : Ex → St → Option α}
    (hs : ∀ {ρ : St} {x : Ctx} {a : Act} {w : World} {Q' : Exit → Act → World → Prop} {K' : Ex → St → Option α}, step ρ K' = some z → R gl V0 w0 C.nt x ρ a w → Behind gl C V0 w0 K' z Q' → b.wp P Q' a w)
    (hK : Behind gl C V0 w0 K z Q) : ∀ {n : Nat} {v : HS.den H.hd} {x : Ctx} {a : Act} {w : World}, loopN H step K n v = some z → R gl V0 w0 C.nt x (encH H.hd v) a w → Code.rounds P b Q n a w
  | 0, v, x, a, w, e, h => by cases e
  | n + 1, v, x, a, w, e, h => by
    rw [rounds_succ]
    refine hs e h ?_
    intro ex ρ' x' a' w' e' h'
    cases ex with
    | normal =>
      simp only [loopK] at e'
      split at e'
      case h_2 => cases e'
      rename_i v' hv
      obtain ⟨x2, h2⟩ := h'.adapt hv
      exact loopN_sound hs hK e' h2
    | exit id =>
      simp only [loopK] at e'
      split at e'
      case h_2 => cases e'
      split at e'
      case h_2 => cases e'
      rename_i v' hv
      obtain ⟨x2, h2⟩ := h'.adapt hv
      exact hK _ _ _ _ _ e' h2
    | ret =>
      simp only [loopK] at e'
      split at e'
      case h_2 => cases e'
      split at e'
      case h_2 => cases e'
      rename_i v' hv
      obtain ⟨x2, h2⟩ := h'.adapt hv
      exact hK _ _ _ _ _ e' h2

theorem ev_sound (hm : P.follows .mixedOrders = true) (hC : CfgOk P gl C) {L : Loops α} : ∀ (c : Code) {ρ : St} {x : Ctx} {a : Act} {w : World} {Q : Exit → Act → World → Prop} {K : Ex → St → Option α},
    allLoops (LoopOk C L) c → ev C L c ρ K = some z → R gl V0 w0 C.nt x ρ a w → Behind gl C V0 w0 K z Q → c.wp P Q a w := by
  intro c
  induction c with
  | skip => intro ρ x a w Q K hL e h hK; exact wp_skip (hK _ _ _ _ _ e h)
  | region id ops d =>
    intro ρ x a w Q K hL e h hK
    simp only [ev] at e
    split at e
    case h_2 => cases e
    rename_i ρ1 hf
    have h1 := h.focus hf
    cases d with
    | false =>
      refine wp_region_list ?_
      have := evOps_sound (ops := ops.toList) (Q := Q) hC e h1 (fun ρ' F' x' a' w' e' h' => hK .normal _ _ _ _ e' h')
      simpa using this
    | true => exact region_draw hm hC e h1 (fun ρ' x' a' w' e' h' => hK .normal _ _ _ _ e' h')
  | seq p q ihp ihq =>
    intro ρ x a w Q K hL e h hK
    refine wp_seq (ihp hL.1 e h ?_)
    intro ex ρ' x' a' w' e' h'
    cases ex with
    | normal => exact ihq hL.2 e' h' hK
    | exit id => exact hK _ _ _ _ _ e' h'
    | ret => exact hK _ _ _ _ _ e' h'
  | cond t p q ihp ihq =>
    intro ρ x a w Q K hL e h hK
    cases t with
    | tmp t =>
      simp only [ev] at e
      split at e
      case h_2 => cases e
      rename_i b hb
      have hv := bool_of (h.slots t _ hb)
      cases b with
      | true => exact wp_cond (t := true) hv (ihp hL.1 (by simpa using e) h hK)
      | false => exact wp_cond (t := false) hv (ihq hL.2 (by simpa using e) h hK)
    | _ => cases e
  | block id b ih =>
    intro ρ x a w Q K hL e h hK
    refine wp_block (ih hL e h ?_)
    intro ex ρ' x' a' w' e' h'
    cases ex with
    | normal => exact hK .normal _ _ _ _ e' h'
    | exit j =>
      simp only at e'
      show (if j = id then Q .normal a' w' else Q (.exit j) a' w')
      split at e'
      · rename_i hj; rw [beq_true] at hj; rw [if_pos hj]; exact hK .normal _ _ _ _ e' h'
      · rename_i hj; rw [beq_false] at hj; rw [if_neg hj]; exact hK (.exit j) _ _ _ _ e' h'
    | ret => exact hK .ret _ _ _ _ e' h'
  | loop b ih =>
    intro ρ x a w Q K hL e h hK
    obtain ⟨hb, hL'⟩ := hL
    simp only [ev] at e
    split at e
    case h_2 => cases e
    rename_i H hH
    split at e
    case h_2 => cases e
    rename_i v hv
    unfold LoopOk at hb
    rw [hH] at hb
    obtain ⟨n, hn⟩ := hb v K z e
    obtain ⟨x2, h2⟩ := h.adapt hv
    exact wp_loop_rounds n (loopN_sound (fun {ρ x a w Q' K'} e h hK => ih hL' e h hK) hK hn h2)
  | exit id => intro ρ x a w Q K hL e h hK; exact wp_exit (hK (.exit id) _ _ _ _ e h)
  | ret => intro ρ x a w Q K hL e h hK; exact wp_ret (hK .ret _ _ _ _ e h)
  | _ => intro ρ x a w Q K hL e; cases e

/-! ### Functions -/
theorem params_get {t : Ty} : ∀ {d : t.den} {n : Nat} {vs : List Value}, RepTup (bare V) (enc t d) vs → ∀ j A, get (params t d n) (tr (n + j)) = some A → ∃ v, vs[j]? = some v ∧ RepV1 (bare V) A v ∧ ∀ k, mentions k A = false := by
  induction t with
  | pr p q ihp ihq =>
    intro d n vs h j A e
    obtain ⟨v, r, rfl, h1, h2⟩ := h
    simp only [params, get] at e
    split at e
    · rename_i hb
      rw [beq_true] at hb
      have : j = 0 := by simp only [tr] at hb; omega
      subst this; cases e
      exact ⟨v, rfl, h1, fun k => enc_men k p d.1⟩
    · rename_i hb
      rw [beq_false] at hb
      cases j with
      | zero => exact absurd rfl hb
      | succ j =>
        have e' : get (params q d.2 (n + 1)) (tr (n + 1 + j)) = some A := by rw [← e]; congr 2; omega
        obtain ⟨v', g1, g2, g3⟩ := ihq h2 j A e'
        exact ⟨v', by simpa using g1, g2, g3⟩
  | _ => intro d n vs h j A e; simp only [params] at e; cases e

theorem params_lo {t : Ty} : ∀ {d : t.den} {n r : Nat} {A : AVal}, get (params t d n) r = some A → ∃ j, r = tr (n + j) := by
  induction t with
  | pr p q ihp ihq =>
    intro d n r A e
    simp only [params, get] at e
    split at e
    · rename_i hb; rw [beq_true] at hb; exact ⟨0, hb.symm⟩
    · obtain ⟨j, hj⟩ := ihq e
      exact ⟨j + 1, by rw [hj]; congr 1; omega⟩
  | _ => intro d n r A e; simp only [params] at e; cases e

theorem repV_of1 {A : AVal} {v : Value} (h : RepV1 x A v) : RepV x A v := by cases A <;> first | exact h | exact h.elim

theorem R.start {t : Ty} {d : t.den} {vs : List Value} (hv : VisOk V w) (hg : GlobOk gl V) (h : RepTup (bare V) (enc t d) vs) (hn : vs.length ≤ nt) :
    R gl V (Base.at w) nt (bare V) (params t d 0) { tmps := vs.toArray ++ Array.replicate (nt - vs.toArray.size) undef, defers := [] } w := by
  have hb : ∀ k, get (params t d 0) (br k) = none := fun k => by
    cases e : get (params t d 0) (br k) with
    | none => rfl
    | some A => obtain ⟨j, hj⟩ := params_lo e; exact absurd hj.symm tr_br
  have hp : ∀ r A, get (params t d 0) r = some A → ∀ k, mentions k A = false := fun r A e => by
    obtain ⟨j, rfl⟩ := params_lo e
    obtain ⟨_, _, _, h3⟩ := params_get h j A e
    exact h3
  refine ⟨⟨hv, VLe.refl _, fun _ _ _ _ => rfl, (fun k A e => by rw [hb] at e; cases e), (fun k bl sz e => by simp [bare] at e), (fun k k' bl s s' e => by simp [bare] at e), (fun g v s e => by simp [bare] at e), (fun g g' bl n c s n' c' s' e => by simp [bare] at e),
    Base.But.refl _, (fun r A k e m => by rw [hp r A e k] at m; cases m), hg, (fun k p e => by cases e)⟩, fun j A e => ?_, rfl, ?_, (fun k p e => by cases e)⟩
  · obtain ⟨v, h1, h2, _⟩ := params_get h j A (by rw [Nat.zero_add]; exact e)
    have : (vs.toArray ++ Array.replicate (nt - vs.toArray.size) undef).getD j undef = v := by
      rw [Array.getD_eq_getD_getElem?, Array.getElem?_append_left (by simpa using (List.getElem?_eq_some_iff.1 h1).1)]
      simp [h1]
    rw [this]; exact repV_of1 h2
  · simp; omega

/-- At the end all that is new may be seen. -/
def reveal (V : Vis) (w0 : Base) (w : World) : Vis := fun b o => match V b o with
  | some v => some v
  | none => if w0.w.heap.size ≤ b then w.cell? ⟨b, o, none⟩ else none

theorem reveal_le (V : Vis) (w0 : Base) (w : World) : VLe V (reveal V w0 w) := fun b o v e => by simp [reveal, e]
theorem reveal_ok {V : Vis} (h : VisOk V w) : VisOk (reveal V w0 w) w := fun b o v e => by
  unfold reveal at e
  split at e
  · rename_i u hu; cases e; exact h _ _ _ hu
  · split at e
    · exact e
    · cases e
theorem reveal_old {V : Vis} {b o : Nat} (hb : b < w0.w.heap.size) : reveal V w0 w b o = V b o := by
  unfold reveal
  cases h : V b o with
  | some v => rfl
  | none => show (if _ then _ else _) = _; rw [if_neg (by omega)]
theorem reveal_new {V : Vis} (h : VisOk V w) {b o : Nat} {v : Value} (hb : w0.w.heap.size ≤ b) (e : w.cell? ⟨b, o, none⟩ = some v) : reveal V w0 w b o = some v := by
  unfold reveal
  cases h' : V b o with
  | some u => have := h _ _ _ h'; rw [e] at this; exact this.symm
  | none => show (if _ then _ else _) = _; rw [if_pos hb]; exact e

theorem decK_cs (hD : ∀ b, w0.own b → w0.w.heap.size ≤ b) (h : R gl V0 w0 nt x ρ a w) : ∀ {t : Ty} {A : AVal} {cs : List Value} {Kd : t.den → Option α}, decK ρ t A Kd = some z → RepCs x A cs → ∃ u, Kd u = some z ∧ RepT (reveal x.V w0 w) t u cs := by
  intro t
  have plain : ∀ {t : Ty} {A : AVal} {cs : List Value} {Kd : t.den → Option α}, decP t A Kd = some z → RepCs x A cs → ∃ u, Kd u = some z ∧ RepT (reveal x.V w0 w) t u cs := by
    intro t A cs Kd e hr
    unfold decP at e
    split at e
    · rename_i u hu; exact ⟨u, e, (repT_dec (x := x) hu hr).mono (reveal_le _ _ _)⟩
    · cases e
  induction t with
  | pr p q ihp ihq =>
    intro A cs Kd e hr
    simp only [decK] at e
    split at e
    case h_2 => cases e
    obtain ⟨c1, c2, e1, r1, r2⟩ := hr
    obtain ⟨u, e2, h1⟩ := ihp e r1
    obtain ⟨v, e3, h2⟩ := ihq e2 r2
    exact ⟨(u, v), e3, c1, c2, e1, h1, h2⟩
  | sl t ih =>
    intro A cs Kd e hr
    simp only [decK] at e
    split at e
    · rename_i k n
      split at e
      case h_2 => cases e
      rename_i u xs hb
      split at e
      case h_2 => cases e
      rename_i hu _
      subst hu
      cases hn : decide (n = List.length xs) with
      | false => rw [hn] at e; cases e
      | true =>
        rw [hn] at e
        have hn' : n = List.length xs := by simpa using hn
        subst hn'
        refine ⟨xs, e, ?_⟩
        obtain ⟨bl, sz, ad, hs, hcs, hle, had⟩ := hr
        by_cases h0 : sz.2 = 0
        · have hx : xs = [] := List.eq_nil_of_length_eq_zero (by omega)
          subst hx
          exact ⟨ad, sz.2, [], by simpa using hcs, hle, rfl, fun j v hj => by simp at hj⟩
        · obtain ⟨cur, E, h1, ⟨c1, c2, h2, h3, _⟩, _⟩ := h.good.at hb hs h0
          obtain ⟨s1, _, _⟩ := h.good.sgs k bl sz hs h0
          rw [had h0] at hcs
          refine ⟨_, sz.2, c1, hcs, hle, h3.imp fun _ _ q => q.mono (reveal_le _ _ _), fun j v hj => ⟨bl, 0, rfl, ?_⟩⟩
          refine reveal_new h.good.vis (hD _ s1) ?_
          rw [cell_of_row w bl _ cur E (0, 0) h1, ← Array.getElem?_toList, h2, Nat.zero_add]
          exact getElem?_append_some hj
    · exact plain e hr
  | int k => intro A cs Kd e hr; exact plain e hr
  | bool => intro A cs Kd e hr; exact plain e hr
  | str => intro A cs Kd e hr; exact plain e hr
  | un => intro A cs Kd e hr; exact plain e hr
  | o1 => intro A cs Kd e hr; exact plain e hr

theorem decK_v (hD : ∀ b, w0.own b → w0.w.heap.size ≤ b) (h : R gl V0 w0 nt x ρ a w) {t : Ty} {A : AVal} {v : Value} {Kd : t.den → Option α} (e : decK ρ t A Kd = some z) (hr : RepV x A v) : ∃ u, Kd u = some z ∧ RepV1 (bare (reveal x.V w0 w)) (enc t u) v := by
  have plain : ∀ {t : Ty} {A : AVal} {Kd : t.den → Option α}, decP t A Kd = some z → RepV x A v → ∃ u, Kd u = some z ∧ RepV1 (bare (reveal x.V w0 w)) (enc t u) v := by
    intro t A Kd e hr
    unfold decP at e
    split at e
    · rename_i u hu
      refine ⟨u, e, ?_⟩
      have h1 := repV1_dec hu hr
      exact RepV1.mono (x := bare x.V) ⟨reveal_le _ _ _, (fun _ _ q => by cases q), (fun _ _ q => by cases q)⟩ h1
    · cases e
  cases t with
  | pr p q =>
    cases A <;> (try (simp only [decK] at e; cases e; done))
    obtain ⟨cs, e1, r⟩ := hr
    obtain ⟨u, e2, h1⟩ := decK_cs hD h e r
    exact ⟨u, e2, cs, e1, repCs_enc (x := bare (reveal x.V w0 w)) h1⟩
  | sl t =>
    cases A
    case os k n =>
      obtain ⟨u, e2, h1⟩ := decK_cs (A := .os k n) (cs := [v]) hD h e hr
      exact ⟨u, e2, repCs_enc (x := bare (reveal x.V w0 w)) (t := .sl t) h1⟩
    all_goals exact plain (t := .sl t) (by simpa only [decK] using e) hr
  | int k => exact plain e hr
  | bool => exact plain e hr
  | str => exact plain e hr
  | un => exact plain e hr
  | o1 => exact plain e hr

/-- What the results hold. -/
theorem outs_rep (hD : ∀ b, w0.own b → w0.w.heap.size ≤ b) (hC : CfgOk P gl C) (h : R gl V0 w0 nt x ρ a w) : ∀ {t : Ty} {l : List ResultVar} {Ko : t.den → Option α}, outs C ρ t l Ko = some z →
    ∃ y, Ko y = some z ∧ ∃ vs : List Value, (l.mapM (fun r => match r with | .tmp t => pure (a.tmps.getD t undef) | .cell p T => do loadVar T (← asAddr (a.tmps.getD p undef))) : Sem (List Value)).run P w = .ok vs w ∧ RepTup (bare (reveal x.V w0 w)) (enc t y) vs
  | .un, [], Ko, e => ⟨(), e, [], rfl, rfl⟩
  | .pr p q, .tmp t :: l, Ko, e => by
    simp only [outs] at e
    split at e
    case h_2 => cases e
    rename_i v hv
    obtain ⟨u, e2, h1⟩ := decK_v hD h e (h.slots t v hv)
    obtain ⟨y, e3, vs, h2, h3⟩ := outs_rep hD hC h e2
    refine ⟨(u, y), e3, a.tmps.getD t undef :: vs, ?_, _, _, rfl, h1, h3⟩
    simp only [List.mapM_cons, Sem.run_bind, Sem.run_pure, Result.andThen_ok, h2]
  | .pr p q, .cell s T :: l, Ko, e => by
    simp only [outs] at e
    split at e
    case h_2 => cases e
    rename_i t k hT hk
    split at e
    case h_2 => cases e
    rename_i htp c _ hc
    subst htp
    split at e
    case h_2 => cases e
    rename_i v hv
    obtain ⟨bl, sz, hs, hp, hz⟩ := bx_of (h.slots s _ hk)
    obtain ⟨cs, E, hb, hcs, _⟩ := h.good.at hc hs hz
    obtain ⟨q1, q2, hq, hl, r1, r2, g1, g2, g3, g4⟩ := unflat_rep hv hcs
    have hcell := block_cells (off := 0) (p := []) (q := q1) (r := q2) hb (by simpa using hq) rfl
    have hld := run_loadVar (P := P) (w := w) (hC.tab _ _ hT) hl hcell
    simp only [Instr.loadAt, Instr.sureAddr, Sem.run_bind, Sem.run_pure, Result.andThen_ok] at hld
    obtain ⟨u0, hld', hrep⟩ : ∃ u0, (loadVar T ⟨bl, 0, none⟩).run P w = .ok u0 w ∧ RepV x v u0 := ⟨_, hld, rep_cells g1 g2 g3 g4 r1 hl⟩
    obtain ⟨u, e2, h1⟩ := decK_v hD h e hrep
    obtain ⟨y, e3, vs, h2, h3⟩ := outs_rep hD hC h e2
    refine ⟨(u, y), e3, u0 :: vs, ?_, _, _, rfl, h1, h3⟩
    simp only [List.mapM_cons, Sem.run_bind, hp, asAddr, Sem.run_pure, Result.andThen_ok, hld']
    exact (congrArg (fun q => q.andThen fun a_1 w' => Result.ok (u0 :: a_1) w') h2)
  | .un, _ :: _, _, e => by cases e
  | .pr _ _, [], _, e => by cases e
  | .int _, l, _, e => by cases l <;> cases e
  | .bool, l, _, e => by cases l <;> cases e
  | .str, l, _, e => by cases l <;> cases e
  | .sl _, l, _, e => by cases l <;> cases e
  | .o1, l, _, e => by cases l <;> cases e

theorem rs_len {tm : Array Value} : ∀ (l : List ResultVar) {vs : List Value} {w' : World}, (l.mapM (fun r => match r with | .tmp t => pure (tm.getD t undef) | .cell p T => do loadVar T (← asAddr (tm.getD p undef))) : Sem (List Value)).run P w = .ok vs w' → vs.length = l.length := by
  intro l
  induction l generalizing w with
  | nil => intro vs w' h; cases h; rfl
  | cons r l ih =>
    intro vs w' h
    simp only [List.mapM_cons, Sem.run_bind] at h
    cases h1 : Sem.run P (match r with | .tmp t => pure (tm.getD t undef) | .cell p T => do loadVar T (← asAddr (tm.getD p undef))) w with
    | halt q wq => rw [h1] at h; cases h
    | ok v wv =>
      rw [h1] at h
      simp only [Result.andThen_ok] at h
      cases h2 : Sem.run P (l.mapM (fun r => match r with | .tmp t => pure (tm.getD t undef) | .cell p T => do loadVar T (← asAddr (tm.getD p undef)))) wv with
      | halt q wq => rw [h2] at h; cases h
      | ok vs' wv' =>
        rw [h2] at h
        simp only [Result.andThen_ok, Sem.run_pure] at h
        cases h
        simp [ih h2]

/-- How many results there are. -/
def isOne : Ty → Bool
  | .pr _ .un => true
  | _ => false
def multiOk (S : Spec) (n : Nat) : Bool := match S.multi with | true => !Nat.beq n 1 | false => isOne S.tr && Nat.beq n 1

theorem one_rep {t : Ty} {y : t.den} {rs : List Value} {n : Nat} (hmul : (isOne t && Nat.beq n 1) = true) (hl : rs.length = n) (h : RepTup (bare V) (enc t y) rs) :
    RepV (bare V) (resOne t y) (if h : rs.toArray.size = 1 then rs.toArray[0] else .tuple rs.toArray) := by
  simp only [Bool.and_eq_true] at hmul
  obtain ⟨hmul, _⟩ := hmul
  cases t <;> (try (cases hmul; done))
  rename_i p q
  cases q <;> (try (cases hmul; done))
  obtain ⟨v, r, rfl, h1, h2⟩ := h
  have : r = [] := h2
  subst this
  rw [dif_pos (by simp)]
  exact repV_of1 h1

theorem repV1_V {t : Ty} {d : t.den} {v : Value} (h : RepV1 (bare V) (enc t d) v) : RepV (bare V) (enc t d) v := repV_of1 h

theorem runF_sound {f : Nat} {fn : Func} {S : Spec} {ρ0 : St} {x0 : Ctx} {vs : List Value} {y : S.ta.den} (hm : P.follows .mixedOrders = true) (hC : CfgOk P gl C) (hf : P.funcs[f]? = some fn) (hnt : fn.ntmps = C.nt)
    (hmul : multiOk S fn.results.toList.length = true) {L : Loops S.tr.den} (hL : loopsOk C L fn) (hn : runF C S L fn ρ0 = some (S.val y))
    (h0 : R gl V (Base.at w) C.nt x0 ρ0 { tmps := vs.toArray ++ Array.replicate (C.nt - vs.toArray.size) undef, defers := [] } w) :
    Calls P f vs.toArray w fun e w' => ∃ v V', e = .returned v ∧ VisOk V' w' ∧ VLe V V' ∧ (∀ b o, b < w.heap.size → V' b o = V b o) ∧
      RepV (bare V') (resA S (S.val y)) v ∧ Below w.heap.size w w' := by
  unfold runF at hn
  unfold loopsOk at hL
  split at hn
  case h_2 => cases hn
  rename_i c hc
  rw [hc] at hL
  refine calls_of_wp hf hc ?_
  rw [hnt]
  refine ev_sound hm hC c hL hn h0 ?_
  intro ex ρ' x' a' w' e' h'
  have fin : outs C ρ' S.tr fn.results.toList some = some (S.val y) → a'.defers = [] ∧ ∃ v, (results fn a'.tmps).run P w' = .ok v w' ∧ ∃ v1 V', Ending.returned v = .returned v1 ∧ VisOk V' w' ∧ VLe V V' ∧ (∀ b o, b < w.heap.size → V' b o = V b o) ∧
      RepV (bare V') (resA S (S.val y)) v1 ∧ Below w.heap.size w w' := by
    intro ho
    obtain ⟨y', hy', rs, h1, h2⟩ := outs_rep (fun b hb => Base.own_at.1 hb) hC h' ho
    cases hy'
    have hres : (results fn a'.tmps).run P w' = .ok (if h : rs.toArray.size = 1 then rs.toArray[0] else .tuple rs.toArray) w' := by
      unfold results
      rw [Sem.run_bind, Array.mapM_eq_mapM_toList, Sem.run_map]
      exact congrArg (fun q : Result (List Value) => (q.andThen fun a w' => Result.ok a.toArray w').andThen fun a w' => Sem.run P (pure (if h : a.size = 1 then a[0] else Value.tuple a)) w') h1
    refine ⟨h'.defs, _, hres, _, reveal x'.V (Base.at w) w', rfl, reveal_ok h'.good.vis, h'.good.grow.trans (reveal_le _ _ _), fun b o hb => (reveal_old (w0 := Base.at w) hb).trans (h'.good.old b o hb (fun h => h)), ?_, h'.good.bel.to⟩
    have hlr : rs.length = fn.results.toList.length := by
      exact rs_len _ h1
    unfold multiOk at hmul
    unfold resA
    cases hmt : S.multi with
    | true =>
      rw [hmt] at hmul
      have : rs.toArray.size ≠ 1 := by
        simp only [Bool.not_eq_true', beq_false] at hmul
        simpa [hlr] using hmul
      rw [dif_neg this]
      exact ⟨rs, rfl, h2⟩
    | false =>
      rw [hmt] at hmul
      exact one_rep hmul hlr h2
  cases ex with
  | normal => exact fin e'
  | exit id => cases e'
  | ret => exact fin e'


/-- **A function keeps its contract** if the evaluator comes to what the contract says. -/
theorem run_sound {f : Nat} {fn : Func} {S : Spec} (hm : P.follows .mixedOrders = true) (hC : CfgOk P gl C) (hf : P.funcs[f]? = some fn) (hnt : fn.ntmps = C.nt) (hmul : multiOk S fn.results.toList.length = true)
    (hrun : ∀ y : S.ta.den, S.pre y = true → ∃ L, loopsOk C L fn ∧ run C S L fn y = some (S.val y)) (hlen : ∀ (V : Vis) (y : S.ta.den) (vs : List Value), RepTup (bare V) (enc S.ta y) vs → vs.length ≤ C.nt) : SpecOK P gl f S := by
  intro V w y vs hp hg hv hargs
  obtain ⟨L, hL, hn⟩ := hrun y hp
  exact runF_sound hm hC hf hnt hmul hL hn (R.start (nt := C.nt) hv hg hargs (hlen V y vs hargs))

/-- The same for a function that asks whether its first slice is nil. -/
theorem run_sound0 {f : Nat} {fn : Func} {u b tr : Ty} {mu : Bool} {pre : (Ty.pr (.sl u) b).den → Bool} {val : (Ty.pr (.sl u) b).den → tr.den} (hm : P.follows .mixedOrders = true) (hC : CfgOk P gl C) (hf : P.funcs[f]? = some fn) (hnt : fn.ntmps = C.nt)
    (hmul : multiOk ⟨.pr (.sl u) b, tr, mu, pre, val⟩ fn.results.toList.length = true) (hu : Nat.blt 0 u.size = true)
    (hrun : ∀ y : (Ty.pr (.sl u) b).den, pre y = true → (y.1 = [] → ∃ L, loopsOk C L fn ∧ run0 .nl C ⟨.pr (.sl u) b, tr, mu, pre, val⟩ L fn y = some (val y)) ∧ ∃ L, loopsOk C L fn ∧ run0 .nn C ⟨.pr (.sl u) b, tr, mu, pre, val⟩ L fn y = some (val y))
    (hlen : ∀ (V : Vis) (y : (Ty.pr (.sl u) b).den) (vs : List Value), RepTup (bare V) (enc (Ty.pr (.sl u) b) y) vs → vs.length ≤ C.nt) : SpecOK P gl f ⟨.pr (.sl u) b, tr, mu, pre, val⟩ := by
  intro V w y vs hp hg hv hargs
  have hlv := hlen V y vs hargs
  have h0 := R.start (nt := C.nt) hv hg hargs hlv
  obtain ⟨v0, r, rfl, h1, h2⟩ := hargs
  have h1' : RepCs (bare V) (.sl u y.1 .no) [v0] := h1
  obtain ⟨⟨ad, c, es, hv0, hle, harr, hrd⟩, _⟩ := h1'
  have hv0' : v0 = .slice ad y.1.length c := by simpa using hv0
  have hlt : 0 < C.nt := Nat.lt_of_lt_of_le (by simp) hlv
  have hget : ({ tmps := (v0 :: r).toArray ++ Array.replicate (C.nt - (v0 :: r).toArray.size) undef, defers := [] } : Act).tmps.getD 0 undef = v0 := by
    rw [Array.getD_eq_getD_getElem?, Array.getElem?_append_left (by simp)]
    simp
  have go : ∀ g, TagOk (bare V) u g v0 → R gl V (Base.at w) C.nt (bare V) (params0 g (.pr (.sl u) b) y) { tmps := (v0 :: r).toArray ++ Array.replicate (C.nt - (v0 :: r).toArray.size) undef, defers := [] } w := by
    intro g hg
    have h3 := h0.set (d := 0) hlt (A := .sl u y.1 g) (v := v0) ⟨⟨ad, c, es, hv0, hle, harr, hrd⟩, fun v hv => by cases hv; exact hg⟩ (fun k m => by simp [mentions] at m)
    have h4 := put_none (a := { tmps := (v0 :: r).toArray ++ Array.replicate (C.nt - (v0 :: r).toArray.size) undef, defers := [] }) (t := 0)
    rw [hget] at h4
    rw [h4] at h3
    exact h3
  obtain ⟨q1, q2⟩ := hrun y hp
  cases ad with
  | none =>
    have hnil : y.1 = [] := by
      have hel := RepArr.len (fun x cs h => RepT.len h) harr
      cases hy : y.1 with
      | nil => rfl
      | cons p l =>
        exfalso
        have hpos : 0 < es.length := by
          rw [hel, hy]
          exact Nat.mul_pos (by simp) (Nat.le_of_ble_eq_true hu)
        obtain ⟨bl, off, e, _⟩ := hrd 0 es[0] (by rw [List.getElem?_eq_getElem hpos])
        cases e
    obtain ⟨L, hL, hn⟩ := q1 hnil
    exact runF_sound (S := ⟨.pr (.sl u) b, tr, mu, pre, val⟩) hm hC hf hnt hmul hL hn (go .nl ⟨_, _, hv0'⟩)
  | some a =>
    obtain ⟨L, hL, hn⟩ := q2
    exact runF_sound (S := ⟨.pr (.sl u) b, tr, mu, pre, val⟩) hm hC hf hnt hmul hL hn (go .nn ⟨_, _, _, hv0'⟩)

end
end Go.Abs
