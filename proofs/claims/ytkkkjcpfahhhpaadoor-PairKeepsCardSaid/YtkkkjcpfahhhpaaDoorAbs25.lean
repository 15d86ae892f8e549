/- The abstract machine, part 25: functions that may write into what they are handed. Own text of this session. -/
import Derived.Test.YtkkkjcpfahhhpaaDoorAbs19
set_option linter.unusedVariables false
set_option linter.unusedSimpArgs false
namespace Go.Abs
open Go Go.RowKit

section
variable {P : Program} {gl : List (Nat × AVal)} {C : Cfg} {V0 V : Vis} {w0 : Base} {w : World} {x : Ctx} {ρ : St} {a : Act} {nt : Nat}
variable {α : Type} {z : α}

theorem R.pad {vs : List Value} {n : Nat} (h : R gl V0 w0 vs.length x ρ { tmps := vs.toArray, defers := [] } w) (hn : vs.length ≤ n) (hp : ∀ k p, w0.pin k = some p → n ≤ k) :
    R gl V0 w0 n x ρ { tmps := vs.toArray ++ Array.replicate (n - vs.toArray.size) undef, defers := [] } w := by
  refine ⟨h.good, fun t A e => ?_, rfl, ?_, hp⟩
  · have h1 := h.slots t A e
    have : (vs.toArray ++ Array.replicate (n - vs.toArray.size) undef).getD t undef = vs.toArray.getD t undef := by
      rw [Array.getD_eq_getD_getElem?, Array.getD_eq_getD_getElem?]
      by_cases ht : t < vs.toArray.size
      · rw [Array.getElem?_append_left ht]
      · rw [Array.getElem?_append_right (by omega), Array.getElem?_eq_none (by omega : vs.toArray.size ≤ t), Array.getElem?_replicate]
        split <;> rfl
    show RepV x A ((vs.toArray ++ Array.replicate (n - vs.toArray.size) undef).getD t undef)
    rw [this]; exact h1
  · simp; omega

theorem outsX_rep (hC : CfgOk P gl C) (h : R gl V0 w0 nt x ρ a w) : ∀ {l : List ResultVar} {ch : AVal}, outsX C ρ l = some ch →
    ∃ vs : List Value, (l.mapM (fun r => match r with | .tmp t => pure (a.tmps.getD t undef) | .cell p T => do loadVar T (← asAddr (a.tmps.getD p undef))) : Sem (List Value)).run P w = .ok vs w ∧ RepL x ch vs
  | [], ch, e => by cases e; exact ⟨[], rfl, rfl⟩
  | .tmp t :: l, ch, e => by
    simp only [outsX] at e
    split at e
    case h_2 => cases e
    rename_i v hv
    split at e
    case h_2 => cases e
    rename_i r hr
    cases e
    obtain ⟨vs, h2, h3⟩ := outsX_rep hC h hr
    refine ⟨a.tmps.getD t undef :: vs, ?_, _, _, rfl, h.slots t v hv, h3⟩
    simp only [List.mapM_cons, Sem.run_bind, Sem.run_pure, Result.andThen_ok, h2]
  | .cell s T :: l, ch, e => by
    simp only [outsX] at e
    split at e
    case h_2 => cases e
    rename_i t k hT hk
    split at e
    case h_2 => cases e
    rename_i c hc
    split at e
    case h_2 => cases e
    rename_i v hv
    split at e
    case h_2 => cases e
    rename_i r hr
    cases e
    obtain ⟨bl, sz, hs, hp, hz⟩ := bx_of (h.slots s _ hk)
    obtain ⟨cs, E, hb, hcs, _⟩ := h.good.at hc hs hz
    obtain ⟨q1, q2, hq, hl, r1, r2, g1, g2, g3, g4⟩ := unflat_rep hv hcs
    have hcell := block_cells (off := 0) (p := []) (q := q1) (r := q2) hb (by simpa using hq) rfl
    have hld := run_loadVar (P := P) (w := w) (hC.tab _ _ hT) hl hcell
    simp only [Instr.loadAt, Instr.sureAddr, Sem.run_bind, Sem.run_pure, Result.andThen_ok] at hld
    obtain ⟨u0, hld', hrep⟩ : ∃ u0, (loadVar T ⟨bl, 0, none⟩).run P w = .ok u0 w ∧ RepV x v u0 := ⟨_, hld, rep_cells g1 g2 g3 g4 r1 hl⟩
    obtain ⟨vs, h2, h3⟩ := outsX_rep hC h hr
    refine ⟨u0 :: vs, ?_, _, _, rfl, hrep, h3⟩
    simp only [List.mapM_cons, Sem.run_bind, hp, asAddr, Sem.run_pure, Result.andThen_ok, hld']
    exact (congrArg (fun q => q.andThen fun a_1 w' => Result.ok (u0 :: a_1) w') h2)

theorem bind1_in {j k : Nat} {m : List (Nat × Nat)} {p : Nat × Nat} (h : p ∈ m) : p ∈ bind1 j k m := by
  unfold bind1
  split
  · exact List.mem_cons_of_mem _ h
  · exact h
theorem bindS_in : ∀ {s : Sh} {A : AVal} {m : List (Nat × Nat)} {p : Nat × Nat}, p ∈ m → p ∈ bindS s A m := by
  intro s
  induction s with
  | pr p q ihp ihq => intro A m y h; cases A <;> first | exact h | exact ihq (ihp h)
  | os k => intro A m y h; cases A <;> first | exact h | exact bind1_in h
  | bx k o => intro A m y h; cases A <;> first | exact h | exact bind1_in h
  | _ => intro A m y h; exact h
theorem bindR_in {hs : HS} {p : Nat × Nat} : ∀ {A : AVal} {i : Nat} {m : List (Nat × Nat)}, p ∈ m → p ∈ bindR hs i A m := by
  intro A
  induction A with
  | pr a r _ ih =>
    intro i m h
    simp only [bindR]
    refine ih ?_
    split
    · exact bindS_in h
    · exact h
  | _ => intro i m h; exact h
theorem idL_in {k : Nat} : ∀ {l : List Nat}, k ∈ l → (k, k) ∈ idL l
  | q :: l, h => by
    rcases List.mem_cons.1 h with rfl | h
    · exact List.mem_cons_self
    · exact List.mem_cons_of_mem _ (idL_in h)

def lookE : List (Nat × Ty) → Nat → Option Ty
  | [], _ => none
  | (k, t) :: l, q => match Nat.beq k q with | true => some t | false => lookE l q

theorem lookE_in {t : Ty} {k : Nat} : ∀ {l : List (Nat × Ty)}, lookE l k = some t → k ∈ fstE l
  | [], h => by cases h
  | (q, u) :: l, h => by
    simp only [lookE] at h
    split at h
    · rename_i e; rw [beq_true] at e; subst e; exact List.mem_cons_self
    · exact List.mem_cons_of_mem _ (lookE_in h)
theorem fstE_in {t : Ty} {k : Nat} : ∀ {l : List (Nat × Ty)}, (k, t) ∈ l → k ∈ fstE l
  | (y1, y2) :: l, h => by
    rcases List.mem_cons.1 h with h | h
    · cases h; exact List.mem_cons_self
    · exact List.mem_cons_of_mem _ (fstE_in h)
theorem inE {t : Ty} {k : Nat} : ∀ {l : List (Nat × Ty)}, nodupN (fstE l) = true → (k, t) ∈ l → lookE l k = some t
  | (q, u) :: l, hn, h => by
    simp only [fstE, nodupN] at hn
    split at hn
    · cases hn
    rename_i hq
    simp only [lookE]
    rcases List.mem_cons.1 h with h | h
    · cases h; rw [Nat.beq_refl]
    · have hk : k ∈ fstE l := fstE_in h
      split
      · rename_i e; rw [beq_true] at e; subst e; rw [mem_iff.2 hk] at hq; cases hq
      · exact inE hn h
theorem get_empty {k : Nat} : ∀ {l : List (Nat × Ty)}, get (emptySt l) (br k) = (lookE l k).map (fun t => .ar t [])
  | [] => rfl
  | (q, t) :: l => by
    simp only [emptySt, get, lookE]
    by_cases h : q = k
    · subst h; rw [Nat.beq_refl, Nat.beq_refl]; rfl
    · rw [beq_false.2 h, beq_false.2 (fun e => h (br_inj e))]; exact get_empty
theorem get_empty_tr {t : Nat} : ∀ {l : List (Nat × Ty)}, get (emptySt l) (tr t) = none
  | [] => rfl
  | (q, u) :: l => by
    simp only [emptySt, get, beq_false.2 (fun e => tr_br (Eq.symm e) : ¬ br q = tr t)]
    exact get_empty_tr

/-- What is laid for an empty slice. -/
theorem fixR_rep {hs : HS} {x x3 : Ctx} {es0 : List (Nat × Ty)} (hV : x3.V = x.V) (hsg : ∀ {A : AVal} {v : Value}, RepV x A v → (∀ k, mentions k A = true → k ∉ fstE es0) → RepV x3 A v) (hE : ∀ k t, (k, t) ∈ es0 → x3.sg k = some (0, (t.size, 0))) :
    ∀ {A A' : AVal} {i : Nat} {vs : List Value} {es : List (Nat × Ty)}, fixR hs i A = some (A', es) → (∀ y, y ∈ es → y ∈ es0) → (∀ k, mentions k A = true → k ∉ fstE es0) → RepL x A vs →
      RepL x3 A' vs ∧ ∀ k, mentions k A' = true → mentions k A = true ∨ k ∈ fstE es
  | .un, A', i, vs, es, e, _, _, h => by cases e; exact ⟨h, fun k m => .inl m⟩
  | .pr B r, A', i, vs, es, e, hes, hm, ⟨v, l, e1, h1, h2⟩ => by
    simp only [fixR] at e
    split at e
    case h_2 => cases e
    rename_i r' es' hr
    have hmr : ∀ k, mentions k r = true → k ∉ fstE es0 := fun k m => hm k (by simp only [mentions]; split <;> first | rfl | exact m)
    have hmB : ∀ k, mentions k B = true → k ∉ fstE es0 := fun k m => hm k (by simp only [mentions, m])
    have same : ∀ {es}, es' = es → RepL x r l → (∀ y, y ∈ es → y ∈ es0) → RepL x3 (.pr B r') vs ∧ ∀ k, mentions k (.pr B r') = true → mentions k (.pr B r) = true ∨ k ∈ fstE es := fun {es} he h2 hes => by
      subst he
      obtain ⟨g1, g2⟩ := fixR_rep hV hsg hE hr hes hmr h2
      refine ⟨⟨v, l, e1, hsg h1 hmB, g1⟩, fun k m => ?_⟩
      simp only [mentions] at m ⊢
      split at m
      · exact .inl rfl
      · exact g2 k m
    have laid : ∀ {k t}, v = .slice (match v with | .slice ad _ _ => ad | _ => none) 0 0 → es = (k, t) :: es' → RepL x3 (.pr (.os k 0) r') vs ∧ ∀ q, mentions q (.pr (.os k 0) r') = true → mentions q (.pr B r) = true ∨ q ∈ fstE es := fun {k t} hv he => by
      subst he
      obtain ⟨g1, g2⟩ := fixR_rep hV hsg hE hr (fun y hy => hes y (List.mem_cons_of_mem _ hy)) hmr h2
      refine ⟨⟨v, l, e1, ⟨0, (t.size, 0), _, hE k t (hes _ List.mem_cons_self), by rw [hv], Nat.le_refl _, fun h => absurd rfl h⟩, g1⟩, fun q m => ?_⟩
      simp only [mentions] at m ⊢
      split at m
      · rename_i hb; rw [beq_true] at hb; subst hb; exact .inr List.mem_cons_self
      · rcases g2 q m with q' | q'
        · refine .inl ?_
          split
          · rfl
          · exact q'
        · exact .inr (List.mem_cons_of_mem _ q')
    split at e
    · rename_i k hk
      split at e
      · rename_i t xs
        split at e
        · rename_i hx
          cases e
          obtain ⟨⟨ad, c, es2, q1, q2, q3, q4⟩, q5⟩ := h1
          have q1' : v = .slice ad 0 c := by simpa using q1
          obtain ⟨ad', n, q6⟩ := q5 v (by rw [q1'])
          rw [q1'] at q6
          simp only [Value.slice.injEq] at q6
          obtain ⟨_, q7, q8⟩ := q6
          have : c = 0 := by omega
          subst this
          exact laid (by rw [q1']) rfl
        · cases e
      · split at e
        · rename_i t ht
          cases e
          have q1 : v = .slice none 0 0 := by simpa [RepV, RepV1, RepCs] using h1
          exact laid (by rw [q1]) rfl
        · cases e
      · cases e; exact same rfl h2 hes
    · cases e; exact same rfl h2 hes

theorem R.fill {hs : HS} {ch ch' : AVal} {es : List (Nat × Ty)} {bs : St} {rs : List Value} {ks : List Nat} (h : R gl V0 w0 rs.length x (tupSt 0 ch ++ bs) { tmps := rs.toArray, defers := [] } w) (hrs : RepL x ch rs)
    (hks : ∀ k A, get (tupSt 0 ch ++ bs) (br k) = some A → k ∈ ks) (hpk : ∀ k p, w0.pin k = some p → k ∈ ks) (hbs : ∀ r A, get bs r = some A → ∃ k, r = br k) (hf : fixR hs 0 ch = some (ch', es)) (hn : nodupN (fstE es) = true) (hoff : offE ks (fstE es) = true) :
    ∃ x3, R gl V0 w0 rs.length x3 (tupSt 0 ch' ++ (emptySt es ++ bs)) { tmps := rs.toArray, defers := [] } w := by
  have hoff' : ∀ {l : List Nat}, offE ks l = true → ∀ k ∈ l, k ∉ ks := by
    intro l
    induction l with
    | nil => intro _ k hk; cases hk
    | cons q l ih =>
      intro h k hk
      simp only [offE] at h
      split at h
      · cases h
      rename_i hq
      rcases List.mem_cons.1 hk with rfl | hk
      · intro hm; rw [mem_iff.2 hm] at hq; cases hq
      · exact ih h k hk
  have hout := hoff' hoff
  let x3 : Ctx := { x with sg := fun k => match lookE es k with | some t => some (0, (t.size, 0)) | none => x.sg k }
  have hs3 : ∀ {k}, k ∉ fstE es → x3.sg k = x.sg k := fun {k} hk => by
    show (match lookE es k with | some t => _ | none => x.sg k) = _
    cases hl : lookE es k with
    | none => rfl
    | some t => exact absurd (lookE_in hl) hk
  have hE3 : ∀ k t, (k, t) ∈ es → x3.sg k = some (0, (t.size, 0)) := fun k t hm => by
    show (match lookE es k with | some t => _ | none => x.sg k) = _
    rw [inE hn hm]
  have hsz : ∀ {k bl sz}, x3.sg k = some (bl, sz) → sz.2 ≠ 0 → x.sg k = some (bl, sz) := fun {k bl sz} e hz => by
    have e' : (match lookE es k with | some t => some (0, (t.size, 0)) | none => x.sg k) = some (bl, sz) := e
    split at e'
    · cases e'; exact absurd rfl hz
    · exact e'
  have hmen : ∀ {r A k}, get (tupSt 0 ch ++ bs) r = some A → mentions k A = true → k ∉ fstE es := fun {r A k} e m hk => by
    obtain ⟨A', hA'⟩ := h.good.clo r A k e m
    exact hout k hk (hks k A' hA')
  have hrv : ∀ {A : AVal} {v : Value}, RepV x A v → (∀ k, mentions k A = true → k ∉ fstE es) → RepV x3 A v := fun {A v} r hm =>
    RepV.resg (x := x) (x' := x3) (VLe.refl _) (fun _ _ e => e) (fun k p m e => (hs3 (hm k m)).trans e) r
  have hchm : ∀ k, mentions k ch = true → k ∉ fstE es := by
    intro k m
    have : ∀ {A : AVal} {n : Nat} {vs : List Value}, RepL x A vs → mentions k A = true → ∃ i B, get (tupSt n A) (tr (n + i)) = some B ∧ mentions k B = true := by
      intro A
      induction A with
      | pr p q _ ih =>
        intro n vs ⟨v, l, _, _, hr⟩ m
        simp only [mentions] at m
        split at m
        · rename_i hm; exact ⟨0, p, by simp [tupSt, get], hm⟩
        · obtain ⟨i, B, g1, g2⟩ := ih (n := n + 1) hr m
          refine ⟨i + 1, B, ?_, g2⟩
          simp only [tupSt, get]
          have hne : ¬ tr n = tr (n + (i + 1)) := fun e => by have := tr_inj e; omega
          rw [beq_false.2 hne]
          have : n + (i + 1) = n + 1 + i := by omega
          rw [this]; exact g1
      | un => intro n vs _ m; simp [mentions] at m
      | _ => intro n vs hr; exact hr.elim
    obtain ⟨i, B, g1, g2⟩ := this (n := 0) hrs m
    exact hmen (r := tr (0 + i)) (by rw [get_app, g1]) g2
  obtain ⟨f1, f2⟩ := fixR_rep (x := x) (x3 := x3) (es0 := es) rfl hrv hE3 hf (fun y hy => hy) hchm hrs
  have hbr : ∀ k, get (tupSt 0 ch' ++ (emptySt es ++ bs)) (br k) = match lookE es k with | some t => some (.ar t []) | none => get bs (br k) := fun k => by
    rw [get_app]
    cases e : get (tupSt 0 ch') (br k) with
    | some B => obtain ⟨i, hi⟩ := get_tup e; exact absurd hi.symm tr_br
    | none =>
      show get (emptySt es ++ bs) (br k) = _
      rw [get_app, get_empty]
      cases lookE es k <;> rfl
  have hbr0 : ∀ k, get (tupSt 0 ch ++ bs) (br k) = get bs (br k) := fun k => by
    rw [get_app]
    cases e : get (tupSt 0 ch) (br k) with
    | some B => obtain ⟨i, hi⟩ := get_tup e; exact absurd hi.symm tr_br
    | none => rfl
  have hclo : ∀ {k : Nat}, (∃ A', get (tupSt 0 ch ++ bs) (br k) = some A') ∨ k ∈ fstE es → ∃ A', get (tupSt 0 ch' ++ (emptySt es ++ bs)) (br k) = some A' := fun {k} hk => by
    rw [hbr]
    cases hl : lookE es k with
    | some t => exact ⟨_, rfl⟩
    | none =>
      rcases hk with ⟨A', hA'⟩ | hk
      · rw [hbr0] at hA'; exact ⟨_, hA'⟩
      · exfalso
        have : ∀ {l : List (Nat × Ty)}, k ∈ fstE l → lookE l k = none → False := by
          intro l
          induction l with
          | nil => intro h; cases h
          | cons y l ih =>
            obtain ⟨y1, y2⟩ := y
            intro h1 h2
            simp only [lookE] at h2
            split at h2
            · cases h2
            rename_i hq
            rcases List.mem_cons.1 h1 with rfl | h1
            · rw [Nat.beq_refl] at hq; cases hq
            · exact ih h1 h2
        exact this hk hl
  refine ⟨x3, ⟨⟨h.good.vis, h.good.grow, h.good.old, ?_, ?_, ?_, ?_, h.good.tinj, h.good.bel, ?_, h.good.gok, ?_⟩, ?_, rfl, rfl, h.pk⟩⟩
  · intro k A e
    rw [hbr] at e
    cases hl : lookE es k with
    | some t =>
      rw [hl] at e; cases e
      refine ⟨0, (t.size, 0), ?_, .inl ⟨rfl, t, rfl, rfl⟩⟩
      show (match lookE es k with | some t => _ | none => x.sg k) = _
      rw [hl]
    | none =>
      rw [hl] at e
      have e' : get (tupSt 0 ch ++ bs) (br k) = some A := by rw [hbr0]; exact e
      obtain ⟨bl, sz, h1, h2⟩ := h.good.box k A e'
      have hk : k ∉ fstE es := fun hk => hout k hk (hks k A e')
      refine ⟨bl, sz, (hs3 hk).trans h1, h2.imp id ?_⟩
      rintro ⟨hz, cs, E, q1, q2, q3⟩
      exact ⟨hz, cs, E, q1, RepCs.resg (x := x) (x' := x3) (VLe.refl _) (fun _ _ e => e) (fun q p m e => (hs3 (hmen e' m)).trans e) q2, q3⟩
  · intro k bl sz e hz; exact h.good.sgs k bl sz (hsz e hz) hz
  · intro k k' bl s1 s2 e1 e2 z1 z2; exact h.good.inj _ _ _ _ _ (hsz e1 z1) (hsz e2 z2) z1 z2
  · intro g v s e
    obtain ⟨ad, n, c, rfl, h1, h2⟩ := h.good.tag g v s e
    refine ⟨ad, n, c, rfl, h1, h2.imp id ?_⟩
    rintro ⟨bl, cur, E, a1, a2, a3, a4, a5, a6⟩
    exact ⟨bl, cur, E, a1, a2, a3, a4, a5, fun k sz hz e => a6 k sz hz (hsz e hz)⟩
  · intro r A k e m
    rw [get_app] at e
    split at e
    · rename_i B hB
      cases e
      obtain ⟨i, rfl⟩ := get_tup hB
      obtain ⟨_, g⟩ := tup_rep (n := 0) f1 hB
      rcases f2 k (g k m) with q | q
      · -- one of the chain as it was
        have : ∀ {A : AVal} {n : Nat} {vs : List Value}, RepL x A vs → mentions k A = true → ∃ i B, get (tupSt n A) (tr (n + i)) = some B ∧ mentions k B = true := by
          intro A
          induction A with
          | pr p q _ ih =>
            intro n vs ⟨v, l, _, _, hr⟩ m
            simp only [mentions] at m
            split at m
            · rename_i hm; exact ⟨0, p, by simp [tupSt, get], hm⟩
            · obtain ⟨i, B, g1, g2⟩ := ih (n := n + 1) hr m
              refine ⟨i + 1, B, ?_, g2⟩
              simp only [tupSt, get]
              have hne : ¬ tr n = tr (n + (i + 1)) := fun e => by have := tr_inj e; omega
              rw [beq_false.2 hne]
              have : n + (i + 1) = n + 1 + i := by omega
              rw [this]; exact g1
          | un => intro n vs _ m; simp [mentions] at m
          | _ => intro n vs hr; exact hr.elim
        obtain ⟨i', B', g1, g2⟩ := this (n := 0) hrs q
        exact hclo (.inl (h.good.clo (tr (0 + i')) B' k (by rw [get_app, g1]) g2))
      · exact hclo (.inr q)
    · rename_i hnone
      rw [get_app] at e
      split at e
      · rename_i B hB
        cases e
        rcases Nat.mod_two_eq_zero_or_one r with h0 | h0
        · have : r = tr (r / 2) := by simp only [tr]; omega
          rw [this, get_empty_tr] at hB; cases hB
        · have : r = br (r / 2) := by simp only [br]; omega
          rw [this, get_empty] at hB
          cases hl : lookE es (r / 2) with
          | none => rw [hl] at hB; cases hB
          | some t => rw [hl] at hB; cases hB; simp [mentions] at m
      · obtain ⟨q, rfl⟩ := hbs r A e
        exact hclo (.inl (h.good.clo (br q) A k (by rw [hbr0]; exact e) m))
  · intro k p e
    exact (hs3 (fun hk => hout k hk (hpk k p e))).trans (h.good.pin k p e)
  · intro t A e
    rw [get_app] at e
    split at e
    · rename_i B hB
      cases e
      obtain ⟨⟨v, g1, g2⟩, _⟩ := tup_rep (n := 0) (i := t) f1 (by rw [Nat.zero_add]; exact hB)
      rw [Array.getD_eq_getD_getElem?, List.getElem?_toArray, g1]
      exact g2
    · rw [get_app, get_empty_tr] at e
      obtain ⟨q, hq⟩ := hbs _ _ e
      exact absurd hq tr_br

theorem frz_repV {k : Nat} {t : Ty} {xs : t.sl.den} {x x' : Ctx} (hV : VLe x.V x'.V) (hs : ∀ q, q ≠ k → x'.sg q = x.sg q) (ht : x'.tg = x.tg)
    (hk : ∀ cs, RepCs x (.os k (List.length xs)) cs → RepCs x' (.sl t xs .no) cs) {A : AVal} {v : Value} (ho : frzOk k (List.length xs) A = true) (h : RepV x A v) : RepV x' (frzA k t xs A) v := by
  have go : ∀ {cs}, RepCs x A cs → RepCs x' (frzA k t xs A) cs := fun {cs} r => frz_rep hV hs ht hk ho r
  cases A with
  | tu l => simp [frzOk] at ho
  | cl f a b => simp [frzOk] at ho
  | nd => exact h
  | ar t xs => exact h.elim
  | un => exact h
  | pr a b => obtain ⟨cs, e, r⟩ := h; exact ⟨cs, e, go r⟩
  | bx j o => have := go h; revert this; simp only [frzA]; split <;> exact id
  | bi j i o => have := go h; revert this; simp only [frzA]; split <;> exact id
  | os j n => have := go h; revert this; simp only [frzA]; split <;> exact id
  | _ => exact go h

theorem frz_repL {k : Nat} {t : Ty} {xs : t.sl.den} {x x' : Ctx} (hV : VLe x.V x'.V) (hs : ∀ q, q ≠ k → x'.sg q = x.sg q) (ht : x'.tg = x.tg)
    (hk : ∀ cs, RepCs x (.os k (List.length xs)) cs → RepCs x' (.sl t xs .no) cs) : ∀ {A : AVal} {vs : List Value}, frzOk k (List.length xs) A = true → RepL x A vs → RepL x' (frzA k t xs A) vs
  | .un, _, _, h => h
  | .pr a b, _, ho, ⟨v, l, e, h1, h2⟩ => by
    simp only [frzOk, Bool.and_eq_true] at ho
    exact ⟨v, l, e, frz_repV hV hs ht hk ho.1 h1, frz_repL hV hs ht hk ho.2 h2⟩

theorem frzC_spec {k len : Nat} : ∀ {A : AVal} {K : Option α}, frzC k len A K = some z → frzOk k len A = true ∧ K = some z := by
  intro A
  induction A with
  | os j n =>
    intro K e
    simp only [frzC, frzOk] at e ⊢
    split at e
    · cases h : decide (n = len) with
      | false => rw [h] at e; cases e
      | true => rw [h] at e; exact ⟨rfl, e⟩
    · exact ⟨rfl, e⟩
  | pr a b iha ihb =>
    intro K e
    simp only [frzC] at e
    obtain ⟨h1, e⟩ := iha e
    obtain ⟨h2, e⟩ := ihb e
    exact ⟨by simp only [frzOk, h1, h2, Bool.and_self], e⟩
  | tu a _ => intro K e; cases e
  | cl f a b _ _ => intro K e; cases e
  | _ => intro K e; exact ⟨rfl, e⟩

/-- What is to come out as plain data becomes so. -/
theorem R.frz {rs : List Value} {pins : List Nat} {K : St → AVal → Option α} : ∀ {l : List Nat} {ρ : St} {x : Ctx} {ch : AVal}, (∀ k p, w0.pin k = some p → k ∈ pins) → frzL pins l ρ ch K = some z → R gl V0 w0 nt x ρ a w → RepL x ch rs →
    ∃ x' ρ' ch', K ρ' ch' = some z ∧ R gl V0 w0 nt x' ρ' a w ∧ RepL x' ch' rs
  | [], ρ, x, ch, _, e, h, hl => ⟨x, ρ, ch, e, h, hl⟩
  | k :: l, ρ, x, ch, hp, e, h, hl => by
    simp only [frzL] at e
    split at e
    · rename_i t xs hk hm
      obtain ⟨hb, e⟩ := frzC_spec e
      obtain ⟨x', h1, h2, h3, h4, h5⟩ := h.freeze (fun p e => by have := mem_iff.2 (hp k p e); rw [hm] at this; cases this) hk
      exact R.frz hp e h1 (frz_repL h2 h3 h4 h5 hb hl)
    · exact R.frz hp e h hl
    · cases e

/-- **A function keeps its contract** if the evaluator comes to what the contract says. -/
theorem xspec_of {f : Nat} {fn : Func} {X : XSpec} (hm : P.follows .mixedOrders = true) (hC : CfgOk P gl C) (hf : P.funcs[f]? = some fn) (hnt : fn.ntmps = C.nt) (hnp : Nat.ble X.np C.nt = true) (hpins : allGe C.nt X.pins = true)
    (hnr : fn.results.toList.length = X.nr) (hpr : allGe X.nr X.pins = true)
    (hrun : ∀ v : HS.den X.hin, X.pre v = true → ∃ L, loopsOk C L fn ∧ runX C X L fn v = some (X.val v)) : XOK P gl f X := by
  intro V w D pin x v vs hp hvs hpin hR
  obtain ⟨L, hL, hn⟩ := hrun v hp
  have hpk : ∀ k p, pin k = some p → C.nt ≤ k := fun k p e => allGe_spec hpins k (hpin k p e)
  have h0 := hR.pad (n := C.nt) (by rw [hvs]; exact Nat.le_of_ble_eq_true hnp) hpk
  unfold runX at hn
  unfold loopsOk at hL
  split at hn
  case h_2 => cases hn
  rename_i c hc
  rw [hc] at hL
  refine calls_of_wp hf hc ?_
  rw [hnt]
  refine ev_sound hm hC c hL hn h0 ?_
  intro ex ρ' x' a' w' e' h'
  have fin : xleave C X fn ρ' = some (X.val v) → a'.defers = [] ∧ ∃ r, (results fn a'.tmps).run P w' = .ok r w' ∧ ∃ x1 rs, Ending.returned r = .returned (retV rs) ∧ rs.length = X.nr ∧
      R gl V ⟨w, D, pin⟩ rs.length x1 (encH X.hout (X.val v)) { tmps := rs.toArray, defers := [] } w' := by
    intro ho
    unfold xleave at ho
    split at ho
    case h_2 => cases ho
    rename_i ch0 hch
    obtain ⟨rs, hrun, hrl0⟩ := outsX_rep hC h' hch
    obtain ⟨x', ρ', ch, ho, h', hrl⟩ := h'.frz hpin ho hrl0
    unfold xleave0 at ho
    split at ho
    case h_2 => cases ho
    rename_i bs o1 hb
    split at ho
    case h_2 => cases ho
    rename_i ch' es hfx
    split at ho
    case h_2 => cases ho
    rename_i hnd hof
    have hlr : rs.length = fn.results.toList.length := rs_len _ hrun
    have hres : (results fn a'.tmps).run P w' = .ok (retV rs) w' := by
      unfold results retV
      rw [Sem.run_bind, Array.mapM_eq_mapM_toList, Sem.run_map]
      exact congrArg (fun q : Result (List Value) => (q.andThen fun a w' => Result.ok a.toArray w').andThen fun a w' => Sem.run P (pure (if h : a.size = 1 then a[0] else Value.tuple a)) w') hrun
    generalize hmm : bindR X.hout 0 ch (idL X.pins) = m at *
    have hidm : ∀ k, k ∈ X.pins → look m k = some k := fun k hk => (one_in o1).2 (by rw [← hmm]; exact bindR_in (idL_in hk))
    have h1 := h'.ren (V1 := V) (B := ⟨w, D, pin⟩) o1 hb hrl h'.good.grow h'.good.old (fun j k bl sz h1 h2 h3 => (h'.good.sgs j bl sz h2 h3).1) h'.good.bel h'.good.gok
      (fun k p e => by rw [renC_sg o1 (hidm k (hpin k p e))]; exact h'.good.pin k p e) (fun k p e => by rw [hlr, hnr]; exact allGe_spec hpr k (hpin k p e))
    have hrl2 : RepL (renC m x') (renA m ch) rs := RepL.ren (x := x') (m := m) (x' := renC m x') (VLe.refl _) (fun j k e => renC_sg o1 e) hrl
    obtain ⟨b1, b2⟩ := get_boxSt hb
    obtain ⟨x3, h3⟩ := h1.fill (ks := fsts (swapL m)) hrl2 (fun k A e => by
        rw [get_app] at e
        split at e
        · rename_i B hB; obtain ⟨i, hi⟩ := get_tup hB; exact absurd hi.symm tr_br
        · obtain ⟨j, k', A', g1, g2, _⟩ := b1 _ _ e
          have := br_inj g2; subst this
          exact in_snds g1)
      (fun k p e => in_snds ((one_in o1).1 (hidm k (hpin k p e)))) (fun r A e => by obtain ⟨j, k', A', g1, g2, _⟩ := b1 _ _ e; exact ⟨k', g2⟩) hfx hnd hof
    obtain ⟨x4, h4⟩ := h3.adapt ho
    exact ⟨h'.defs, _, hres, x4, rs, rfl, hlr.trans hnr, h4⟩
  cases ex with
  | normal => exact fin e'
  | exit id => cases e'
  | ret => exact fin e'

end
end Go.Abs
