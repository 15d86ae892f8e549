/- The abstract machine, part 13: calls, and any operation. Own text of this session. -/
import Derived.Test.YtkkkjcpfahhhpaaDoorAbs24
set_option linter.unusedVariables false
set_option linter.unusedSimpArgs false
namespace Go.Abs
open Go Go.RowKit

section
variable {P : Program} {gl : List (Nat × AVal)} {C : Cfg} {V0 V : Vis} {w0 : Base} {w : World} {x : Ctx} {ρ : St} {a : Act} {nt : Nat}
variable {α : Type} {K : St → Foot → Option α} {z : α} {d ty : Nat} {ps : String} {af : Array Edge} {gd : Option (Nat × Bool)}

theorem nls_of {v : Value} (h : RepV x .nls v) : v = .slice none 0 0 := by simpa [RepV, RepV1, RepCs] using h
theorem os_of {k n : Nat} {v : Value} (h : RepV x (.os k n) v) : ∃ bl sz ad, x.sg k = some (bl, sz) ∧ v = .slice ad n sz.2 ∧ n ≤ sz.2 ∧ (sz.2 ≠ 0 → ad = some ⟨bl, 0, none⟩) := by
  obtain ⟨bl, sz, ad, hs, e, hc⟩ := h
  simp only [List.cons.injEq, and_true] at e
  exact ⟨bl, sz, ad, hs, e, hc⟩

theorem run_len {T : Nat} {X : Operand} {o : Oper} {v : Value} {n : Nat} (ho : o.op = .call { callee := .builtin .len, args := #[X], argTypes := #[T] }) (hv : a.eval X = v)
    (hk : (∃ E ad c, P.underlying T = some (.slice E) ∧ v = .slice ad n c) ∨ (∃ s : ByteArray, P.underlying T = some .string ∧ v = .string s ∧ n = s.size)) :
    (execOp a.eval o).run P w = .ok (.value (.int .i64 n)) w := by
  rcases hk with ⟨E, ad, c, hu, rfl⟩ | ⟨s, hu, rfl, rfl⟩
  · simp [execOp, ho, resolve, invoke, builtin, hv, Builtin.len_, run_underlying hu, goInt]
  · simp [execOp, ho, resolve, invoke, builtin, hv, Builtin.len_, run_underlying hu, goInt]

theorem args1 {c : Call} {X : Operand} (h : c.args.toList = [X]) : c.args = #[X] := by apply Array.ext'; simpa using h
theorem args2 {c : Call} {X Y : Operand} (h : c.args.toList = [X, Y]) : c.args = #[X, Y] := by apply Array.ext'; simpa using h
theorem tys1 {c : Call} {X : Nat} (h : c.argTypes.toList = [X]) : c.argTypes = #[X] := by apply Array.ext'; simpa using h
theorem tys2 {c : Call} {X Y : Nat} (h : c.argTypes.toList = [X, Y]) : c.argTypes = #[X, Y] := by apply Array.ext'; simpa using h

theorem repV1_dec {t : Ty} {A : AVal} {u : t.den} {v : Value} (hd : dec t A = some u) (h : RepV x A v) : RepV1 (bare x.V) (enc t u) v := by
  have key : ∀ {cs : List Value}, RepCs x A cs → RepCs (bare x.V) (enc t u) cs := fun r => repCs_enc (x := bare x.V) (show RepT x.V t u _ from repT_dec (x := x) hd r)
  cases t with
  | un => cases A <;> simp only [dec] at hd <;> (try cases hd); exact h
  | pr p q =>
    cases A <;> simp only [dec] at hd <;> (try cases hd)
    obtain ⟨cs, e, r⟩ := h
    exact ⟨cs, e, key r⟩
  | int k =>
    cases A <;> simp only [dec] at hd <;> (try cases hd)
    exact key h
  | bool => cases A <;> simp only [dec] at hd <;> (try cases hd); exact key h
  | str => cases A <;> simp only [dec] at hd <;> (try cases hd); exact key h
  | sl t =>
    cases A <;> simp only [dec] at hd <;> (try cases hd)
    · exact key h
    · exact key h
  | o1 => cases A <;> simp only [dec] at hd <;> cases hd

theorem callArgs_rep (hC : CfgOk P gl C) (h : R gl V0 w0 nt x ρ a w) : ∀ {t : Ty} {l : List Operand} {u : t.den}, callArgs C ρ t l = some u → RepTup (bare x.V) (enc t u) (l.map a.eval)
  | .un, [], u, e => rfl
  | .pr p q, X :: l, u, e => by
    simp only [callArgs] at e
    split at e
    case h_2 => cases e
    rename_i A hA
    split at e
    case h_2 => cases e
    rename_i u1 hu1
    split at e
    case h_2 => cases e
    rename_i u2 hu2
    cases e
    have h1 : RepV x A (a.eval X) := by
      cases X with
      | tmp t => exact h.slots t A hA
      | const v => exact (ofConst_rep hA).1
      | global g =>
        simp only [opnd, hC.glob] at hA
        obtain ⟨t, d, es, rfl, h1, h2⟩ := h.good.gok g A hA
        exact ⟨g, 0, es, rfl, h1.mono h.good.grow, h2.mono h.good.grow⟩
      | func f => simp only [opnd, Option.some.injEq] at hA; subst hA; exact rfl
    exact ⟨_, _, rfl, repV1_dec hu1 h1, callArgs_rep hC h hu2⟩
  | .un, _ :: _, _, e => by cases e
  | .pr _ _, [], _, e => by cases e
  | .int _, l, _, e => by cases l <;> cases e
  | .bool, l, _, e => by cases l <;> cases e
  | .str, l, _, e => by cases l <;> cases e
  | .sl _, l, _, e => by cases l <;> cases e
  | .o1, l, _, e => by cases l <;> cases e

theorem resA_men (S : Spec) (y : S.tr.den) (k : Nat) : mentions k (resA S y) = false := by
  unfold resA
  split
  · simp only [mentions, enc_men]
  · unfold resOne
    split
    · exact enc_men _ _ _
    · rfl

theorem coerce_sl {t u : Ty} {A : AVal} {xs : u.sl.den} {g : Tag} {v : Value} (h : RepV x A v) (e : coerce (.sl t) A = .sl u xs g) : RepV x (.sl u xs g) v := by
  rw [← e]; exact coerce_rep h

theorem ev_call (hC : CfgOk P gl C) (h : R gl V0 w0 C.nt x ρ a w) (hlt : d < C.nt) {c : Call} (hxn : look C.calls d = none)
    (e : evCall C ρ d ty c K = some z) : Sound P gl C V0 w0 w ρ a ⟨some d, .call c, ty, ps, af, gd⟩ K z := by
  simp only [evCall] at e
  split at e
  · -- a function
    rename_i f hf
    split at e
    · -- one that copies a slice
      rename_i te hte
      split at e
      case h_2 => cases e
      rename_i X ha
      split at e
      case h_2 => cases e
      rename_i A hX hn
      split at e
      case h_2 => cases e
      rename_i xs hxs
      cases hb : decide (List.length xs * te.2 ≤ 140737488351232) with
      | false => rw [hb] at e; cases e
      | true =>
        rw [hb] at e; simp only [cond_true] at e
        have hbytes : List.length xs * te.2 ≤ 140737488351232 := by simpa using hb
        obtain ⟨hok, fn, hfn, hbody, hname⟩ := hC.clones f te hte
        have hv : RepV (bare x.V) (.sl te.1 xs .no) (a.eval X) := repV1_dec (t := .sl te.1) hxs (opnd_rep hC h hX).1
        have hcall := hok x.V w xs (a.eval X) (by
          intro g A hg
          obtain ⟨t, dd, es, rfl, h1, h2⟩ := h.good.gok g A hg
          exact ⟨t, dd, es, rfl, h1.mono h.good.grow, h2.mono h.good.grow⟩) h.good.vis hv hbytes
        have ha' := args1 ha
        have hrun : (execOp a.eval ⟨some d, .call c, ty, ps, af, gd⟩).run P w = .ok (.enter f #[a.eval X]) w := by
          have hnn : ¬ fn.name = "runtime.NumGoroutine" := by simpa using hname
          obtain ⟨cb, hb⟩ : ∃ c, fn.body = some c := Option.isSome_iff_exists.1 hbody
          simp [execOp, resolve, hf, ha', Act.eval, Deferred.ofValue, invoke, callFunc, hfn, hnn, hb]
        refine ⟨_, _, e, fun Kc Q hK => ?_⟩
        unfold Oper.wp
        rw [hrun]
        refine Calls.mono hcall ?_
        rintro en w' ⟨ad, cc, V', rfl, g1, g2, v1, v2, v3, g3⟩
        rcases g3 with h0 | ⟨bl, cs, E, h0, rfl, g4, g5, g6, g7, g8⟩
        · have hx0 : xs = [] := List.eq_nil_of_length_eq_zero (by omega)
          obtain ⟨x', hx'⟩ := h.boxV (w' := w') (V' := V') (b0 := w.heap.size) (Nat.le_refl _) (cs := []) (E := 0) (sz := (te.1.size, cc)) (c := .ar te.1 xs) (A := .os d (List.length xs)) (v := .slice ad (List.length xs) cc) hlt hn g1 v1 v2 v3 (fun hz => absurd h0 hz)
            (.inl ⟨h0, te.1, by rw [hx0], rfl⟩) (fun k m => by simp [mentions] at m) (fun y hy => ⟨_, _, ad, hy, rfl, g2, fun hz => absurd h0 hz⟩) (fun k m => (beq_true.1 (show Nat.beq d k = true from m)).symm)
          exact hK _ _ _ hx'
        · obtain ⟨x', hx'⟩ := h.boxV (w' := w') (V' := V') (b0 := bl) g4 (cs := cs.toList) (E := E) (sz := (te.1.size, cc)) (c := .ar te.1 xs) (A := .os d (List.length xs)) (v := .slice (some ⟨bl, 0, none⟩) (List.length xs) cc) hlt hn g1 v1 v2 v3 (fun _ => g8)
            (.inr ⟨h0, by simpa using g5, by obtain ⟨c1, c2, q1, q2, q3⟩ := g6; exact ⟨c1, c2, q1, q2, q3⟩, fun u ys e => by cases e; exact ⟨rfl, by simpa using g7⟩⟩) (fun k m => by simp [mentions] at m) (fun y hy => ⟨_, _, _, hy, rfl, g2, fun _ => rfl⟩) (fun k m => (beq_true.1 (show Nat.beq d k = true from m)).symm)
          exact hK _ _ _ hx'
    split at e
    case h_2 => cases e
    rename_i S hS
    split at e
    case h_2 => cases e
    rename_i u hu
    cases hp : S.pre u with
    | false => rw [hp] at e; cases e
    | true =>
      rw [hp] at e; simp only [cond_true] at e
      obtain ⟨hok, fn, hfn, hbody, hname⟩ := hC.specs f S hS
      have hargs := callArgs_rep hC h hu
      refine ⟨_, _, e, fun Kc Q hK => ?_⟩
      have hcall := hok x.V w u _ hp (by
        intro g A hg
        obtain ⟨t, dd, es, rfl, h1, h2⟩ := h.good.gok g A hg
        exact ⟨t, dd, es, rfl, h1.mono h.good.grow, h2.mono h.good.grow⟩) h.good.vis hargs
      have hrun : (execOp a.eval ⟨some d, .call c, ty, ps, af, gd⟩).run P w = .ok (.enter f ((c.args.toList.map a.eval).toArray)) w := by
        have hn : ¬ fn.name = "runtime.NumGoroutine" := by simpa using hname
        obtain ⟨cb, hb⟩ : ∃ c, fn.body = some c := Option.isSome_iff_exists.1 hbody
        have hm : (c.args.toList.map a.eval).toArray = c.args.map a.eval := by apply Array.ext'; simp
        rw [hm]
        simp [execOp, resolve, hf, Act.eval, Deferred.ofValue, invoke, callFunc, hfn, hn, hb]
      unfold Oper.wp
      rw [hrun]
      refine Calls.mono hcall ?_
      rintro en w' ⟨v, V', rfl, g1, g2, g3, g4, g5⟩
      have hx := h.ext g5 g1 g2 g3
      have hv : RepV { x with V := V' } (resA S (S.val u)) v := RepV.mono (bare_le { x with V := V' }) g4
      exact hK _ _ _ (hx.set hlt hv (men_none (fun k => resA_men S _ k)))
  · -- len
    rename_i hf
    split at e
    case h_2 => cases e
    rename_i X T ha ht
    have ha' := args1 ha
    have ht' := tys1 ht
    have ho : (⟨some d, .call c, ty, ps, af, gd⟩ : Oper).op = .call { callee := .builtin .len, args := #[X], argTypes := #[T] } := by
      obtain ⟨c1, c2, c3⟩ := c
      simp only at hf ha' ht' ⊢
      rw [hf, ha', ht']
    split at e
    · rename_i t0 t xs g hT hX
      obtain ⟨E, hE, _⟩ := chk_sl (hC.tab _ _ hT)
      obtain ⟨ad, cc, es, hv, _⟩ := sl_of (opnd_rep hC h hX).1
      exact ⟨_, _, e, yields_val h rfl hlt (run_len ho hv (.inl ⟨E, ad, cc, hE, rfl⟩)) (rep_int _ _) (men_none fun _ => rfl)⟩
    · rename_i t0 hT hX
      obtain ⟨E, hE, _⟩ := chk_sl (hC.tab _ _ hT)
      exact ⟨_, _, e, yields_val h rfl hlt (run_len (n := 0) ho (nls_of (opnd_rep hC h hX).1) (.inl ⟨E, none, 0, hE, rfl⟩)) (rep_int _ _) (men_none fun _ => rfl)⟩
    · rename_i s hT hX
      exact ⟨_, _, e, yields_val h rfl hlt (run_len ho (str_of (opnd_rep hC h hX).1) (.inr ⟨s, chk_str (hC.tab _ _ hT), rfl, rfl⟩)) (rep_int _ _) (men_none fun _ => rfl)⟩
    · rename_i t0 k n hT hX
      obtain ⟨E, hE, _⟩ := chk_sl (hC.tab _ _ hT)
      obtain ⟨bl, sz, cc, _, hv, _⟩ := os_of (opnd_rep hC h hX).1
      exact ⟨_, _, e, yields_val h rfl hlt (run_len ho hv (.inl ⟨E, _, _, hE, rfl⟩)) (rep_int _ _) (men_none fun _ => rfl)⟩
    · cases e
  · -- min
    rename_i hf
    split at e
    case h_2 => cases e
    rename_i X Y ha
    split at e
    case h_2 => cases e
    rename_i k m j n hX hY
    have hx := int_of (opnd_rep hC h hX).1
    have hy := int_of (opnd_rep hC h hY).1
    have ha' := args2 ha
    refine ⟨_, _, e, yields_val h rfl hlt ?_ (rep_int _ _) (men_none fun _ => rfl)⟩
    simp [execOp, resolve, hf, invoke, builtin, ha', hx, hy, Builtin.min_, Builtin.min2]
  · -- max
    rename_i hf
    split at e
    case h_2 => cases e
    rename_i X Y ha
    split at e
    case h_2 => cases e
    rename_i k m j n hX hY
    have hx := int_of (opnd_rep hC h hX).1
    have hy := int_of (opnd_rep hC h hY).1
    have ha' := args2 ha
    refine ⟨_, _, e, yields_val h rfl hlt ?_ (rep_int _ _) (men_none fun _ => rfl)⟩
    simp [execOp, resolve, hf, invoke, builtin, ha', hx, hy, Builtin.max_, Builtin.max2]
  · -- append
    rename_i hf
    split at e
    case h_2 => cases e
    rename_i X Y T U ha ht
    split at e
    case h_2 => cases e
    rename_i t eb hTU hT heb
    rw [beq_true] at hTU
    subst hTU
    split at e
    case h_2 => cases e
    rename_i vx vy hX hY
    split at e
    case h_3 => cases e
    · -- an owned one
      rename_i k n ys hvx hys
      split at e
      case h_2 => cases e
      rename_i u xs hbx hsz
      split at e
      case h_2 => cases e
      rename_i hut _
      subst hut
      simp only [Bool.and_eq_true] at hsz
      have hs1 := Nat.le_of_ble_eq_true hsz.1
      have hs2 := Nat.le_of_ble_eq_true hsz.2.1
      have hkn : k < C.nt := Nat.le_of_ble_eq_true hsz.2.2
      cases hcond : (decide (n = List.length xs) && decide ((List.length xs + List.length ys) * eb ≤ 140737488351232)) with
      | false => rw [hcond] at e; cases e
      | true =>
        rw [hcond] at e; simp only [cond_true] at e
        simp only [Bool.and_eq_true, decide_eq_true_eq] at hcond
        obtain ⟨hn, hbytes⟩ := hcond
        subst hn
        obtain ⟨E, hE, hck⟩ := chk_sl (hC.tab _ _ hT)
        obtain ⟨E', i', hE', hi', hbi⟩ := hC.eb _ _ heb
        rw [hE] at hE'; cases hE'
        obtain ⟨i, hi, hs, hz⟩ := chk_info hck
        have hii := Option.some.inj (hi'.symm.trans hi)
        rw [hii] at hbi
        have hx1 : RepV x (.os k (List.length xs)) (a.eval X) := by
          have := coerce_rep (t := .sl u) (opnd_rep hC h hX).1
          rw [hvx] at this; exact this
        have hy1 : RepV1 (bare x.V) (enc (.sl u) ys) (a.eval Y) := repV1_dec hys (opnd_rep hC h hY).1
        obtain ⟨⟨ad2, c2, es2, e2, r1, r2, r3⟩, _⟩ := hy1
        simp only [List.cons.injEq, and_true] at e2
        have ha' := args2 ha
        have ht' := tys2 ht
        refine ⟨_, _, e, fun Kc Q hK => ?_⟩
        obtain ⟨v', w', x', hrun, hR, hv⟩ := append_os (P := P) (tyy := ty) h hkn hE hi hs hz hbi hs1 hs2 hbx hx1 r2 r3 r1 hbytes
        have hr : (execOp a.eval ⟨some d, .call c, ty, ps, af, gd⟩).run P w = .ok (.value v') w' := by
          simp [execOp, resolve, hf, invoke, builtin, ha', ht', e2]
          rw [hrun]; simp
        unfold Oper.wp
        rw [hr]
        refine hK _ _ _ (hR.set hlt hv (fun j m => ?_))
        simp only [mentions, beq_true] at m
        subst m
        exact ⟨_, by rw [get_put, if_pos rfl]⟩
    rename_i u xs g ys hvx hys
    split at e
    case h_2 => cases e
    rename_i hut _ hsz
    subst hut
    simp only [Bool.and_eq_true] at hsz
    have hs1 := Nat.le_of_ble_eq_true hsz.1
    have hs2 := Nat.le_of_ble_eq_true hsz.2
    cases hb : decide ((List.length xs + List.length ys) * eb ≤ 140737488351232) with
    | false => rw [hb] at e; cases e
    | true =>
      rw [hb] at e; simp only [cond_true] at e
      have hbytes : (List.length xs + List.length ys) * eb ≤ 140737488351232 := by simpa using hb
      obtain ⟨E, hE, hck⟩ := chk_sl (hC.tab _ _ hT)
      obtain ⟨E', i', hE', hi', hbi⟩ := hC.eb _ _ heb
      rw [hE] at hE'; cases hE'
      obtain ⟨i, hi, hs, hz⟩ := chk_info hck
      have hii := Option.some.inj (hi'.symm.trans hi)
      rw [hii] at hbi
      have hx1 := coerce_sl (opnd_rep hC h hX).1 hvx
      obtain ⟨ad, cc, es, hva, q1, q2, q3, q4⟩ := sl_of hx1
      have hy1 : RepV1 (bare x.V) (enc (.sl u) ys) (a.eval Y) := repV1_dec hys (opnd_rep hC h hY).1
      obtain ⟨⟨ad2, c2, es2, e2, r1, r2, r3⟩, _⟩ := hy1
      simp only [List.cons.injEq, and_true] at e2
      have ha' := args2 ha
      have ht' := tys2 ht
      have fin : ∀ (gg : Nat), (List.length xs = cc ∨ x.tg gg = some (.slice ad (List.length xs) cc, u.size)) →
          Yields P gl V0 w0 C.nt ⟨some d, .call c, ty, ps, af, gd⟩ a w (put (tr d) (.sl u (xs ++ ys) (.own gg)) (stripAll gg ρ)) := by
        intro gg htag Kc Q hK
        obtain ⟨v', w', V', hrun, hR, ad', c', rfl, k1, k2, k3⟩ := append_case (P := P) (tyy := ty) h hE hi hs hz hbi hs1 hs2 q1 q2 q3 r2 r3 r1 hbytes gg htag
        have hr : (execOp a.eval ⟨some d, .call c, ty, ps, af, gd⟩).run P w = .ok (.value (.slice ad' (xs ++ ys).length c')) w' := by
          simp [execOp, resolve, hf, invoke, builtin, ha', ht', hva, e2]
          simp only [List.length_append] at hrun
          rw [hrun]; simp
        unfold Oper.wp
        rw [hr]
        refine hK _ _ _ (hR.set hlt (rep_sl (x := { V := V', sg := x.sg, tg := fun q => if q = gg then some (.slice ad' (xs ++ ys).length c', u.size) else x.tg q }) k1 k2 k3 ?_) (men_none fun _ => rfl))
        show (if _ then _ else _) = _
        rw [if_pos rfl]
      split at e
      · cases e
      · cases e
      · cases e
      · obtain ⟨ad0, n0, e0⟩ := q4
        rw [hva] at e0
        cases e0
        exact ⟨_, _, e, fin d (.inl rfl)⟩
      · rename_i gg
        exact ⟨_, _, e, fin gg (.inr (by rw [← hva]; exact q4))⟩
  · cases e

/-- Any operation. -/
theorem evOp_sound (hC : CfgOk P gl C) (h : R gl V0 w0 C.nt x ρ a w) {o : Oper} (hd : dstOk C o = true) (e : evOp C ρ o K = some z) : Sound P gl C V0 w0 w ρ a o K z := by
  obtain ⟨dst, op, ty, ps, af, gd⟩ := o
  cases dst with
  | none =>
    cases op <;> simp only [evOp] at e <;> (try (cases e; done))
    case store T X Y => exact ev_store hC h (by simp only [evOp]; exact e)
  | some d =>
    have hlt : d < C.nt := by
      simp only [dstOk] at hd
      exact Nat.le_of_ble_eq_true hd
    cases op
    case move X => exact ev_move hC h hlt _ (.inl rfl) rfl (by simp only [evOp] at e; exact e)
    case assign X => exact ev_move hC h hlt _ (.inr rfl) rfl (by simp only [evOp] at e; exact e)
    case pick c A B => exact ev_pick hC h hlt e
    case alloc T => exact ev_alloc hC h hlt e
    case box T X => exact ev_box hC h hlt e
    case build T parts => exact ev_build hC h hlt e
    case buildSlice T len parts => exact ev_buildSlice hC h hlt e
    case load T X => exact ev_load hC h hlt e
    case nilCheck X => exact ev_nilCheck hC h hlt e
    case binOp op T X Y U => exact ev_binOp hC h hlt e
    case unOp op T X => exact ev_unOp hC h hlt e
    case convert S T X => exact ev_convert hC h hlt e
    case makeSlice T N M => exact ev_makeSlice hC h hlt e
    case slice T X lo hi mx => exact ev_slice hC h hlt e
    case fieldAddr S X f => exact ev_fieldAddr hC h hlt e
    case field S X f => exact ev_field hC h hlt e
    case indexAddr S X I => exact ev_indexAddr hC h hlt e
    case index T X I => exact ev_index hC h hlt e
    case extract X n => exact ev_extract hC h hlt e
    case call c =>
      simp only [evOp] at e
      split at e
      · split at e
        case h_2 => cases e
        rename_i f hf
        split at e
        case h_2 => cases e
        rename_i xc hx; exact ev_X hC h hlt (pickX_mem hx).1 e
      · rename_i hx; exact ev_call hC h hlt hx e
    case makeFunc fn fs cs =>
      cases fn
      case func f => exact ev_makeFunc hC h hlt e
      all_goals (simp only [evOp] at e; cases e)
    all_goals (simp only [evOp] at e; cases e)
end
end Go.Abs
