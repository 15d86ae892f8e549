/- The abstract machine, part 24: function values; calls that may write into what they are handed. Own text of this session. -/
import Derived.Test.YtkkkjcpfahhhpaaDoorAbs23
set_option linter.unusedVariables false
set_option linter.unusedSimpArgs false
namespace Go.Abs
open Go Go.RowKit

section
variable {P : Program} {gl : List (Nat × AVal)} {C : Cfg} {V0 V : Vis} {w0 : Base} {w : World} {x : Ctx} {ρ : St} {a : Act} {nt : Nat}
variable {α : Type} {K : St → Foot → Option α} {z : α} {d ty : Nat} {ps : String} {af : Array Edge} {gd : Option (Nat × Bool)}

theorem repCs_leafs {x : Ctx} : ∀ {A : AVal} {us : List Value}, leafs A = true → RepL x A us → RepCs x A us
  | .un, us, _, h => h
  | .pr p r, us, hl, ⟨v, l, e, h1, h2⟩ => by
    simp only [leafs] at hl
    split at hl
    case h_2 => cases hl
    rename_i hp
    refine ⟨[v], l, e, ?_, repCs_leafs hl h2⟩
    cases p <;> simp only [leaf] at hp <;> first | exact h1 | cases hp

theorem ev_makeFunc (hC : CfgOk P gl C) (h : R gl V0 w0 C.nt x ρ a w) (hlt : d < C.nt) {f : Nat} {fs cs : Array Operand}
    (e : evOp C ρ ⟨some d, .makeFunc (.func f) fs cs, ty, ps, af, gd⟩ K = some z) : Sound P gl C V0 w0 w ρ a ⟨some d, .makeFunc (.func f) fs cs, ty, ps, af, gd⟩ K z := by
  simp only [evOp] at e
  split at e
  case h_2 => cases e
  rename_i A B hA hB
  split at e
  case h_2 => cases e
  rename_i lA lB
  obtain ⟨r1, m1⟩ := args_repL hC h hA
  obtain ⟨r2, m2⟩ := args_repL hC h hB
  refine ⟨_, _, e, yields_val h rfl hlt (v := .func (.func f) (fs.map a.eval) (cs.map a.eval)) ?_ ?_ (fun k m => ?_)⟩
  · simp [execOp, Instr.makeFunc]
  · refine ⟨fs.toList.map a.eval, cs.toList.map a.eval, ?_, repCs_leafs lA r1, repCs_leafs lB r2⟩
    have e1 : fs.map a.eval = (fs.toList.map a.eval).toArray := by apply Array.ext'; simp
    have e2 : cs.map a.eval = (cs.toList.map a.eval).toArray := by apply Array.ext'; simp
    rw [e1, e2]
  · simp only [mentions] at m
    split at m
    · rename_i hm; exact m1 k hm
    · exact m2 k m

theorem in_stays {pins : List Nat} {j k : Nat} : ∀ {l : List (Nat × Nat)}, (j, k) ∈ stays pins l ↔ (j, k) ∈ l ∧ k ∈ pins
  | [] => by simp [stays]
  | (q, p) :: l => by
    simp only [stays]
    split
    · rename_i hp; rw [mem_iff] at hp
      simp only [List.mem_cons, Prod.mk.injEq, in_stays (l := l)]
      exact ⟨fun h => h.elim (fun h => ⟨.inl h, by rw [h.2]; exact hp⟩) (fun h => ⟨.inr h.1, h.2⟩), fun h => h.1.imp id (fun h' => ⟨h', h.2⟩)⟩
    · rename_i hp
      simp only [List.mem_cons, Prod.mk.injEq, in_stays (l := l)]
      refine ⟨fun h => ⟨.inr h.1, h.2⟩, fun h => ⟨h.1.resolve_left fun h' => ?_, h.2⟩⟩
      have := h.2; rw [h'.2] at this; rw [mem_iff.2 this] at hp; cases hp
theorem in_goes {pins : List Nat} {j : Nat} : ∀ {l : List (Nat × Nat)}, j ∈ goes pins l ↔ ∃ k, (j, k) ∈ l ∧ k ∉ pins
  | [] => by simp [goes]
  | (q, p) :: l => by
    simp only [goes]
    split
    · rename_i hp; rw [mem_iff] at hp
      rw [in_goes (l := l)]
      simp only [List.mem_cons, Prod.mk.injEq]
      exact ⟨fun ⟨k, h1, h2⟩ => ⟨k, .inr h1, h2⟩, fun ⟨k, h1, h2⟩ => ⟨k, h1.resolve_left fun h' => h2 (by rw [h'.2]; exact hp), h2⟩⟩
    · rename_i hp
      have hp' : p ∉ pins := fun h => by rw [mem_iff.2 h] at hp; cases hp
      rw [List.mem_cons, in_goes (l := l)]
      simp only [List.mem_cons, Prod.mk.injEq]
      refine ⟨fun h => h.elim (fun h => ⟨p, .inl ⟨h, rfl⟩, hp'⟩) (fun ⟨k, h1, h2⟩ => ⟨k, .inr h1, h2⟩), fun ⟨k, h1, h2⟩ => ?_⟩
      rcases h1 with ⟨rfl, rfl⟩ | h1
      · exact .inl rfl
      · exact .inr ⟨k, h1, h2⟩

theorem fresh_spec {n : Nat} : ∀ {l : List Nat}, fresh n ρ l = true → ∀ j ∈ l, get ρ (br j) = none ∧ j < n
  | [], _, j, h => by cases h
  | q :: l, hf, j, h => by
    simp only [fresh] at hf
    split at hf
    case h_2 => cases hf
    rename_i h1 h2
    rcases List.mem_cons.1 h with rfl | h
    · exact ⟨h1, Nat.le_of_ble_eq_true h2⟩
    · exact fresh_spec hf j h
theorem allLt_spec {n : Nat} : ∀ {l : List Nat}, allLt n l = true → ∀ j ∈ l, j < n
  | [], _, j, h => by cases h
  | q :: l, hf, j, h => by
    simp only [allLt] at hf
    split at hf
    case h_2 => cases hf
    rename_i h1
    rcases List.mem_cons.1 h with rfl | h
    · exact Nat.le_of_ble_eq_true h1
    · exact allLt_spec hf j h
theorem allGe_spec {n : Nat} : ∀ {l : List Nat}, allGe n l = true → ∀ j ∈ l, n ≤ j
  | [], _, j, h => by cases h
  | q :: l, hf, j, h => by
    simp only [allGe] at hf
    split at hf
    case h_2 => cases hf
    rename_i h1
    rcases List.mem_cons.1 h with rfl | h
    · exact Nat.le_of_ble_eq_true h1
    · exact allGe_spec hf j h

theorem repL_len {x : Ctx} : ∀ {A : AVal} {vs : List Value}, RepL x A vs → vs.length = lenA A
  | .un, _, h => by rw [show _ = [] from h]; rfl
  | .pr p r, _, ⟨v, l, e, _, h⟩ => by subst e; simp [lenA, repL_len h]

theorem callee_rep {x : Ctx} {F A B : AVal} {f : Nat} {v : Value} (e : calleeOf F = some (f, A, B)) (h : RepV x F v) :
    ∃ us vs : List Value, v = .func (.func f) us.toArray vs.toArray ∧ RepL x A us ∧ RepL x B vs ∧ ∀ k, mentions k A = true ∨ mentions k B = true → mentions k F = true := by
  cases F <;> simp only [calleeOf] at e <;> (try (cases e; done))
  case fn g =>
    cases e
    have : v = .func (.func f) #[] #[] := by simpa [RepV, RepV1, RepCs] using h
    exact ⟨[], [], this, rfl, rfl, fun k m => by simp [mentions] at m⟩
  case cl g p q =>
    split at e
    case h_2 => cases e
    rename_i l1 l2
    cases e
    obtain ⟨us, vs, e1, h1, h2⟩ := h
    simp only [List.cons.injEq, and_true] at e1
    refine ⟨us, vs, e1, repL_leafs l1 h1, repL_leafs l2 h2, fun k m => ?_⟩
    simp only [mentions]
    rcases m with m | m
    · rw [m]
    · split
      · rfl
      · exact m

theorem resChain_rep {x : Ctx} {σ : St} {a1 : Act} {rs : List Value} (hs : ∀ i A, get σ (tr i) = some A → RepV x A (a1.tmps.getD i undef)) (ha : a1.tmps = rs.toArray) :
    ∀ {n i : Nat} {A : AVal}, resChain σ i n = some A → i + n = rs.length → RepL x A (rs.drop i) ∧ (∀ k, mentions k A = true → ∃ r B, get σ r = some B ∧ mentions k B = true)
  | 0, i, A, e, hl => by cases e; exact ⟨List.drop_eq_nil_of_le (by omega), fun k m => by simp [mentions] at m⟩
  | n + 1, i, A, e, hl => by
    simp only [resChain] at e
    split at e
    case h_2 => cases e
    rename_i B hB
    split at e
    case h_2 => cases e
    rename_i r _ hr
    cases e
    obtain ⟨h1, h2⟩ := resChain_rep hs ha hr (by omega)
    have hi : i < rs.length := by omega
    refine ⟨⟨rs[i], rs.drop (i + 1), List.drop_eq_getElem_cons hi, ?_, h1⟩, fun k m => ?_⟩
    · have := hs i B hB
      rw [ha, Array.getD_eq_getD_getElem?, List.getElem?_toArray, List.getElem?_eq_getElem hi] at this
      exact this
    · simp only [mentions] at m
      split at m
      · rename_i hm; exact ⟨_, B, hB, hm⟩
      · exact h2 k m

theorem repV1_one {x : Ctx} {A : AVal} {v : Value} (h : oneVal A = true) (r : RepV x A v) : RepV1 x A v := by
  cases A <;> simp only [oneVal] at h <;> first | exact r | cases h
theorem ren_one {m : List (Nat × Nat)} {A : AVal} (h : oneVal A = true) : oneVal (renA m A) = true := by
  cases A with
  | bx j o => simp only [renA]; split <;> rfl
  | bi j i o => simp only [renA]; split <;> rfl
  | os j n => simp only [renA]; split <;> rfl
  | sl t xs g => cases g <;> rfl
  | tu a => cases h
  | nd => cases h
  | _ => rfl

theorem resChain_one {σ : St} : ∀ {n i : Nat} {A : AVal}, resChain σ i n = some A → ∀ {b : List (Nat × Nat)} {x : Ctx} {rs : List Value}, RepL x (renA b A) rs → RepTup x (renA b A) rs
  | 0, i, A, e, b, x, rs, h => by cases e; exact h
  | n + 1, i, A, e, b, x, rs, h => by
    simp only [resChain] at e
    split at e
    case h_2 => cases e
    rename_i B hB
    split at e
    case h_2 => cases e
    rename_i r h1 hr
    cases e
    obtain ⟨v, l, e, q, s⟩ := h
    exact ⟨v, l, e, repV1_one (ren_one h1) q, resChain_one hr s⟩

theorem resX_rep {x : Ctx} {X : XSpec} {ch A : AVal} {rs : List Value} (e : resX X ch = some A) (h : RepTup x ch rs) : RepV x A (retV rs) ∧ ∀ k, mentions k A = true → mentions k ch = true := by
  unfold resX at e
  split at e
  · split at e
    case h_2 => cases e
    cases e
    obtain ⟨v, l, rfl, h1, h2⟩ := h
    have : l = [] := h2
    subst this
    exact ⟨repV_of1' h1, fun k m => by simp only [mentions, m]⟩
  · split at e
    case h_2 => cases e
    cases e
    have h' := h
    obtain ⟨v, l, rfl, h1, v2, l2, rfl, h2, h3⟩ := h
    refine ⟨⟨_, ?_, h'⟩, fun k m => m⟩
    unfold retV
    rw [dif_neg (by simp)]
  · split at e
    case h_2 => cases e
    cases e
    have : rs = [] := h
    subst this
    exact ⟨⟨[], rfl, rfl⟩, fun k m => m⟩
  · cases e
where repV_of1' {x : Ctx} {A : AVal} {v : Value} (h : RepV1 x A v) : RepV x A v := by cases A <;> first | exact h | exact h.elim

theorem ev_X (hC : CfgOk P gl C) (h : R gl V0 w0 C.nt x ρ a w) (hlt : d < C.nt) {c : Call} {xc : XCall} (hx : (d, xc) ∈ C.calls)
    (e : evX C ρ d xc c K = some z) : Sound P gl C V0 w0 w ρ a ⟨some d, .call c, ty, ps, af, gd⟩ K z := by
  unfold evX at e
  split at e
  case h_2 => cases e
  rename_i g hg
  split at e
  case h_2 => cases e
  rename_i v hok hin
  cases hp : xc.X.pre v with
  | false => rw [hp] at e; cases e
  | true =>
    rw [hp] at e; simp only [cond_true] at e
    split at e
    case h_2 => cases e
    rename_i ρ3 hout
    -- the tables
    unfold xok at hok
    split at hok
    case h_2 => cases hok
    rename_i o1 o2
    split at hok
    case h_2 => cases hok
    rename_i hfr
    have hlt' := allLt_spec hok
    have hfr' := fresh_spec hfr
    -- what is handed in
    unfold xin at hin
    split at hin
    case h_2 => cases hin
    rename_i F ar bs hF hA hB
    split at hin
    case h_2 => cases hin
    rename_i f A B hcal
    split at hin
    case h_2 => cases hin
    rename_i hff hpin
    rw [beq_true] at hff; subst hff
    rw [Bool.and_eq_true, beq_true] at hpin
    obtain ⟨hnp, hpin⟩ := hpin
    obtain ⟨us, vs, hval, r1, r2, _⟩ := callee_rep hcal (opnd_rep hC h hF).1
    obtain ⟨r3, _⟩ := args_repL hC h hA
    have hrl : RepL x (appA A (appA ar B)) (us ++ (c.args.toList.map a.eval ++ vs)) := repL_app r1 (repL_app r3 r2)
    generalize hvs : us ++ (c.args.toList.map a.eval ++ vs) = av at hrl
    let D : Nat → Prop := fun bl => ∃ j k sz, (j, k) ∈ xc.ins ∧ x.sg j = some (bl, sz) ∧ sz.2 ≠ 0
    let pin : Nat → Option (Nat × Nat × Nat) := fun k => if k ∈ xc.X.pins then (renC xc.ins x).sg k else none
    have hpk : ∀ k p, pin k = some p → k ∈ xc.X.pins ∧ (renC xc.ins x).sg k = some p := fun k p e => by
      have e' : (if k ∈ xc.X.pins then (renC xc.ins x).sg k else none) = some p := e
      split at e'
      · rename_i hk; exact ⟨hk, e'⟩
      · cases e'
    have hR := h.ren (V1 := x.V) (B := ⟨w, D, pin⟩) o1 hB hrl (VLe.refl _) (fun _ _ _ _ => rfl) (fun j k bl sz h1 h2 h3 => .inr ⟨j, k, sz, h1, h2, h3⟩) (Base.But.refl ⟨w, D, pin⟩)
      (by
        intro g A hg
        obtain ⟨t, dd, es, rfl, h1, h2⟩ := h.good.gok g A hg
        exact ⟨t, dd, es, rfl, h1.mono h.good.grow, h2.mono h.good.grow⟩)
      (fun k p e => (hpk k p e).2) (fun k p e => by rw [repL_len hrl, hnp]; exact allGe_spec hpin k (hpk k p e).1)
    obtain ⟨x0, hR0⟩ := hR.adapt hin
    obtain ⟨hxok, fn, hfn, hbody, hname⟩ := hC.calls d xc hx
    have hcall := hxok x.V w D pin x0 v av hp ((repL_len hrl).trans hnp) (fun k p e => (hpk k p e).1) hR0
    have hrun : (execOp a.eval ⟨some d, .call c, ty, ps, af, gd⟩).run P w = .ok (.enter xc.f av.toArray) w := by
      have hnn : ¬ fn.name = "runtime.NumGoroutine" := by simpa using hname
      obtain ⟨cb, hb⟩ : ∃ c, fn.body = some c := Option.isSome_iff_exists.1 hbody
      have hav : us.toArray ++ c.args.map a.eval ++ vs.toArray = av.toArray := by
        rw [← hvs]; apply Array.ext'; simp
      simp only [execOp, resolve, hg, hval, Deferred.ofValue, Sem.run_bind, Sem.run_pure, Result.andThen_ok, invoke, callFunc, run_program, hfn, hnn, hb]
      first
        | (simp [hname, hav]; done)
        | (simp [hname, hb, hnn, ← hav])
    refine ⟨_, _, e, fun Kc Q hK => ?_⟩
    unfold Oper.wp
    rw [hrun]
    refine Calls.mono hcall ?_
    rintro en w' ⟨x1, rs, rfl, hnr, hR1⟩
    -- behind it
    unfold xout at hout
    split at hout
    case h_2 => cases hout
    rename_i ch hch
    split at hout
    case h_2 => cases hout
    rename_i RA hRA
    split at hout
    case h_2 => cases hout
    rename_i ρ' hos
    cases hout
    obtain ⟨x2, hR2, v2, t2, g2, k2⟩ := h.consume hok
    have hR1' : R gl x2.V ⟨w, D, pin⟩ rs.length x1 (encH xc.X.hout (xc.X.val v)) { tmps := rs.toArray, defers := [] } w' := by rw [v2]; exact hR1
    have hDb : ∀ j k, (j, k) ∈ xc.ins → k ∈ xc.X.pins → (k, j) ∈ swapL (stays xc.X.pins xc.ins) ++ xc.news := fun j k h1 h2 => List.mem_append_left _ (in_swap.2 (in_stays.2 ⟨h1, h2⟩))
    have hbD : ∀ k j, (k, j) ∈ swapL (stays xc.X.pins xc.ins) ++ xc.news → ((j, k) ∈ xc.ins ∧ k ∈ xc.X.pins) ∨ (get ρ (br j) = none ∧ j < C.nt) := fun k j hm => by
      rcases List.mem_append.1 hm with hm | hm
      · exact .inl (in_stays.1 (in_swap.1 hm))
      · exact .inr (hfr' j (in_fsts (in_swap.2 hm)))
    have hpins : ∀ j k p, (j, k) ∈ xc.ins → k ∈ xc.X.pins → x.sg j = some p → x1.sg k = some p := fun j k p h1 h2 h3 => by
      refine hR1.good.pin k p ?_
      show (if k ∈ xc.X.pins then (renC xc.ins x).sg k else none) = some p
      rw [if_pos h2, renC_sg o1 ((one_in o1).2 h1)]; exact h3
    obtain ⟨x3, hR3, v3, s3⟩ := hR2.join hR1' o2 hos
      (fun bl ⟨j, k, sz, h1, h2, h3⟩ => by obtain ⟨q1, q2, _⟩ := h.good.sgs j bl sz h2 h3; exact ⟨q1, q2⟩)
      (fun j bl sz h1 h2 ⟨j', k, sz', h3, h4, h5⟩ => by
        have hj : j ∉ goes xc.X.pins xc.ins := fun hm => by rw [g2 j hm] at h1; cases h1
        rw [k2 j hj] at h1
        have := h.good.inj _ _ _ _ _ h1 h4 h2 h5
        subst this
        refine ⟨k, hDb _ _ h3 ?_⟩
        apply Classical.byContradiction
        intro hk
        exact hj (in_goes.2 ⟨k, h3, hk⟩))
      (fun g bl n cc s h1 h2 ⟨j, k, sz, h3, h4, h5⟩ => by
        rw [t2] at h1
        obtain ⟨ad', n', c', e1, _, e2⟩ := h.good.tag g _ _ h1
        cases e1
        obtain ⟨b', cur, E2, a1, _, _, _, _, a6⟩ := e2.resolve_left h2
        cases a1
        exact a6 j sz h5 h4)
      (fun k j A hm hA => by
        rcases hbD k j hm with ⟨h1, h2⟩ | ⟨h1, h2⟩
        · have hj : j ∉ goes xc.X.pins xc.ins := fun hg => by
            obtain ⟨k', q1, q2⟩ := in_goes.1 hg
            have w1 := (one_in o1).2 q1; have w2 := (one_in o1).2 h1
            rw [w1] at w2; cases w2; exact q2 h2
          obtain ⟨bl, sz, q1, _⟩ := hR2.good.box j A hA
          rw [q1]
          rw [k2 j hj] at q1
          exact hpins j k _ h1 h2 q1
        · rw [consume_none h1] at hA; cases hA)
      (fun j p hp k hm => by
        have hj := h.pk j p hp
        rcases hbD k j hm with ⟨h1, h2⟩ | ⟨h1, h2⟩
        · exact hpins j k p h1 h2 (h.good.pin j p hp)
        · omega)
    have hs3 : ∀ j k, look (swapL (stays xc.X.pins xc.ins) ++ xc.news) j = some k → x3.sg k = x1.sg j := fun j k e => s3 j k e
    obtain ⟨q1, q2⟩ := resChain_rep (x := x1) (fun i A e => hR1.slots i A e) rfl hch (by rw [Nat.zero_add]; exact hnr.symm)
    rw [List.drop_zero] at q1
    have q3 : RepL x3 (renA (swapL (stays xc.X.pins xc.ins) ++ xc.news) ch) rs := RepL.ren (x := x1) (x' := x3) (by rw [v3]; exact VLe.refl _) hs3 q1
    obtain ⟨q4, q5⟩ := resX_rep hRA (resChain_one hch q3)
    have hn : nodupN (fsts (swapL (swapL (stays xc.X.pins xc.ins) ++ xc.news))) = true := by
      unfold oneOne at o2; split at o2
      · exact o2
      · cases o2
    obtain ⟨_, _, z3⟩ := get_outSt hos
    exact hK _ _ _ (hR3.set hlt q4 (fun k m => by
      obtain ⟨j, m1, _⟩ := ren_men (q5 k m)
      obtain ⟨A', _, g2⟩ := z3 hn j k ((one_in o2).1 m1)
      exact ⟨_, g2⟩))

end
end Go.Abs
