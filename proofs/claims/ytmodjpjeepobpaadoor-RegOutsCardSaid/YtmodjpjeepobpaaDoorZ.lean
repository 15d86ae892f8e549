/- Own text of this session: a part of the proof; no condition of its own. -/
import Derived.Test.YtmodjpjeepobpaaDoorY
import Derived.Test.YtmodjpjeepobpaaDoorOrd
set_option linter.unusedVariables false
set_option linter.unusedSimpArgs false
set_option maxRecDepth 100000
namespace Go.L13
open Go Go.Abs Go.Inc
theorem regKept_app (m : Int) (past : List Deed) (d : Deed) : regKept m (past ++ [d]) = regKeep m (regKept m past) d := by simp [regKept, List.foldl_append]
theorem act_keep {m : Int} (hm : regOwn m = true) {d : Deed} (hf : fits m d.2.1 d.2.2.1 = true) (v : Val) (past : List Deed) (hv : regKept m past = v) :
    regAct m d.2.1 d.2.2.1 v = (regKeep m v d, regOut m past d) := by
  have hre : regKeep m v d = bif d.2.1 == 1 then (bif m == 9 then (bif v == none' || lessV v (arg0 d) then arg0 d else v) else arg0 d) else bif d.2.1 == 3 && v == arg0 d then arg1 d else v := rfl
  have ha : regAct m d.2.1 d.2.2.1 v = bif d.2.1 == 2 then (v, [v]) else bif d.2.1 == 3 then (bif v == arg0 d then (arg1 d, [yesV true]) else (v, [yesV false]))
    else bif m == 9 then (bif v == none' || decide (cmpV (arg0 d) v > 0) then arg0 d else v, []) else (arg0 d, []) := rfl
  have ho' : regOut m past d = bif d.2.1 == 2 then [v] else bif d.2.1 == 3 then [yesV (v == arg0 d)] else [] := by rw [← hv]; rfl
  rw [ha, hre, ho', cmpV_pos]
  rcases ops_reg hm hf with ⟨ho, _⟩ | ⟨ho, _⟩ | ⟨ho, _⟩ <;> rw [ho]
  · cases (m == 9) <;> rfl
  · rfl
  · cases (v == arg0 d) <;> rfl
theorem rstep_may {m : Int} (hm : regOwn m = true) (past : List Deed) (d : Deed) :
    regStep (regState m past) d.1 d.2.1 d.2.2.1 = bif mayD m d then (regState m (past ++ [d]), regOut m past d, true, ()) else (noS, [], false, ()) := by
  unfold regStep stepOk
  show (bif (regOwn m && (takes 0 d.1 && fits m d.2.1 d.2.2.1)) then (setOne (regState m past) (regAct m d.2.1 d.2.2.1 (regKept m past)).1, (regAct m d.2.1 d.2.2.1 (regKept m past)).2, true, ()) else _) = _
  rw [hm, takes0, Bool.true_and]
  unfold mayD
  cases hc : (name d.1 && fits m d.2.1 d.2.2.1) with
  | false => rfl
  | true =>
    have hf : fits m d.2.1 d.2.2.1 = true := by rw [Bool.and_eq_true] at hc; exact hc.2
    rw [act_keep hm hf _ past rfl]
    simp only [cond_true]
    unfold regState
    rw [regKept_app]; rfl
theorem okR_may {m : Int} (hm : regOwn m = true) {d : Deed} (hd : mayD m d = true) : okRDeed d = true := by
  simp only [mayD, Bool.and_eq_true] at hd
  unfold okRDeed
  rcases ops_reg hm hd.2 with ⟨ho, hl⟩ | ⟨ho, hl⟩ | ⟨ho, hl⟩ <;> rw [ho, hl] <;> rfl
theorem w3 (N : Nat) {β : Type} (x0 : Bool → Option β) (x1 : Unit → Option β) (m : Int) (hm : regOwn m = true) (l : List Deed) (hok : ∀ d ∈ l, okDeed d = true ∧ d.2.2.1.length ≤ 10) (hl : l.length ≤ 40) :
    ∀ (n k : Nat) (past : List Deed), l.length - k < n → past.length ≤ k → okRPast m past = true →
    W3_12 N x0 x1 n m m (regKept m past).1 (regKept m past).2.1 (regKept m past).2.2.1 0 [] past l (l.length : Int) (k : Int) = x1 ()
  | 0, k, _, h, _, _ => by omega
  | n + 1, k, past, h, hk, hp => by
    unfold W3_12
    by_cases hd : k < l.length
    · have hmem := getD_mem (d := (((0 : Int), ((0 : Int), (ByteArray.empty, ()))), ((0 : Int), (([] : List Val), ())))) hd
      rw [cond_dec (by omega), cond_t (in_dec hd), Int.toNat_natCast, wi64 _ (by omega) (by omega), show ((k : Int) + 1) = ((k + 1 : Nat) : Int) by omega,
        show ((m, (((regKept m past).1, ((regKept m past).2.1, ((regKept m past).2.2.1, ()))), ((0 : Int), (([] : List Val), ())))) : State) = regState m past from rfl]
      generalize List.getD l k (((0 : Int), ((0 : Int), (ByteArray.empty, ()))), ((0 : Int), ([], ()))) = d at hmem
      obtain ⟨ho, h10⟩ := hok d hmem
      obtain ⟨hv, hvs⟩ := okDeed_parts ho
      have q1 : okQStep (regState m past) d.1 d.2.1 d.2.2.1 = true := by
        simp only [okQStep, okPop, okL, Bool.and_eq_true, decide_eq_true_eq]
        exact ⟨by show ([] : List Val).length ≤ 1000000; simp, hv, hvs, by omega⟩
      have q2 : okMay m d = true := by simp only [okMay, Bool.and_eq_true, decide_eq_true_eq]; exact ⟨ho, by omega⟩
      rw [q1, q2, rstep_may hm]
      cases hmay : mayD m d with
      | false =>
        simp only [cond_true, cond_false]
        exact w3 N x0 x1 m hm l hok hl n (k + 1) past (by omega) (by omega) hp
      | true =>
        have hr := okR_may hm hmay
        have hp1 : okRPast1 m past d = true := by simp only [okRPast1, Bool.and_eq_true]; exact ⟨hp, hr⟩
        have hp' : okRPast m (past ++ [d]) = true := by
          obtain ⟨a1, a2⟩ := okRPast_iff.1 hp
          refine okRPast_iff.2 ⟨by simp only [List.length_append, List.length_cons, List.length_nil]; omega, fun e he => ?_⟩
          rcases List.mem_append.1 he with he | he
          · exact a2 e he
          · obtain rfl := List.mem_singleton.1 he; exact hr
        have q4 : ∀ o : List Val, o.length ≤ 1000000 → okSame2 o o = true := fun o h => by simp only [okSame2, Bool.and_eq_true, decide_eq_true_eq]; exact ⟨h, h⟩
        have q5 : (regOut m past d).length ≤ 1000000 := by
          unfold regOut
          cases (d.2.1 == 2) <;> cases (d.2.1 == 3) <;> simp
        have q6 : okSS (regState m (past ++ [d])) (regState m (past ++ [d])) = true := rfl
        simp only [cond_true, cond_false, hp1, q4 _ q5, sameV_self, sameS_self, hp', q6, Bool.not_true, beq_self_eq_true]
        rw [cond_dec (by simp only [List.length_cons, List.length_nil]; omega)]
        exact w3 N x0 x1 m hm l hok hl n (k + 1) (past ++ [d]) (by omega) (by simp only [List.length_append, List.length_cons, List.length_nil]; omega) hp'
    · rw [cond_dec' (by omega)]
def fuel3 (m : Int) (l : List Deed) : Nat := 50
theorem plain3 (m : Int) (l : List Deed) (h : okPlays m l = true) : F3 (fuel3 m l) m l = some (true, ()) := by
  have h' : okDs l = true := h
  unfold F3
  rw [regNew_ok, h']
  unfold regNew
  cases hm : regOwn m with
  | false => rfl
  | true =>
    have hp0 : okRPast m [] = true := rfl
    have e1 : okSS (mkS m none' 0 []) noS = true := rfl
    have e2 : okSS (mkS m none' 0 []) (regState m []) = true := rfl
    have e3 : sameS (mkS m none' 0 []) (regState m []) = true := sameS_self _
    have e4 : ((0 : Int), (((0 : Int), ((0 : Int), (ByteArray.empty, ()))), ((0 : Int), (([] : List Val), ())))) = noS := rfl
    simp only [cond_true, cond_false, beq_self_eq_true, Bool.not_true, hp0]
    rw [e2, e3]
    cases hg : greatD l with
    | true =>
      simp only [cond_true]
      rw [e4, e1]
      cases sameS (mkS m none' 0 []) noS <;> rfl
    | false =>
      simp only [cond_true, cond_false, Bool.not_true]
      rw [greatD_eq, Bool.or_eq_false_iff, decide_eq_false_iff_not, List.any_eq_false] at hg
      refine w3 _ _ _ m hm l (fun d hd => ⟨okDs_mem h' hd, ?_⟩) (by omega) 50 0 [] (by omega) (by simp) hp0
      have := hg.1 d hd
      simp only [bigD, Bool.or_eq_true, decide_eq_true_eq, not_or] at this
      omega
theorem takes4 (v : Val) : takes 4 v = name v := by unfold takes name; cases right v <;> cases named v <;> rfl
/-- What a register that keeps the greatest keeps behind a write. -/
def top (one v : Val) : Val := bif one == none' || lessV one v then v else one
theorem step_max (one v : Val) (hv : name v = true) : regStep (mkS 9 one 0 []) (num' 1) 1 [v] = (mkS 9 (top one v) 0 [], [], true, ()) := by
  have e : sin 9 1 = some [4] := by decide +kernel
  have hf : fits 9 1 [v] = true := by unfold fits; rw [e]; simp [takesAll, takes4, hv]
  have ht : takes 0 (num' 1) = true := by decide +kernel
  unfold regStep stepOk
  show (bif (regOwn 9 && (takes 0 (num' 1) && fits 9 1 [v])) then (setOne (mkS 9 one 0 []) (bif one == none' || decide (cmpV v one > 0) then v else one), [], true, ()) else _) = _
  rw [ht, hf, cmpV_pos]; rfl
theorem step_read (one : Val) : regStep (mkS 9 one 0 []) (num' 1) 2 [] = (mkS 9 one 0 [], [one], true, ()) := by
  have e : sin 9 2 = some [] := by decide +kernel
  have hf : fits 9 2 [] = true := by unfold fits; rw [e]; rfl
  have ht : takes 0 (num' 1) = true := by decide +kernel
  unfold regStep stepOk
  show (bif (regOwn 9 && (takes 0 (num' 1) && fits 9 2 [])) then (setOne (mkS 9 one 0 []) one, [one], true, ()) else _) = _
  rw [ht, hf]; rfl
theorem name_less {v : Val} (h : name v = true) : lessV v none' = false := by
  have h1 : v.1 = 1 ∨ v.1 = 2 := by
    simp only [name, Bool.and_eq_true, named, Bool.or_eq_true, beq_iff_eq] at h
    exact h.2
  have h2 : (v.1 != none'.1) = true := bne_iff_ne.2 (show v.1 ≠ 0 by omega)
  have h3 : decide (v.1 < none'.1) = false := decide_eq_false (show ¬ v.1 < 0 by omega)
  unfold lessV
  rw [h2, h3]; rfl
theorem top_ok {one v : Val} (hv : name v = true) : lessV (top one v) one = false ∧ lessV (top one v) v = false ∧ (top one v = v ∨ (top one v = one ∧ one ≠ none')) := by
  unfold top
  cases h1 : (one == none') with
  | true =>
    obtain rfl := eq_of_beq h1
    exact ⟨name_less hv, lessV_self v, .inl rfl⟩
  | false =>
    cases h2 : lessV one v with
    | true => exact ⟨lessV_asymm h2, lessV_self v, .inl rfl⟩
    | false => exact ⟨lessV_self one, h2, .inr ⟨rfl, fun e => by rw [e, beq_self_eq_true] at h1; cases h1⟩⟩
theorem w4_19 (N : Nat) {β : Type} (x3 : List Val → Int → Int → ByteArray → Int → Int → Int → ByteArray → Int → List Val → Int → Int → ByteArray → Int → Int → Int → ByteArray → Int → List Val → List Val → Bool → List Val → Int → Int → Option β)
    (L : List Val) (who : Val) (s : State) (last : Val) (t : State) (o : Val) (l : List Val) (a b : Int) (q : List Val) (hq : q.length ≤ 1000) : ∀ (n k : Nat) (am : Bool), q.length - k < n →
    W4_19 N x3 n L who.1 who.2.1 who.2.2.1 s.1 s.2.1.1 s.2.1.2.1 s.2.1.2.2.1 s.2.2.1 s.2.2.2.1 last.1 last.2.1 last.2.2.1 t.1 t.2.1.1 t.2.1.2.1 t.2.1.2.2.1 t.2.2.1 t.2.2.2.1 [o] am l a b q (q.length : Int) (k : Int) =
      x3 L who.1 who.2.1 who.2.2.1 s.1 s.2.1.1 s.2.1.2.1 s.2.1.2.2.1 s.2.2.1 s.2.2.2.1 last.1 last.2.1 last.2.2.1 t.1 t.2.1.1 t.2.1.2.1 t.2.1.2.2.1 t.2.2.1 t.2.2.2.1 [o] (am || (q.drop k).any (· == o)) l a b
  | 0, k, am, h => by omega
  | n + 1, k, am, h => by
    have ih := fun am' => w4_19 N x3 L who s last t o l a b q hq n (k + 1) am'
    unfold W4_19
    by_cases hd : k < q.length
    · rw [cond_dec (by omega), cond_t (in_dec hd), Int.toNat_natCast, drop_getD (d := ((0 : Int), ((0 : Int), (ByteArray.empty, ())))) hd, wi64 _ (by omega) (by omega), show ((k : Int) + 1) = ((k + 1 : Nat) : Int) by omega, ih _ (by omega), ih _ (by omega), List.any_cons]
      have e : ∀ v : Val, ((v.1 == (List.getD [o] (Int.toNat 0) ((0 : Int), ((0 : Int), (ByteArray.empty, ())))).1) && ((v.2.1 == (List.getD [o] (Int.toNat 0) ((0 : Int), ((0 : Int), (ByteArray.empty, ())))).2.1) && ((v.2.2.1 == (List.getD [o] (Int.toNat 0) ((0 : Int), ((0 : Int), (ByteArray.empty, ())))).2.2.1) && true))) = (v == o) := fun v => veq v o
      rw [e]
      cases am with
      | true => rfl
      | false => rfl
    · rw [cond_dec' (by omega), List.drop_eq_nil_of_le (by omega), List.any_nil, Bool.or_false]
theorem w4_9 (N : Nat) (hN : 50 ≤ N) {β : Type} (x0 : Bool → Option β) (x1 : Unit → Option β) (y : Option β) (hx0 : x0 true = y) (hx1 : x1 () = y) (l : List Val) (hok : okVs l = true) (hl : l.length ≤ 40) :
    ∀ (n k : Nat) (one : Val), l.length - k < n → (one = none' ∨ one ∈ l.take k) →
    W4_9 N x0 x1 n l (num' 1).1 (num' 1).2.1 (num' 1).2.2.1 9 one.1 one.2.1 one.2.2.1 0 [] one.1 one.2.1 one.2.2.1 l (l.length : Int) (k : Int) = y
  | 0, k, one, h, _ => by omega
  | n + 1, k, one, h, hone => by
    unfold W4_9
    by_cases hd : k < l.length
    · have hmem := getD_mem (d := ((0 : Int), ((0 : Int), (ByteArray.empty, ())))) hd
      have hv := (okVs_iff.1 hok).2 _ hmem
      have htk := take_at (d := ((0 : Int), ((0 : Int), (ByteArray.empty, ())))) hd
      rw [cond_dec (by omega), cond_t (in_dec hd), Int.toNat_natCast, wi64 _ (by omega) (by omega), show ((k : Int) + 1) = ((k + 1 : Nat) : Int) by omega]
      generalize List.getD l k ((0 : Int), ((0 : Int), (ByteArray.empty, ()))) = v at hmem hv htk
      generalize hc : decide (((v.2.2.1.size : Nat) : Int) > (100 : Int)) = c
      cases c with
      | true => exact hx0
      | false =>
        rw [hv]
        cases hn : name v with
        | false => exact hx0
        | true =>
          have e6 : (((num' 1).1, ((num' 1).2.1, ((num' 1).2.2.1, ()))) : Val) = num' 1 := rfl
          have e7 : ((one.1, (one.2.1, (one.2.2.1, ()))) : Val) = one := rfl
          have q1 : okQStep (mkS 9 one 0 []) (num' 1) 1 [v] = true := by
            simp only [okQStep, okPop, okL, Bool.and_eq_true, decide_eq_true_eq]
            exact ⟨by show ([] : List Val).length ≤ 1000000; simp, by decide +kernel, okVs_iff.2 ⟨by simp [maxLen], by simpa using hv⟩, by simp⟩
          have q2 : ∀ w, okQStep (mkS 9 w 0 []) (num' 1) 2 [] = true := fun w => by
            simp only [okQStep, okPop, okL, Bool.and_eq_true, decide_eq_true_eq]
            exact ⟨by show ([] : List Val).length ≤ 1000000; simp, by decide +kernel, rfl, by simp⟩
          obtain ⟨t1, t2, t3⟩ := top_ok (one := one) hn
          have hg : ∀ w : Val, List.getD [w] (Int.toNat 0) ((0 : Int), ((0 : Int), (ByteArray.empty, ()))) = w := fun _ => rfl
          have hz : ∀ w : Val, (decide ((0 : Int) ≤ 0) && decide ((0 : Int) < ((List.length [w] : Nat) : Int))) = true := fun _ => rfl
          have hone1 : ∀ w : Val, (((List.length [w] : Nat) : Int) != 1) = false := fun _ => rfl
          simp only [e6, e7]
          rw [show ((9 : Int), (one, ((0 : Int), (([] : List Val), ())))) = mkS 9 one 0 [] from rfl, q1, step_max one v hn]
          simp only [cond_true, q2, step_read, Bool.not_true, cond_false, hone1, hz, hg, t1, t2]
          rw [cond_t (by simp only [Bool.and_eq_true, decide_eq_true_eq]; omega)]
          have hsub : Go.Abs.sub l 0 ((k + 1 : Nat) : Int) = l.take (k + 1) := by simp [Go.Abs.sub]
          have hlen : (l.take (k + 1)).length ≤ 1000 := by rw [List.length_take]; omega
          have hmemT : top one v ∈ l.take (k + 1) := by
            rw [htk]
            rcases t3 with e | ⟨e, hne⟩
            · rw [e]; simp
            · rw [e]; exact List.mem_append_left _ (hone.resolve_left hne)
          have hany : (List.drop 0 (l.take (k + 1))).any (· == top one v) = true := by
            rw [List.drop_zero, List.any_eq_true]; exact ⟨_, hmemT, beq_self_eq_true _⟩
          simp only [hsub]
          refine Eq.trans (w4_19 N _ l (num' 1) (mkS 9 one 0 []) one (mkS 9 (top one v) 0 []) (top one v) l _ _ (l.take (k + 1)) hlen N 0 false (by rw [List.length_take]; omega)) ?_
          rw [hany]
          simp only [Bool.or_true, Bool.not_true, cond_false, hz, cond_true, hg]
          rw [wi64 _ (by omega) (by omega), show ((k : Int) + 1) = ((k + 1 : Nat) : Int) by omega]
          exact w4_9 N hN x0 x1 y hx0 hx1 l hok hl n (k + 1) (top one v) (by omega) (.inr hmemT)
    · rw [cond_dec' (by omega)]; exact hx1
def fuel4 (l : List Val) : Nat := 50
theorem plain4 (l : List Val) (h : okVs l = true) : F4 (fuel4 l) l = some (true, ()) := by
  unfold F4
  by_cases h40 : ((l.length : Nat) : Int) > 40
  · rw [cond_dec h40]
  · rw [cond_dec' h40]
    exact w4_9 (fuel4 l) (by unfold fuel4; decide) (fun t2 => some (t2, ())) (fun _ => some (true, ())) _ rfl rfl l h (by omega) 50 0 none' (by omega) (.inl rfl)

end Go.L13
