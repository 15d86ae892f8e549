/- Own text of this session: a part of the proof; no condition of its own. -/
import Derived.Test.YtjhkmflnelbbmaaDoorZ
set_option linter.unusedVariables false
set_option linter.unusedSimpArgs false
set_option maxRecDepth 100000
namespace Go.L14
open Go Go.Abs Go.Inc
def fuel6 : Nat := 0
theorem plain6 (_ : true = true) : F6 0 = some (true, ()) := by kernel_rfl
def fuel8 (m : Int) : Nat := 0
theorem plain8 (m : Int) (_ : true = true) : F8 0 m = some (bagOwn m, ()) := rfl
theorem bstep_may {m : Int} (hm : bagOwn m = true) (past : List Deed) (d : Deed) :
    bagStep (bagState m past) d.1 d.2.1 d.2.2.1 = bif mayD m d then (bagState m (past ++ [d]), bagOut m past d, true, ()) else (noS, [], false, ()) := by
  unfold bagStep stepOk
  show (bif (bagOwn m && (takes 0 d.1 && fits m d.2.1 d.2.2.1)) then (bif d.2.1 == 6 then (bagState m past, [yesV (hasV (sortV (bagList past)) (arg0 d))], true, ())
     else bif d.2.1 == 4 then (mkS m none' 0 (insV (sortV (bagList past)) (arg0 d)), [], true, ()) else (mkS m none' 0 (delV (sortV (bagList past)) (arg0 d)), [], true, ())) else _) = _
  rw [hm, takes0, Bool.true_and]
  unfold mayD
  cases hc : (name d.1 && fits m d.2.1 d.2.2.1) with
  | false => rfl
  | true =>
    have hf : fits m d.2.1 d.2.2.1 = true := by rw [Bool.and_eq_true] at hc; exact hc.2
    obtain ⟨ho, _⟩ := ops_bag hm hf
    simp only [cond_true]
    unfold bagOut bagState
    rw [bag_next, bag_has]
    rcases ho with ho | ho | ho <;> rw [ho] <;> rfl
theorem okB_may {m : Int} (hm : bagOwn m = true) {d : Deed} (hd : mayD m d = true) : okBDeed d = true := by
  simp only [mayD, Bool.and_eq_true] at hd
  obtain ⟨_, hl⟩ := ops_bag hm hd.2
  exact decide_eq_true (by omega)
theorem okBS {m : Int} {past : List Deed} (hp : past.length ≤ 100) {c : Val} {o : Int} {args : List Val} (h1 : okV c = true) (h2 : okVs args = true) (h3 : args.length ≤ 1000) : okBStep (bagState m past) c o args = true := by
  obtain ⟨s1, _, s3⟩ := bag_spec past
  simp only [okBStep, okL, Bool.and_eq_true, decide_eq_true_eq]
  exact ⟨⟨by show (sortV (bagList past)).length ≤ 100; omega, s1⟩, h1, h2, h3⟩
theorem okSSb {m : Int} {p q : List Deed} (hp : p.length ≤ 100) (hq : q.length ≤ 100) : okSS (bagState m p) (bagState m q) = true := by
  have h1 := (bag_spec p).2.2
  have h2 := (bag_spec q).2.2
  simp only [okSS, okSame2, Bool.and_eq_true, decide_eq_true_eq]
  exact ⟨by show (sortV (bagList p)).length ≤ 1000000; omega, by show (sortV (bagList q)).length ≤ 1000000; omega⟩
theorem w3 (N : Nat) {β : Type} (x0 : Bool → Option β) (x1 : Unit → Option β) (m : Int) (hm : bagOwn m = true) (l : List Deed) (hok : ∀ d ∈ l, okDeed d = true ∧ d.2.2.1.length ≤ 10) (hl : l.length ≤ 40) :
    ∀ (n k : Nat) (past : List Deed), l.length - k < n → past.length ≤ k → okBPast0 m past = true →
    W3_12 N x0 x1 n m (bagState m past).1 (bagState m past).2.1.1 (bagState m past).2.1.2.1 (bagState m past).2.1.2.2.1 (bagState m past).2.2.1 (bagState m past).2.2.2.1 past l (l.length : Int) (k : Int) = x1 ()
  | 0, k, _, h, _, _ => by omega
  | n + 1, k, past, h, hk, hp => by
    unfold W3_12
    by_cases hd : k < l.length
    · have hmem := getD_mem (d := (((0 : Int), ((0 : Int), (ByteArray.empty, ()))), ((0 : Int), (([] : List Val), ())))) hd
      rw [cond_dec (by omega), cond_t (in_dec hd), Int.toNat_natCast, wi64 _ (by omega) (by omega), show ((k : Int) + 1) = ((k + 1 : Nat) : Int) by omega,
        show (((bagState m past).1, (((bagState m past).2.1.1, ((bagState m past).2.1.2.1, ((bagState m past).2.1.2.2.1, ()))), ((bagState m past).2.2.1, ((bagState m past).2.2.2.1, ())))) : State) = bagState m past from rfl]
      generalize List.getD l k (((0 : Int), ((0 : Int), (ByteArray.empty, ()))), ((0 : Int), ([], ()))) = d at hmem
      obtain ⟨ho, h10⟩ := hok d hmem
      obtain ⟨hv, hvs⟩ := okDeed_parts ho
      have q1 : okBStep (bagState m past) d.1 d.2.1 d.2.2.1 = true := okBS (by omega) hv hvs (by omega)
      have q2 : okMay m d = true := by simp only [okMay, Bool.and_eq_true, decide_eq_true_eq]; exact ⟨ho, by omega⟩
      rw [q1, q2, bstep_may hm]
      cases hmay : mayD m d with
      | false =>
        simp only [cond_true, cond_false]
        exact w3 N x0 x1 m hm l hok hl n (k + 1) past (by omega) (by omega) hp
      | true =>
        have hr := okB_may hm hmay
        have hp1 : okBPast1 m past d = true := by simp only [okBPast1, Bool.and_eq_true]; exact ⟨hp, hr⟩
        have hp' : okBPast0 m (past ++ [d]) = true := by
          obtain ⟨a1, a2⟩ := okB_iff.1 hp
          refine okB_iff.2 ⟨by simp only [List.length_append, List.length_cons, List.length_nil]; omega, fun e he => ?_⟩
          rcases List.mem_append.1 he with he | he
          · exact a2 e he
          · obtain rfl := List.mem_singleton.1 he; exact hr
        have q4 : ∀ o : List Val, o.length ≤ 1000000 → okSame2 o o = true := fun o h => by simp only [okSame2, Bool.and_eq_true, decide_eq_true_eq]; exact ⟨h, h⟩
        have q5 : (bagOut m past d).length ≤ 1000000 := by
          unfold bagOut
          cases (d.2.1 != 6) <;> simp
        have q6 : okSS (bagState m (past ++ [d])) (bagState m (past ++ [d])) = true := okSSb (by simp only [List.length_append, List.length_cons, List.length_nil]; omega) (by simp only [List.length_append, List.length_cons, List.length_nil]; omega)
        simp only [cond_true, cond_false, hp1, q4 _ q5, sameV_self, sameS_self, hp', q6, Bool.not_true, beq_self_eq_true]
        rw [cond_dec (by simp only [List.length_cons, List.length_nil]; omega)]
        exact w3 N x0 x1 m hm l hok hl n (k + 1) (past ++ [d]) (by omega) (by simp only [List.length_append, List.length_cons, List.length_nil]; omega) hp'
    · rw [cond_dec' (by omega)]
def fuel3 (m : Int) (l : List Deed) : Nat := 50
theorem plain3 (m : Int) (l : List Deed) (h : okPlays m l = true) : F3 (fuel3 m l) m l = some (true, ()) := by
  have h' : okDs l = true := h
  unfold F3
  rw [bagNew_ok, h']
  unfold bagNew
  cases hm : bagOwn m with
  | false => rfl
  | true =>
    have hp0 : okBPast0 m [] = true := rfl
    have e1 : okSS (mkS m none' 0 []) noS = true := rfl
    have e2 : okSS (mkS m none' 0 []) (bagState m []) = true := rfl
    have e3 : sameS (mkS m none' 0 []) (bagState m []) = true := sameS_self _
    have e4 : ((0 : Int), (((0 : Int), ((0 : Int), (ByteArray.empty, ()))), ((0 : Int), (([] : List Val), ())))) = noS := rfl
    simp only [cond_true, cond_false, beq_self_eq_true, Bool.not_true, hp0]
    rw [e2, e3]
    cases hg : greatD l with
    | true =>
      simp only [cond_true]
      rw [e4, e1]
      cases sameS (mkS m none' 0 []) noS <;> rfl
    | false =>
      simp only [cond_true, cond_false, Bool.not_true]
      rw [greatD_eq, Bool.or_eq_false_iff, decide_eq_false_iff_not, List.any_eq_false] at hg
      refine w3 _ _ _ m hm l (fun d hd => ⟨okDs_mem h' hd, ?_⟩) (by omega) 50 0 [] (by omega) (by simp) hp0
      have := hg.1 d hd
      simp only [bigD, Bool.or_eq_true, decide_eq_true_eq, not_or] at this
      omega

end Go.L14
