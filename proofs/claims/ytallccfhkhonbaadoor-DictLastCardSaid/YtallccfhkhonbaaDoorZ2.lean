/- Own text of this session: a part of the proof; no condition of its own. -/
import Derived.Test.YtallccfhkhonbaaDoorZ
set_option linter.unusedVariables false
set_option linter.unusedSimpArgs false
set_option maxRecDepth 100000
namespace Go.L17
open Go Go.Abs Go.Inc
def fuel6 : Nat := 0
theorem plain6 (_ : true = true) : F6 0 = some (true, ()) := by kernel_rfl
def fuel8 (m : Int) : Nat := 0
theorem plain8 (m : Int) (_ : true = true) : F8 0 m = some (dictOwn m, ()) := by
  unfold F8 dictOwn
  cases (m == 4) <;> rfl
theorem named_ne {v : Val} {d : Int} (h : takes d v = true) (hd : d = 2 ∨ d = 3 ∨ d = 4) : v ≠ none' := fun e => by
  subst e
  rcases hd with rfl | rfl | rfl <;> revert h <;> decide +kernel
theorem put_val {m : Int} {args : List Val} (hm : dictOwn m = true) (h : fits m 7 args = true) : args.getD 1 none' ≠ none' := by
  have hm' : m = 4 ∨ m = 10 := by simpa [dictOwn] using hm
  have e : sin m 7 = some [3, 2] ∨ sin m 7 = some [4, 2] := by rcases hm' with rfl | rfl <;> decide +kernel
  unfold fits at h
  rcases e with e | e <;> rw [e] at h
  all_goals
    match args, h with
    | [], h => cases h
    | [_], h => simp [takesAll] at h
    | a :: b :: [], h =>
      simp only [takesAll, Bool.and_true, Bool.and_eq_true] at h
      exact named_ne h.2 (.inl rfl)
    | _ :: _ :: _ :: _, h => simp [takesAll] at h
theorem dstep_may {m : Int} (hm : dictOwn m = true) (past : List Deed) (d : Deed) :
    dictStep (dictState m past) d.1 d.2.1 d.2.2.1 = bif mayD m d then (dictState m (past ++ [d]), dictOut m past d, true, ()) else (noS, [], false, ()) := by
  unfold dictStep stepOk
  show (bif (dictOwn m && (takes 0 d.1 && fits m d.2.1 d.2.2.1)) then _ else _) = _
  rw [hm, takes0, Bool.true_and]
  unfold mayD
  cases hc : (name d.1 && fits m d.2.1 d.2.2.1) with
  | false => rfl
  | true =>
    have hf : fits m d.2.1 d.2.2.1 = true := by rw [Bool.and_eq_true] at hc; exact hc.2
    have ho := ops_dict hm hf
    have hv : d.2.1 = 7 → arg1 d ≠ none' := fun h7 => by rw [h7] at hf; exact put_val hm hf
    simp only [cond_true]
    have hL : ∀ p, (dictState m p).2.2.2.1 = flatK (dictHas p) (dictKeys p) := fun p => rfl
    have hS : ∀ p, dictState m p = mkS m none' 0 (flatK (dictHas p) (dictKeys p)) := fun p => rfl
    have ha : d.2.2.1.getD 0 none' = arg0 d := rfl
    have ha1 : d.2.2.1.getD 1 none' = arg1 d := rfl
    have s1 := (dict_spec past).1
    rw [hL, hS (past ++ [d]), dict_next past d hv, ha, ha1, get_flat s1, dict_has]
    unfold dictOut
    rcases ho with ⟨ho, _⟩ | ⟨ho, _⟩ | ⟨ho, _⟩ | ⟨ho, _⟩
    · rw [ho]; rfl
    · rw [ho, scan_flat]; rfl
    · rw [ho]; rfl
    · rw [ho]; rfl
theorem okD_may {m : Int} (hm : dictOwn m = true) {d : Deed} (hd : mayD m d = true) : okDDeed d = true := by
  simp only [mayD, Bool.and_eq_true] at hd
  have ho := ops_dict hm hd.2
  simp only [okDDeed, Bool.and_eq_true, Bool.or_eq_true, decide_eq_true_eq]
  exact ⟨by rcases ho with ⟨ho, h⟩ | ⟨ho, h⟩ | ⟨ho, h⟩ | ⟨ho, h⟩ <;> first | exact .inr (by omega) | (rw [ho]; exact .inl rfl), .inr (by omega)⟩
theorem dictLen (m : Int) (past : List Deed) : (dictState m past).2.2.2.1.length ≤ 2 * past.length := by
  have h := (dict_spec past).2.2
  show (flatK (dictHas past) (dictKeys past)).length ≤ _
  rw [flat_len]; omega
theorem okDS {m : Int} {past : List Deed} (hp : past.length ≤ 100) {c : Val} {o : Int} {args : List Val} (h1 : okV c = true) (h2 : okVs args = true) (h3 : args.length ≤ 1000) : okDStep (dictState m past) c o args = true := by
  have := dictLen m past
  simp only [okDStep, okL, Bool.and_eq_true, decide_eq_true_eq]
  exact ⟨by omega, h1, h2, h3⟩
theorem okSSd {m : Int} {p q : List Deed} (hp : p.length ≤ 100) (hq : q.length ≤ 100) : okSS (dictState m p) (dictState m q) = true := by
  have h1 := dictLen m p
  have h2 := dictLen m q
  simp only [okSS, okSame2, Bool.and_eq_true, decide_eq_true_eq]
  exact ⟨by omega, by omega⟩
theorem filt_len {f : Val → Val} {ks : List Val} {p : Val → Bool} : (flatK f (ks.filter p)).length ≤ 2 * ks.length := by
  rw [flat_len]
  have := List.length_filter_le p ks
  omega
theorem w3 (N : Nat) {β : Type} (x0 : Bool → Option β) (x1 : Unit → Option β) (m : Int) (hm : dictOwn m = true) (l : List Deed) (hok : ∀ d ∈ l, okDeed d = true ∧ d.2.2.1.length ≤ 10) (hl : l.length ≤ 40) :
    ∀ (n k : Nat) (past : List Deed), l.length - k < n → past.length ≤ k → okDPast0 m past = true →
    W3_12 N x0 x1 n m (dictState m past).1 (dictState m past).2.1.1 (dictState m past).2.1.2.1 (dictState m past).2.1.2.2.1 (dictState m past).2.2.1 (dictState m past).2.2.2.1 past l (l.length : Int) (k : Int) = x1 ()
  | 0, k, _, h, _, _ => by omega
  | n + 1, k, past, h, hk, hp => by
    unfold W3_12
    by_cases hd : k < l.length
    · have hmem := getD_mem (d := (((0 : Int), ((0 : Int), (ByteArray.empty, ()))), ((0 : Int), (([] : List Val), ())))) hd
      rw [cond_dec (by omega), cond_t (in_dec hd), Int.toNat_natCast, wi64 _ (by omega) (by omega), show ((k : Int) + 1) = ((k + 1 : Nat) : Int) by omega,
        show (((dictState m past).1, (((dictState m past).2.1.1, ((dictState m past).2.1.2.1, ((dictState m past).2.1.2.2.1, ()))), ((dictState m past).2.2.1, ((dictState m past).2.2.2.1, ())))) : State) = dictState m past from rfl]
      generalize List.getD l k (((0 : Int), ((0 : Int), (ByteArray.empty, ()))), ((0 : Int), ([], ()))) = d at hmem
      obtain ⟨ho, h10⟩ := hok d hmem
      obtain ⟨hv, hvs⟩ := okDeed_parts ho
      have q1 : okDStep (dictState m past) d.1 d.2.1 d.2.2.1 = true := okDS (by omega) hv hvs (by omega)
      have q2 : okMay m d = true := by simp only [okMay, Bool.and_eq_true, decide_eq_true_eq]; exact ⟨ho, by omega⟩
      rw [q1, q2, dstep_may hm]
      cases hmay : mayD m d with
      | false =>
        simp only [cond_true, cond_false]
        exact w3 N x0 x1 m hm l hok hl n (k + 1) past (by omega) (by omega) hp
      | true =>
        have hr := okD_may hm hmay
        have hp1 : okDPast1 m past d = true := by simp only [okDPast1, Bool.and_eq_true]; exact ⟨hp, hr⟩
        have hp' : okDPast0 m (past ++ [d]) = true := by
          obtain ⟨a1, a2⟩ := okDP_iff.1 hp
          refine okDP_iff.2 ⟨by simp only [List.length_append, List.length_cons, List.length_nil]; omega, fun e he => ?_⟩
          rcases List.mem_append.1 he with he | he
          · exact a2 e he
          · obtain rfl := List.mem_singleton.1 he; exact hr
        have q4 : ∀ o : List Val, o.length ≤ 1000000 → okSame2 o o = true := fun o h => by simp only [okSame2, Bool.and_eq_true, decide_eq_true_eq]; exact ⟨h, h⟩
        have q5 : (dictOut m past d).length ≤ 1000000 := by
          have hks := (dict_spec past).2.2
          have hfl := filt_len (f := dictHas past) (ks := dictKeys past) (p := betw (arg0 d) (arg1 d))
          have e : dictOut m past d = bif d.2.1 == 8 then [dictHas past (arg0 d)] else bif d.2.1 != 13 then [] else flatK (dictHas past) ((dictKeys past).filter (betw (arg0 d) (arg1 d))) := rfl
          rw [e]
          cases (d.2.1 == 8) <;> cases (d.2.1 != 13) <;> simp only [cond_true, cond_false, List.length_cons, List.length_nil] <;> omega
        have q6 : okSS (dictState m (past ++ [d])) (dictState m (past ++ [d])) = true := okSSd (by simp only [List.length_append, List.length_cons, List.length_nil]; omega) (by simp only [List.length_append, List.length_cons, List.length_nil]; omega)
        simp only [cond_true, cond_false, hp1, q4 _ q5, sameV_self, sameS_self, hp', q6, Bool.not_true, beq_self_eq_true]
        rw [cond_dec (by simp only [List.length_cons, List.length_nil]; omega)]
        exact w3 N x0 x1 m hm l hok hl n (k + 1) (past ++ [d]) (by omega) (by simp only [List.length_append, List.length_cons, List.length_nil]; omega) hp'
    · rw [cond_dec' (by omega)]
def fuel3 (m : Int) (l : List Deed) : Nat := 50
theorem plain3 (m : Int) (l : List Deed) (h : okPlays m l = true) : F3 (fuel3 m l) m l = some (true, ()) := by
  have h' : okDs l = true := h
  unfold F3
  rw [dictNew_ok, h']
  unfold dictNew
  cases hm : dictOwn m with
  | false => rfl
  | true =>
    have hp0 : okDPast0 m [] = true := rfl
    have e1 : okSS (mkS m none' 0 []) noS = true := rfl
    have e2 : okSS (mkS m none' 0 []) (dictState m []) = true := rfl
    have e3 : sameS (mkS m none' 0 []) (dictState m []) = true := sameS_self _
    have e4 : ((0 : Int), (((0 : Int), ((0 : Int), (ByteArray.empty, ()))), ((0 : Int), (([] : List Val), ())))) = noS := rfl
    simp only [cond_true, cond_false, beq_self_eq_true, Bool.not_true, hp0]
    rw [e2, e3]
    cases hg : greatD l with
    | true =>
      simp only [cond_true]
      rw [e4, e1]
      cases sameS (mkS m none' 0 []) noS <;> rfl
    | false =>
      simp only [cond_true, cond_false, Bool.not_true]
      rw [greatD_eq, Bool.or_eq_false_iff, decide_eq_false_iff_not, List.any_eq_false] at hg
      refine w3 _ _ _ m hm l (fun d hd => ⟨okDs_mem h' hd, ?_⟩) (by omega) 50 0 [] (by omega) (by simp) hp0
      have := hg.1 d hd
      simp only [bigD, Bool.or_eq_true, decide_eq_true_eq, not_or] at this
      omega

def allMay (m : Int) (past : List Deed) : Prop := ∀ d ∈ past, mayD m d = true
/-- What is done, one by one; what may not be done is passed over. -/
def dictRun (m : Int) (past : List Deed) (d : Deed) : List Deed := bif mayD m d then past ++ [d] else past
theorem dictRun_len {m : Int} {past : List Deed} {d : Deed} : (dictRun m past d).length ≤ past.length + 1 := by
  unfold dictRun
  cases mayD m d <;> simp
theorem dictRun_state {m : Int} (hm : dictOwn m = true) (past : List Deed) (d : Deed) :
    (dictStep (dictState m past) d.1 d.2.1 d.2.2.1).2.2.1 = mayD m d ∧ (mayD m d = true → (dictStep (dictState m past) d.1 d.2.1 d.2.2.1).1 = dictState m (dictRun m past d)) ∧ (mayD m d = false → dictRun m past d = past) := by
  rw [dstep_may hm]
  unfold dictRun
  cases mayD m d with
  | true => exact ⟨rfl, fun _ => rfl, nofun⟩
  | false => exact ⟨rfl, nofun, fun _ => rfl⟩
theorem w5 (N : Nat) {β : Type} (x1 : Int → Int → ByteArray → Int → Int → ByteArray → Int → Int → Int → ByteArray → Int → List Val → Option β) (key v : Val) (l : List Deed) (hok : ∀ d ∈ l, okDeed d = true ∧ d.2.2.1.length ≤ 10) (hl : l.length ≤ 40) (y : Option β)
    (hx : ∀ past : List Deed, past.length ≤ 60 → dictHas past key = v → x1 key.1 key.2.1 key.2.2.1 v.1 v.2.1 v.2.2.1 (dictState 4 past).1 (dictState 4 past).2.1.1 (dictState 4 past).2.1.2.1 (dictState 4 past).2.1.2.2.1 (dictState 4 past).2.2.1 (dictState 4 past).2.2.2.1 = y) :
    ∀ (n k : Nat) (past : List Deed), l.length - k < n → past.length ≤ k + 1 → k ≤ l.length → dictHas past key = v →
    W5_8 N x1 n key.1 key.2.1 key.2.2.1 v.1 v.2.1 v.2.2.1 (dictState 4 past).1 (dictState 4 past).2.1.1 (dictState 4 past).2.1.2.1 (dictState 4 past).2.1.2.2.1 (dictState 4 past).2.2.1 (dictState 4 past).2.2.2.1 l (l.length : Int) (k : Int) = y
  | 0, k, _, h, _, _, _ => by omega
  | n + 1, k, past, h, hp, hk, hv => by
    unfold W5_8
    by_cases hd : k < l.length
    · have hmem := getD_mem (d := (((0 : Int), ((0 : Int), (ByteArray.empty, ()))), ((0 : Int), (([] : List Val), ())))) hd
      have ih := fun past => w5 N x1 key v l hok hl y hx n (k + 1) past (by omega)
      rw [cond_dec (by omega), cond_t (in_dec hd), Int.toNat_natCast, wi64 _ (by omega) (by omega), show ((k : Int) + 1) = ((k + 1 : Nat) : Int) by omega,
        show (((dictState 4 past).1, (((dictState 4 past).2.1.1, ((dictState 4 past).2.1.2.1, ((dictState 4 past).2.1.2.2.1, ()))), ((dictState 4 past).2.2.1, ((dictState 4 past).2.2.2.1, ())))) : State) = dictState 4 past from rfl]
      generalize List.getD l k (((0 : Int), ((0 : Int), (ByteArray.empty, ()))), ((0 : Int), ([], ()))) = d at hmem
      obtain ⟨ho, h10⟩ := hok d hmem
      obtain ⟨hcv, hvs⟩ := okDeed_parts ho
      have q1 : okDStep (dictState 4 past) d.1 d.2.1 d.2.2.1 = true := okDS (by omega) hcv hvs (by omega)
      have e : (((d.2.2.1.getD (Int.toNat 0) ((0 : Int), ((0 : Int), (ByteArray.empty, ())))).1 == key.1) && (((d.2.2.1.getD (Int.toNat 0) ((0 : Int), ((0 : Int), (ByteArray.empty, ())))).2.1 == key.2.1) && (((d.2.2.1.getD (Int.toNat 0) ((0 : Int), ((0 : Int), (ByteArray.empty, ())))).2.2.1 == key.2.2.1) && true))) = (arg0 d == key) := veq _ key
      rw [e, q1, dstep_may (by rfl : dictOwn 4 = true)]
      have hgo : (0 < d.2.2.1.length → arg0 d ≠ key) → (bif (bif mayD 4 d then (dictState 4 (past ++ [d]), dictOut 4 past d, true, ()) else (noS, [], false, ()) : State × (List Val × (Bool × Unit))).2.2.1 then
          W5_8 N x1 n key.1 key.2.1 key.2.2.1 v.1 v.2.1 v.2.2.1 (bif mayD 4 d then (dictState 4 (past ++ [d]), dictOut 4 past d, true, ()) else (noS, [], false, ()) : State × (List Val × (Bool × Unit))).1.1 (bif mayD 4 d then (dictState 4 (past ++ [d]), dictOut 4 past d, true, ()) else (noS, [], false, ()) : State × (List Val × (Bool × Unit))).1.2.1.1 (bif mayD 4 d then (dictState 4 (past ++ [d]), dictOut 4 past d, true, ()) else (noS, [], false, ()) : State × (List Val × (Bool × Unit))).1.2.1.2.1 (bif mayD 4 d then (dictState 4 (past ++ [d]), dictOut 4 past d, true, ()) else (noS, [], false, ()) : State × (List Val × (Bool × Unit))).1.2.1.2.2.1 (bif mayD 4 d then (dictState 4 (past ++ [d]), dictOut 4 past d, true, ()) else (noS, [], false, ()) : State × (List Val × (Bool × Unit))).1.2.2.1 (bif mayD 4 d then (dictState 4 (past ++ [d]), dictOut 4 past d, true, ()) else (noS, [], false, ()) : State × (List Val × (Bool × Unit))).1.2.2.2.1 l (l.length : Int) ((k + 1 : Nat) : Int)
          else W5_8 N x1 n key.1 key.2.1 key.2.2.1 v.1 v.2.1 v.2.2.1 (dictState 4 past).1 (dictState 4 past).2.1.1 (dictState 4 past).2.1.2.1 (dictState 4 past).2.1.2.2.1 (dictState 4 past).2.2.1 (dictState 4 past).2.2.2.1 l (l.length : Int) ((k + 1 : Nat) : Int)) = y := fun hne => by
        cases hmay : mayD 4 d with
        | false =>
          simp only [cond_false]
          exact ih past (by omega) (by omega) hv
        | true =>
          simp only [cond_true]
          refine ih (past ++ [d]) (by simp only [List.length_append, List.length_cons, List.length_nil]; omega) (by omega) ?_
          rw [dictHas_app, ← hv]
          unfold dictHas1
          have hlen : 0 < d.2.2.1.length := by
            simp only [mayD, Bool.and_eq_true] at hmay
            have := ops_dict (by rfl : dictOwn 4 = true) hmay.2
            omega
          rw [beq_false_of_ne (hne hlen), Bool.and_false]; rfl
      by_cases hlen : 0 < d.2.2.1.length
      · rw [cond_dec (by omega), cond_t (b0 (by omega))]
        cases hk' : (arg0 d == key) with
        | true =>
          simp only [cond_true]
          exact ih past (by omega) (by omega) hv
        | false =>
          simp only [cond_true, cond_false]
          exact hgo fun _ e => by rw [e, beq_self_eq_true] at hk'; cases hk'
      · rw [cond_dec' (by omega)]
        simp only [cond_true]
        exact hgo fun h => absurd h hlen
    · rw [cond_dec' (by omega)]
      exact hx past (by omega) hv
theorem takes_name {d : Int} {v : Val} (hd : d = 0 ∨ d = 2 ∨ d = 3 ∨ d = 4) : takes d v = name v := by
  unfold takes name
  rcases hd with rfl | rfl | rfl | rfl <;> cases right v <;> cases named v <;> rfl
theorem dict_fit {k v : Val} (hk : name k = true) (hv : name v = true) : fits 4 7 [k, v] = true ∧ fits 4 8 [k] = true ∧ fits 4 5 [k] = true ∧ fits 10 13 [k, v] = true := by
  have e1 : sin 4 7 = some [3, 2] := by decide +kernel
  have e2 : sin 4 8 = some [3] := by decide +kernel
  have e3 : sin 4 5 = some [3] := by decide +kernel
  have e4 : sin 10 13 = some [4, 4] := by decide +kernel
  unfold fits
  rw [e1, e2, e3, e4]
  simp [takesAll, takes_name, hk, hv]
theorem num_name : name (num' 0) = true := by decide +kernel
theorem okVs2 {a b : Val} (ha : okV a = true) (hb : okV b = true) : okVs [a, b] = true ∧ okVs [a] = true := by
  refine ⟨okVs_iff.2 ⟨by simp [maxLen], fun v h => ?_⟩, okVs_iff.2 ⟨by simp [maxLen], fun v h => ?_⟩⟩
  · rcases List.mem_cons.1 h with rfl | h
    · exact ha
    · rw [List.mem_singleton.1 h]; exact hb
  · rw [List.mem_singleton.1 h]; exact ha
def fuel5 (l : List Deed) (a b : Val) : Nat := 50
theorem plain5 (l : List Deed) (a b : Val) (h : okLast l a b = true) : F5 (fuel5 l a b) l a b = some (true, ()) := by
  simp only [okLast, Bool.and_eq_true] at h
  obtain ⟨h', ha, hb⟩ := h
  unfold F5
  rw [h', cond_true]
  cases hg : greatD l with
  | true => rfl
  | false =>
    simp only [cond_false]
    by_cases hsz : IntKind.wrap .i64 ((((ByteArray.size a.2.2.1) : Nat) : Int) + (((ByteArray.size b.2.2.1) : Nat) : Int)) > 100
    · rw [cond_dec hsz]
    · rw [cond_dec' hsz, ha, hb]
      simp only [cond_true]
      cases hna : name a with
      | false => rfl
      | true =>
        cases hnb : name b with
        | false => rfl
        | true =>
          simp only [Bool.not_true, cond_false]
          rw [greatD_eq, Bool.or_eq_false_iff, decide_eq_false_iff_not, List.any_eq_false] at hg
          obtain ⟨f1, f2, f3, _⟩ := dict_fit hna hnb
          obtain ⟨v2, v1⟩ := okVs2 ha hb
          have hc : okV (num' 0) = true := by decide +kernel
          have hm1 : mayD 4 (num' 0, 7, [a, b], ()) = true := by simp only [mayD, num_name, f1, Bool.and_self]
          have hm2 : mayD 4 (num' 0, 8, [a], ()) = true := by simp only [mayD, num_name, f2, Bool.and_self]
          have hm3 : mayD 4 (num' 0, 5, [a], ()) = true := by simp only [mayD, num_name, f3, Bool.and_self]
          have s0 : dictStep (dictNew 4).1 (num' 0) 7 [a, b] = (dictState 4 [(num' 0, 7, [a, b], ())], dictOut 4 [] (num' 0, 7, [a, b], ()), true, ()) := by
            have := dstep_may (by rfl : dictOwn 4 = true) [] (num' 0, 7, [a, b], ())
            rw [hm1] at this
            exact this
          have o0 : okDStep (dictNew 4).1 (num' 0) 7 [a, b] = true := okDS (m := 4) (past := []) (by simp) hc v2 (by simp)
          have e1 : (a :: (b :: ([] : List (Int × (Int × (ByteArray × Unit)))))) = [a, b] := rfl
          rw [e1, o0, s0, cond_true]
          refine w5 _ _ a b l (fun d hd => ⟨okDs_mem h' hd, ?_⟩) (by omega) _ (fun past hp hv => ?_) 50 0 [(num' 0, 7, [a, b], ())] (by omega) (by simp) (Nat.zero_le _) ?_
          · have := hg.1 d hd
            simp only [bigD, Bool.or_eq_true, decide_eq_true_eq, not_or] at this
            omega
          · have t2 := dstep_may (by rfl : dictOwn 4 = true) past (num' 0, 8, [a], ())
            have t3 := dstep_may (by rfl : dictOwn 4 = true) past (num' 0, 5, [a], ())
            have t4 := dstep_may (by rfl : dictOwn 4 = true) (past ++ [(num' 0, 5, [a], ())]) (num' 0, 8, [a], ())
            rw [hm2] at t2 t4
            rw [hm3] at t3
            have u2 : dictStep (dictState 4 past) (num' 0) 8 [a] = (dictState 4 (past ++ [(num' 0, 8, [a], ())]), [b], true, ()) := by
              refine Eq.trans t2 ?_
              have : dictOut 4 past (num' 0, 8, [a], ()) = [dictHas past a] := rfl
              rw [this, hv]; rfl
            have u3 : dictStep (dictState 4 past) (num' 0) 5 [a] = (dictState 4 (past ++ [(num' 0, 5, [a], ())]), dictOut 4 past (num' 0, 5, [a], ()), true, ()) := t3
            have u4 : dictStep (dictState 4 (past ++ [(num' 0, 5, [a], ())])) (num' 0) 8 [a] = (dictState 4 (past ++ [(num' 0, 5, [a], ())] ++ [(num' 0, 8, [a], ())]), [none'], true, ()) := by
              refine Eq.trans t4 ?_
              have : dictOut 4 (past ++ [(num' 0, 5, [a], ())]) (num' 0, 8, [a], ()) = [dictHas (past ++ [(num' 0, 5, [a], ())]) a] := rfl
              rw [this, dictHas_app]
              have : dictHas1 a (dictHas past a) (num' 0, 5, [a], ()) = none' := by
                unfold dictHas1
                have : (arg0 (num' 0, 5, [a], ()) == a) = true := beq_self_eq_true a
                rw [this]; rfl
              rw [this]; rfl
            have o1 : okDStep (dictState 4 past) (num' 0) 8 [a] = true := okDS (by omega) hc v1 (by simp)
            have o2 : okDStep (dictState 4 past) (num' 0) 5 [a] = true := okDS (by omega) hc v1 (by simp)
            have o3 : okDStep (dictState 4 (past ++ [(num' 0, 5, [a], ())])) (num' 0) 8 [a] = true := okDS (by simp only [List.length_append, List.length_cons, List.length_nil]; omega) hc v1 (by simp)
            have es : (((dictState 4 past).1, (((dictState 4 past).2.1.1, ((dictState 4 past).2.1.2.1, ((dictState 4 past).2.1.2.2.1, ()))), ((dictState 4 past).2.2.1, ((dictState 4 past).2.2.2.1, ())))) : State) = dictState 4 past := rfl
            have ea : (((a.1, (a.2.1, (a.2.2.1, ()))) : Val) :: ([] : List (Int × (Int × (ByteArray × Unit))))) = [a] := rfl
            have eb : (((b.1, (b.2.1, (b.2.2.1, ()))) : Val) :: ([] : List (Int × (Int × (ByteArray × Unit))))) = [b] := rfl
            have en : ((((0 : Int), ((0 : Int), (ByteArray.empty, ()))) : Val) :: ([] : List (Int × (Int × (ByteArray × Unit))))) = [none'] := rfl
            have k1 : ∀ v : Val, okSame2 [v] [v] = true := fun v => rfl
            simp only [es, ea, eb, en]
            rw [o1, o2, u2, u3]
            simp only [cond_true]
            rw [o3, u4]
            simp only [cond_true, k1, sameV_self]
          · unfold dictHas
            simp only [List.foldl_cons, List.foldl_nil]
            unfold dictHas1
            have : (arg0 (num' 0, 7, [a, b], ()) == a) = true := beq_self_eq_true a
            rw [this]; rfl

def partsRest (all low high : List Val) (x : Val) : Option (Bool × Unit) :=
  bif decide ((((List.length low) : Nat) : Int) ≥ (2 : Int)) then
  bif ((decide ((0 : Int) ≤ (IntKind.wrap .i64 ((((List.length low) : Nat) : Int) - (2 : Int))))) && (decide ((IntKind.wrap .i64 ((((List.length low) : Nat) : Int) - (2 : Int))) < (((List.length low) : Nat) : Int)))) then
  bif ((((List.getD low (Int.toNat (IntKind.wrap .i64 ((((List.length low) : Nat) : Int) - (2 : Int)))) ((0 : Int), ((0 : Int), (ByteArray.empty, ())))).1) == x.1) && (((((List.getD low (Int.toNat (IntKind.wrap .i64 ((((List.length low) : Nat) : Int) - (2 : Int)))) ((0 : Int), ((0 : Int), (ByteArray.empty, ())))).2).1) == x.2.1) && ((((((List.getD low (Int.toNat (IntKind.wrap .i64 ((((List.length low) : Nat) : Int) - (2 : Int)))) ((0 : Int), ((0 : Int), (ByteArray.empty, ())))).2).2).1) == x.2.2.1) && true))) then
  bif decide ((((List.length high) : Nat) : Int) ≥ (2 : Int)) then
  bif ((decide ((0 : Int) ≤ (2 : Int))) && ((decide ((2 : Int) ≤ (((List.length high) : Nat) : Int))) && (decide ((((List.length high) : Nat) : Int) ≤ (((List.length high) : Nat) : Int))))) then
  bif decide ((((List.length ([] : List Val)) + (List.length low)) * 32) ≤ 140737488351232) then
  bif decide ((((List.length (([] : List Val) ++ low)) + (List.length (sub high (2 : Int) (((List.length high) : Nat) : Int)))) * 32) ≤ 140737488351232) then
  bif (okSame2 all ((([] : List Val) ++ low) ++ (sub high (2 : Int) (((List.length high) : Nat) : Int)))) then
  some ((sameV all ((([] : List Val) ++ low) ++ (sub high (2 : Int) (((List.length high) : Nat) : Int)))), ())
  else
  none
  else
  none
  else
  none
  else
  none
  else
  bif decide ((((List.length ([] : List Val)) + (List.length low)) * 32) ≤ 140737488351232) then
  bif decide ((((List.length (([] : List Val) ++ low)) + (List.length high)) * 32) ≤ 140737488351232) then
  bif (okSame2 all ((([] : List Val) ++ low) ++ high)) then
  some ((sameV all ((([] : List Val) ++ low) ++ high)), ())
  else
  none
  else
  none
  else
  none
  else
  bif decide ((((List.length ([] : List Val)) + (List.length low)) * 32) ≤ 140737488351232) then
  bif decide ((((List.length (([] : List Val) ++ low)) + (List.length high)) * 32) ≤ 140737488351232) then
  bif (okSame2 all ((([] : List Val) ++ low) ++ high)) then
  some ((sameV all ((([] : List Val) ++ low) ++ high)), ())
  else
  none
  else
  none
  else
  none
  else
  none
  else
  bif decide ((((List.length ([] : List Val)) + (List.length low)) * 32) ≤ 140737488351232) then
  bif decide ((((List.length (([] : List Val) ++ low)) + (List.length high)) * 32) ≤ 140737488351232) then
  bif (okSame2 all ((([] : List Val) ++ low) ++ high)) then
  some ((sameV all ((([] : List Val) ++ low) ++ high)), ())
  else
  none
  else
  none
  else
  none
theorem partsRest_true {all low high : List Val} {x : Val} (h1 : low.length ≤ 1000) (h2 : high.length ≤ 1000)
    (h : (2 ≤ low.length → low.getD (low.length - 2) none' = x → 2 ≤ high.length → all = low ++ high.drop 2) ∧ (¬ (2 ≤ low.length ∧ low.getD (low.length - 2) none' = x ∧ 2 ≤ high.length) → all = low ++ high)) : partsRest all low high x = some (true, ()) := by
  have k1 : ∀ l : List Val, l.length ≤ 1000000 → okSame2 l l = true := fun l h => by simp only [okSame2, Bool.and_eq_true, decide_eq_true_eq]; exact ⟨h, h⟩
  have hsub : sub high 2 ((high.length : Nat) : Int) = high.drop 2 := by
    unfold sub
    rw [Int.toNat_natCast, List.take_of_length_le (Nat.le_refl _)]; rfl
  have last : all = low ++ high → (bif decide ((((List.length ([] : List Val)) + (List.length low)) * 32) ≤ 140737488351232) then
      bif decide ((((List.length (([] : List Val) ++ low)) + (List.length high)) * 32) ≤ 140737488351232) then
      bif (okSame2 all ((([] : List Val) ++ low) ++ high)) then
      some ((sameV all ((([] : List Val) ++ low) ++ high)), ()) else none else none else none) = some (true, ()) := fun e => by
    rw [cond_dec (by simp only [List.length_nil]; omega), List.nil_append, cond_dec (by omega), ← e, k1 _ (by rw [e, List.length_append]; omega), sameV_self]; rfl
  unfold partsRest
  by_cases hl : 2 ≤ low.length
  · have hw : IntKind.wrap .i64 (((low.length : Nat) : Int) - 2) = ((low.length - 2 : Nat) : Int) := by rw [wi64 _ (by omega) (by omega)]; omega
    rw [cond_dec (by omega), hw, cond_t (in_dec (by omega)), Int.toNat_natCast]
    have e : ∀ w : Val, ((w.1 == x.1) && ((w.2.1 == x.2.1) && ((w.2.2.1 == x.2.2.1) && true))) = (w == x) := fun w => veq w x
    have ed : ((((0 : Int), ((0 : Int), (ByteArray.empty, ()))) : Val)) = none' := rfl
    rw [ed, e]
    cases hx : (low.getD (low.length - 2) none' == x) with
    | false =>
      simp only [cond_false]
      exact last (h.2 fun q => by rw [q.2.1, beq_self_eq_true] at hx; cases hx)
    | true =>
      have hx' := eq_of_beq hx
      simp only [cond_true]
      by_cases hh : 2 ≤ high.length
      · have hall := h.1 hl hx' hh
        rw [cond_dec (by omega), hsub, cond_t (by simp; omega), cond_dec (by simp only [List.length_nil]; omega), List.nil_append, cond_dec (by rw [List.length_drop]; omega), ← hall,
          k1 _ (by rw [hall, List.length_append, List.length_drop]; omega), sameV_self]
        rfl
      · rw [cond_dec' (by omega)]
        exact last (h.2 fun q => hh q.2.2)
  · rw [cond_dec' (by omega)]
    exact last (h.2 fun q => hl q.1)
theorem w4 (N : Nat) {β : Type} (x1 : Int → Int → ByteArray → Int → Int → ByteArray → Int → Int → Int → ByteArray → Int → List Val → Option β) (a1 a2 : Int) (a3 : ByteArray) (b1 b2 : Int) (b3 : ByteArray) (l : List Deed) (hok : ∀ d ∈ l, okDeed d = true ∧ d.2.2.1.length ≤ 10) (hl : l.length ≤ 40) (y : Option β)
    (hx : ∀ past : List Deed, past.length ≤ 60 → x1 a1 a2 a3 b1 b2 b3 (dictState 10 past).1 (dictState 10 past).2.1.1 (dictState 10 past).2.1.2.1 (dictState 10 past).2.1.2.2.1 (dictState 10 past).2.2.1 (dictState 10 past).2.2.2.1 = y) :
    ∀ (n k : Nat) (past : List Deed), l.length - k < n → past.length ≤ k → k ≤ l.length →
    W4_7 N x1 n a1 a2 a3 b1 b2 b3 (dictState 10 past).1 (dictState 10 past).2.1.1 (dictState 10 past).2.1.2.1 (dictState 10 past).2.1.2.2.1 (dictState 10 past).2.2.1 (dictState 10 past).2.2.2.1 l (l.length : Int) (k : Int) = y
  | 0, k, _, h, _, _ => by omega
  | n + 1, k, past, h, hp, hk => by
    unfold W4_7
    by_cases hd : k < l.length
    · have hmem := getD_mem (d := (((0 : Int), ((0 : Int), (ByteArray.empty, ()))), ((0 : Int), (([] : List Val), ())))) hd
      have ih := fun past => w4 N x1 a1 a2 a3 b1 b2 b3 l hok hl y hx n (k + 1) past (by omega)
      rw [cond_dec (by omega), cond_t (in_dec hd), Int.toNat_natCast, wi64 _ (by omega) (by omega), show ((k : Int) + 1) = ((k + 1 : Nat) : Int) by omega,
        show (((dictState 10 past).1, (((dictState 10 past).2.1.1, ((dictState 10 past).2.1.2.1, ((dictState 10 past).2.1.2.2.1, ()))), ((dictState 10 past).2.2.1, ((dictState 10 past).2.2.2.1, ())))) : State) = dictState 10 past from rfl]
      generalize List.getD l k (((0 : Int), ((0 : Int), (ByteArray.empty, ()))), ((0 : Int), ([], ()))) = d at hmem
      obtain ⟨ho, h10⟩ := hok d hmem
      obtain ⟨hcv, hvs⟩ := okDeed_parts ho
      have q1 : okDStep (dictState 10 past) d.1 d.2.1 d.2.2.1 = true := okDS (by omega) hcv hvs (by omega)
      rw [q1, dstep_may (by rfl : dictOwn 10 = true), cond_true]
      cases hmay : mayD 10 d with
      | false =>
        simp only [cond_false]
        exact ih past (by omega) (by omega)
      | true =>
        simp only [cond_true]
        exact ih (past ++ [d]) (by simp only [List.length_append, List.length_cons, List.length_nil]; omega) (by omega)
    · rw [cond_dec' (by omega)]
      exact hx past (by omega)
def leastV : Val := num' (-(9223372036854775808 : Int))
theorem least_name : name leastV = true := by decide +kernel
theorem not_least {a : Val} (ha : okV a = true) (hn : name a = true) : lessV a leastV = false := by
  cases h : lessV a leastV with
  | false => rfl
  | true =>
    rw [lessV_iff] at h
    have hk : a.1 = 1 ∨ a.1 = 2 := by
      simp only [name, named, Bool.and_eq_true, Bool.or_eq_true, beq_iff_eq] at hn
      exact hn.2
    have hr : right a = true := by simp only [name, Bool.and_eq_true] at hn; exact hn.1
    have e1 : leastV.1 = 1 := rfl
    have e2 : leastV.2.1 = -9223372036854775808 := rfl
    have e3 : leastV.2.2.1.toList = [] := by decide +kernel
    rw [e1, e2, e3] at h
    rcases h with h | ⟨h1, h | ⟨_, h⟩⟩
    · omega
    · exfalso
      have hw : -9223372036854775808 ≤ a.2.1 := (okI_iff.1 (okV_iff.1 ha).2.1).1
      omega
    · cases hs : a.2.2.1.toList with
      | nil => rw [hs] at h; simp [Op.bytesLess] at h
      | cons c l => rw [hs] at h; simp [Op.bytesLess] at h
theorem scan_step {past : List Deed} {c p q : Val} (hc : name c = true) (hp : name p = true) (hq : name q = true) :
    ∃ s', dictStep (dictState 10 past) c 13 [p, q] = (s', flatK (dictHas past) ((dictKeys past).filter (betw p q)), true, ()) := by
  have hm : mayD 10 (c, 13, [p, q], ()) = true := by simp only [mayD, hc, (dict_fit hp hq).2.2.2, Bool.and_self]
  have := dstep_may (by rfl : dictOwn 10 = true) past (c, 13, [p, q], ())
  rw [hm] at this
  exact ⟨_, this⟩
theorem partsTail {past : List Deed} (hpl : past.length ≤ 60) {x y : Val} (hx : okV x = true) (hy : okV y = true) (nx : name x = true) (ny : name y = true) (hxy : lessV y x = false) :
    okDStep (dictState 10 past) x 13 [leastV, y] = true ∧ okDStep (dictState 10 past) x 13 [leastV, x] = true ∧ okDStep (dictState 10 past) x 13 [x, y] = true ∧ okDStep (dictState 10 past) x 13 [y, x] = true ∧
    (dictStep (dictState 10 past) x 13 [leastV, y]).2.2.1 = true ∧ (dictStep (dictState 10 past) x 13 [leastV, x]).2.2.1 = true ∧ (dictStep (dictState 10 past) x 13 [x, y]).2.2.1 = true ∧ (dictStep (dictState 10 past) x 13 [y, x]).2.2.1 = true ∧
    (x ≠ y → (dictStep (dictState 10 past) x 13 [y, x]).2.1 = []) ∧
    partsRest (dictStep (dictState 10 past) x 13 [leastV, y]).2.1 (dictStep (dictState 10 past) x 13 [leastV, x]).2.1 (dictStep (dictState 10 past) x 13 [x, y]).2.1 x = some (true, ()) := by
  have hlv : okV leastV = true := by decide +kernel
  obtain ⟨s1, e1⟩ := scan_step (past := past) nx least_name ny
  obtain ⟨s2, e2⟩ := scan_step (past := past) nx least_name nx
  obtain ⟨s3, e3⟩ := scan_step (past := past) nx nx ny
  obtain ⟨s4, e4⟩ := scan_step (past := past) nx ny nx
  have hk := (dict_spec past).2.2
  have hf := fun p => filt_len (f := dictHas past) (ks := dictKeys past) (p := p)
  have h2 := hf (betw leastV x)
  have h3 := hf (betw x y)
  refine ⟨okDS (by omega) hx (okVs2 hlv hy).1 (by simp), okDS (by omega) hx (okVs2 hlv hx).1 (by simp), okDS (by omega) hx (okVs2 hx hy).1 (by simp), okDS (by omega) hx (okVs2 hy hx).1 (by simp), by rw [e1], by rw [e2], by rw [e3], by rw [e4], fun hne => ?_, ?_⟩
  · rw [e4]; exact parts_none hxy hne
  · rw [e1, e2, e3]
    exact partsRest_true (by show (flatK _ _).length ≤ 1000; omega) (by show (flatK _ _).length ≤ 1000; omega) (parts_law (dict_spec past).1 (not_least hx nx) hxy)
def fuel4 (l : List Deed) (a b : Val) : Nat := 50
theorem plain4 (l : List Deed) (a b : Val) (h : okParts l a b = true) : F4 (fuel4 l a b) l a b = some (true, ()) := by
  simp only [okParts, Bool.and_eq_true] at h
  obtain ⟨h', ha, hb⟩ := h
  unfold F4
  rw [h', cond_true]
  cases hg : greatD l with
  | true => rfl
  | false =>
    simp only [cond_false]
    by_cases hsz : IntKind.wrap .i64 ((((ByteArray.size a.2.2.1) : Nat) : Int) + (((ByteArray.size b.2.2.1) : Nat) : Int)) > 100
    · rw [cond_dec hsz]
    · rw [cond_dec' hsz, ha, hb]
      simp only [cond_true]
      cases hna : name a with
      | false => rfl
      | true =>
        cases hnb : name b with
        | false => rfl
        | true =>
          simp only [Bool.not_true, cond_false]
          rw [greatD_eq, Bool.or_eq_false_iff, decide_eq_false_iff_not, List.any_eq_false] at hg
          refine w4 _ _ a.1 a.2.1 a.2.2.1 b.1 b.2.1 b.2.2.1 l (fun d hd => ⟨okDs_mem h' hd, ?_⟩) (by omega) _ (fun past hp => ?_) 50 0 [] (by omega) (by simp) (Nat.zero_le _)
          · have := hg.1 d hd
            simp only [bigD, Bool.or_eq_true, decide_eq_true_eq, not_or] at this
            omega
          · show (bif lessV b a then
              (bif okDStep (dictState 10 past) b 13 [leastV, a] then bif okDStep (dictState 10 past) b 13 [leastV, b] then bif okDStep (dictState 10 past) b 13 [b, a] then bif okDStep (dictState 10 past) b 13 [a, b] then
                bif !(dictStep (dictState 10 past) b 13 [leastV, a]).2.2.1 then some (false, ()) else bif !(dictStep (dictState 10 past) b 13 [leastV, b]).2.2.1 then some (false, ()) else bif !(dictStep (dictState 10 past) b 13 [b, a]).2.2.1 then some (false, ()) else bif !(dictStep (dictState 10 past) b 13 [a, b]).2.2.1 then some (false, ()) else
                bif !((b.1 == a.1) && ((b.2.1 == a.2.1) && ((b.2.2.1 == a.2.2.1) && true))) then (bif decide ((((dictStep (dictState 10 past) b 13 [a, b]).2.1.length : Nat) : Int) > 0) then some (false, ()) else partsRest (dictStep (dictState 10 past) b 13 [leastV, a]).2.1 (dictStep (dictState 10 past) b 13 [leastV, b]).2.1 (dictStep (dictState 10 past) b 13 [b, a]).2.1 b)
                else partsRest (dictStep (dictState 10 past) b 13 [leastV, a]).2.1 (dictStep (dictState 10 past) b 13 [leastV, b]).2.1 (dictStep (dictState 10 past) b 13 [b, a]).2.1 b
                else none else none else none else none)
              else
              (bif okDStep (dictState 10 past) a 13 [leastV, b] then bif okDStep (dictState 10 past) a 13 [leastV, a] then bif okDStep (dictState 10 past) a 13 [a, b] then bif okDStep (dictState 10 past) a 13 [b, a] then
                bif !(dictStep (dictState 10 past) a 13 [leastV, b]).2.2.1 then some (false, ()) else bif !(dictStep (dictState 10 past) a 13 [leastV, a]).2.2.1 then some (false, ()) else bif !(dictStep (dictState 10 past) a 13 [a, b]).2.2.1 then some (false, ()) else bif !(dictStep (dictState 10 past) a 13 [b, a]).2.2.1 then some (false, ()) else
                bif !((a.1 == b.1) && ((a.2.1 == b.2.1) && ((a.2.2.1 == b.2.2.1) && true))) then (bif decide ((((dictStep (dictState 10 past) a 13 [b, a]).2.1.length : Nat) : Int) > 0) then some (false, ()) else partsRest (dictStep (dictState 10 past) a 13 [leastV, b]).2.1 (dictStep (dictState 10 past) a 13 [leastV, a]).2.1 (dictStep (dictState 10 past) a 13 [a, b]).2.1 a)
                else partsRest (dictStep (dictState 10 past) a 13 [leastV, b]).2.1 (dictStep (dictState 10 past) a 13 [leastV, a]).2.1 (dictStep (dictState 10 past) a 13 [a, b]).2.1 a
                else none else none else none else none)) = some (true, ())
            have veqs : ∀ v w : Val, ((v.1 == w.1) && ((v.2.1 == w.2.1) && ((v.2.2.1 == w.2.2.1) && true))) = (v == w) := veq
            cases hba : lessV b a with
            | true =>
              obtain ⟨o1, o2, o3, o4, p1, p2, p3, p4, hn, hr⟩ := partsTail hp hb ha hnb hna (lessV_asymm hba)
              simp only [cond_true, o1, o2, o3, o4, p1, p2, p3, p4, Bool.not_true, cond_false, hr, veqs]
              cases hab : (b == a) with
              | true => rfl
              | false =>
                have hne : b ≠ a := fun e => by rw [e, beq_self_eq_true] at hab; cases hab
                rw [hn hne]; rfl
            | false =>
              obtain ⟨o1, o2, o3, o4, p1, p2, p3, p4, hn, hr⟩ := partsTail hp ha hb hna hnb hba
              simp only [cond_true, o1, o2, o3, o4, p1, p2, p3, p4, Bool.not_true, cond_false, hr, veqs]
              cases hab : (a == b) with
              | true => rfl
              | false =>
                have hne : a ≠ b := fun e => by rw [e, beq_self_eq_true] at hab; cases hab
                rw [hn hne]; rfl

end Go.L17
