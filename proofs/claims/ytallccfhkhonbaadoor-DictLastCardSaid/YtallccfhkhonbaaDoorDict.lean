/- What the program's inner parts say, in plain words: maps. Own text of this session. -/
import Derived.Test.YtallccfhkhonbaaDoorBag
import Derived.Test.YtallccfhkhonbaaDoorRange
set_option linter.unusedVariables false
set_option linter.unusedSimpArgs false
namespace Go.Inc
open Go Go.Abs

/-! Maps -/
def dictOwn (m : Int) : Bool := m == 4 || m == 10
def dictNew (m : Int) : State × (Bool × Unit) := bif dictOwn m then (mkS m none' 0 [], true, ()) else (noS, false, ())
/-- Where a key stands, or would; is it there? -/
def findL (x : Val) (l : List Val) : Nat × Bool := findK x l.length (kpairs 0 l)
def findX (x : Val) (l : List Val) : Int × (Bool × (List Val × Unit)) := (((findL x l).1 : Int), ((findL x l).2, (l, ())))
def scanL (a b : Val) (l : List Val) : List Val := (kpairs 0 l).flatMap (scanO a b l)
def scanX (a b : Val) (l : List Val) : List Val × (List Val × Unit) := (scanL a b l, (l, ()))
def okFind (n : Nat) (l : List Val) : Bool := decide (n = l.length) && decide (l.length ≤ 1000)
def putL (l : List Val) (x v : Val) : List Val := bif (findL x l).2 then l.set ((findL x l).1 + 1) v else l.take (findL x l).1 ++ ([x, v] ++ l.drop (findL x l).1)
def delL (l : List Val) (x : Val) : List Val := bif (findL x l).2 then l.take (findL x l).1 ++ l.drop ((findL x l).1 + 2) else l
def getL (l : List Val) (x : Val) : Val := bif (findL x l).2 then l.getD ((findL x l).1 + 1) none' else none'
def dictStep (s : State) (c : Val) (o : Int) (args : List Val) : State × (List Val × (Bool × Unit)) :=
  bif stepOk (dictOwn s.1) s.1 c o args then
    (bif o == 13 then (s, scanL (args.getD 0 none') (args.getD 1 none') s.2.2.2.1, true, ())
     else bif o == 8 then (s, [getL s.2.2.2.1 (args.getD 0 none')], true, ())
     else bif o == 7 then (mkS s.1 s.2.1 s.2.2.1 (putL s.2.2.2.1 (args.getD 0 none') (args.getD 1 none')), [], true, ())
     else (mkS s.1 s.2.1 s.2.2.1 (delL s.2.2.2.1 (args.getD 0 none')), [], true, ()))
  else (noS, [], false, ())
def okDStep (s : State) (c : Val) (_ : Int) (args : List Val) : Bool := decide (s.2.2.2.1.length ≤ 1000) && (okV c && okL args)
/-- What a key has, behind all that was done. -/
def dictHas1 (v : Val) (b : Val) (d : Deed) : Val := bif (d.2.1 == 7 || d.2.1 == 5) && arg0 d == v then (bif d.2.1 == 7 then arg1 d else none') else b
def dictHas (past : List Deed) (v : Val) : Val := past.foldl (dictHas1 v) none'
def okDDeed (d : Deed) : Bool := (!(d.2.1 == 7 || d.2.1 == 13) || decide (2 ≤ d.2.2.1.length)) && (!(d.2.1 == 5 || d.2.1 == 8) || decide (1 ≤ d.2.2.1.length))
def okDPast (past : List Deed) (_ : Val) : Bool := decide (past.length ≤ 100) && past.all okDDeed
def dictKeep (past : List Deed) (l : List Val) (d : Deed) : List Val := bif d.2.1 == 7 && !(dictHas past (arg0 d) == none' || hasV l (arg0 d)) then l ++ [arg0 d] else l
def dictKeys (past : List Deed) : List Val := sortV (past.foldl (dictKeep past) [])
def okDPastK (past : List Deed) : Bool := okDPast past none'
def dictRow (past : List Deed) (k : Val) : List Val := [k, dictHas past k]
def dictState (m : Int) (past : List Deed) : State := mkS m none' 0 ((dictKeys past).flatMap (dictRow past))
def okDPast0 (_ : Int) (past : List Deed) : Bool := okDPast past none'
def betw (a b k : Val) : Bool := !(lessV k a) && !(lessV b k)
def dictOut (_ : Int) (past : List Deed) (d : Deed) : List Val := bif d.2.1 == 8 then [dictHas past (arg0 d)] else bif d.2.1 != 13 then [] else
  ((dictKeys past).filter (betw (arg0 d) (arg1 d))).flatMap (dictRow past)
def okDPast1 (_ : Int) (past : List Deed) (d : Deed) : Bool := okDPast past none' && okDDeed d
def okParts (l : List Deed) (a b : Val) : Bool := okDs l && (okV a && okV b)
def okLast (l : List Deed) (a b : Val) : Bool := okDs l && (okV a && okV b)

/-! ### Laws -/
def flatK (f : Val → Val) (ks : List Val) : List Val := ks.flatMap fun k => [k, f k]
theorem flat_cons (f : Val → Val) (k : Val) (ks : List Val) : flatK f (k :: ks) = k :: f k :: flatK f ks := rfl
theorem flat_app (f : Val → Val) (a b : List Val) : flatK f (a ++ b) = flatK f a ++ flatK f b := List.flatMap_append
theorem flat_len (f : Val → Val) : ∀ ks, (flatK f ks).length = 2 * ks.length
  | [] => rfl
  | k :: ks => by rw [flat_cons, List.length_cons, List.length_cons, List.length_cons, flat_len f ks]; omega
theorem flat_congr {f g : Val → Val} : ∀ {ks : List Val}, (∀ k ∈ ks, f k = g k) → flatK f ks = flatK g ks
  | [], _ => rfl
  | k :: ks, h => by rw [flat_cons, flat_cons, h k List.mem_cons_self, flat_congr fun y hy => h y (List.mem_cons_of_mem _ hy)]
theorem flat_take (f : Val → Val) : ∀ (ks : List Val) (n : Nat), (flatK f ks).take (2 * n) = flatK f (ks.take n)
  | [], n => by simp [flatK]
  | k :: ks, 0 => rfl
  | k :: ks, n + 1 => by
    rw [flat_cons, show 2 * (n + 1) = 2 * n + 1 + 1 by omega, List.take_succ_cons, List.take_succ_cons, flat_take f ks n, List.take_succ_cons, flat_cons]
theorem flat_drop (f : Val → Val) : ∀ (ks : List Val) (n : Nat), (flatK f ks).drop (2 * n) = flatK f (ks.drop n)
  | [], n => by simp [flatK]
  | k :: ks, 0 => rfl
  | k :: ks, n + 1 => by
    rw [flat_cons, show 2 * (n + 1) = 2 * n + 1 + 1 by omega, List.drop_succ_cons, List.drop_succ_cons, flat_drop f ks n, List.drop_succ_cons]

theorem findK_flat {x : Val} {f : Val → Val} : ∀ {ks : List Val} {i n : Nat}, sortedV ks = true → n = i + 2 * ks.length → findK x n (kpairs i (flatK f ks)) = (i + 2 * lbV x ks, hasV ks x)
  | [], i, n, _, hn => by subst hn; rfl
  | k :: ks, i, n, hs, hn => by
    obtain ⟨h1, h2⟩ := sorted_cons.1 hs
    rw [flat_cons, kpairs, findK, cmpV_neg, cmpV_zero]
    unfold lbV
    have hh : hasV (k :: ks) x = (k == x || hasV ks x) := rfl
    rw [hh]
    cases hk : lessV k x with
    | true =>
      have hne : (k == x) = false := beq_false_of_ne fun e => by subst e; rw [lessV_self] at hk; cases hk
      rw [hne]
      simp only [cond_true, Bool.false_or]
      rw [findK_flat h2 (by rw [hn, List.length_cons]; omega)]
      simp only [Prod.mk.injEq, and_true]
      omega
    | false =>
      simp only [cond_false]
      cases hkx : (k == x) with
      | true => rfl
      | false =>
        have : hasV ks x = false := by
          cases hx : hasV ks x with
          | false => rfl
          | true => rw [h1 x (hasV_iff.1 hx)] at hk; cases hk
        rw [this]; rfl
theorem find_flat {x : Val} {f : Val → Val} {ks : List Val} (hs : sortedV ks = true) : findL x (flatK f ks) = (2 * lbV x ks, hasV ks x) := by
  unfold findL
  rw [findK_flat hs (by rw [flat_len]; omega), Nat.zero_add]

/-- A key that is there, and what stands about it. -/
theorem key_split {x : Val} {ks : List Val} (hs : sortedV ks = true) (hx : hasV ks x = true) : ks = ks.take (lbV x ks) ++ x :: ks.drop (lbV x ks + 1) ∧ lbV x ks < ks.length ∧ (∀ y ∈ ks.take (lbV x ks), y ≠ x) ∧ (∀ y ∈ ks.drop (lbV x ks + 1), y ≠ x) := by
  have hx' := hx
  rw [has_lb hs] at hx
  simp only [Bool.and_eq_true, decide_eq_true_eq, beq_iff_eq] at hx
  obtain ⟨hlt, he⟩ := hx
  obtain ⟨h1, h2, h3⟩ := sorted_split (lbV x ks) hs
  have hd := drop_getD (d := none') hlt
  rw [he] at hd
  rw [hd] at h2
  refine ⟨?_, hlt, fun y hy e => ?_, fun y hy e => ?_⟩
  · conv => lhs; rw [← List.take_append_drop (lbV x ks) ks, hd]
  · subst e; have := lb_take _ hy; rw [lessV_self] at this; cases this
  · subst e; have := (sorted_cons.1 h2).1 _ hy; rw [lessV_self] at this; cases this

def updV (f : Val → Val) (x v : Val) (y : Val) : Val := bif x == y then v else f y
theorem upd_ne {f : Val → Val} {x v y : Val} (h : y ≠ x) : updV f x v y = f y := by unfold updV; rw [beq_false_of_ne (fun e => h e.symm)]; rfl
theorem upd_same {f : Val → Val} {x v : Val} : updV f x v x = v := by unfold updV; rw [beq_self_eq_true]; rfl

theorem get_flat {x : Val} {f : Val → Val} {ks : List Val} (hs : sortedV ks = true) : getL (flatK f ks) x = bif hasV ks x then f x else none' := by
  unfold getL
  rw [find_flat hs]
  cases hx : hasV ks x with
  | false => rfl
  | true =>
    obtain ⟨he, hlt, _, _⟩ := key_split hs hx
    simp only [cond_true]
    have hl : (flatK f (ks.take (lbV x ks))).length = 2 * lbV x ks := by rw [flat_len, List.length_take]; omega
    generalize ks.take (lbV x ks) = A at *
    generalize ks.drop (lbV x ks + 1) = B at *
    generalize lbV x ks = m at *
    rw [List.getD_eq_getElem?_getD, he, flat_app, flat_cons, List.getElem?_append_right (by omega), hl, show 2 * m + 1 - 2 * m = 1 by omega]
    rfl
theorem put_flat {x v : Val} {f : Val → Val} {ks : List Val} (hs : sortedV ks = true) : putL (flatK f ks) x v = flatK (updV f x v) (insV ks x) := by
  unfold putL insV
  rw [find_flat hs]
  cases hx : hasV ks x with
  | false =>
    simp only [cond_false]
    have hnx : ∀ y ∈ ks, y ≠ x := fun y hy e => by subst e; rw [hasV_iff.2 hy] at hx; cases hx
    rw [flat_take, flat_drop, flat_app, flat_app, flat_congr (g := f) (ks := ks.take _) (fun y hy => upd_ne (hnx y (List.mem_of_mem_take hy))), flat_congr (g := f) (ks := ks.drop _) (fun y hy => upd_ne (hnx y (List.mem_of_mem_drop hy)))]
    congr 2
    show [x, v] = [x, updV f x v x]
    rw [upd_same]
  | true =>
    obtain ⟨he, hlt, h1, h2⟩ := key_split hs hx
    simp only [cond_true]
    have hl : (flatK f (ks.take (lbV x ks))).length = 2 * lbV x ks := by rw [flat_len, List.length_take]; omega
    generalize ha : ks.take (lbV x ks) = A at *
    generalize hb : ks.drop (lbV x ks + 1) = B at *
    generalize lbV x ks = m at *
    rw [he, flat_app, flat_app, flat_cons, flat_cons, upd_same, flat_congr (g := f) (ks := A) (fun y hy => upd_ne (h1 y hy)), flat_congr (f := updV f x v) (g := f) (ks := B) (fun y hy => upd_ne (h2 y hy)),
      List.set_append_right _ _ (by omega), hl, show 2 * m + 1 - 2 * m = 1 by omega]
    rfl
theorem del_flat {x : Val} {f : Val → Val} {ks : List Val} (hs : sortedV ks = true) : delL (flatK f ks) x = flatK f (delV ks x) := by
  unfold delL delV
  rw [find_flat hs]
  cases hx : hasV ks x with
  | false => rfl
  | true =>
    simp only [cond_true]
    rw [flat_app, flat_take, show 2 * lbV x ks + 2 = 2 * (lbV x ks + 1) by omega, flat_drop]
theorem scanK_flat {a b : Val} {f : Val → Val} : ∀ {ks : List Val} {i : Nat} {l : List Val}, l.drop i = flatK f ks → (kpairs i (flatK f ks)).flatMap (scanO a b l) = flatK f (ks.filter (betw a b))
  | [], _, _, _ => rfl
  | k :: ks, i, l, h => by
    rw [flat_cons] at h
    have hl : i + 1 < l.length := by
      have := congrArg List.length h
      rw [List.length_drop] at this
      simp only [List.length_cons] at this
      omega
    have hg : l.getD (i + 1) k = f k := by
      have := congrArg (fun q => q[1]?) h
      rw [List.getElem?_drop] at this
      rw [List.getD_eq_getElem?_getD, this]; rfl
    have hd : l.drop (i + 2) = flatK f ks := by
      rw [← List.drop_drop, h]; rfl
    rw [flat_cons, kpairs, List.flatMap_cons, scanK_flat hd, List.filter_cons]
    unfold scanO betw
    have e1 : decide (cmpV k a < 0) = lessV k a := cmpV_neg _ _
    have e2 : decide (0 < cmpV k b) = lessV b k := by
      rcases cv_spec k b with ⟨e, q1, q2, _⟩ | ⟨e, rfl, q2⟩ | ⟨e, q1, q2, _⟩
      · rw [e, lessV_asymm q1]; rfl
      · rw [e, q2]; rfl
      · rw [e, q1]; rfl
    simp only [e1, e2, hg]
    cases (!lessV k a && !lessV b k) <;> rfl
theorem scan_flat {a b : Val} {f : Val → Val} {ks : List Val} : scanL a b (flatK f ks) = flatK f (ks.filter (betw a b)) := scanK_flat (i := 0) rfl

/-! What the document says -/
theorem dictHas_app (past : List Deed) (d : Deed) (v : Val) : dictHas (past ++ [d]) v = dictHas1 v (dictHas past v) d := by
  unfold dictHas
  rw [List.foldl_append]; rfl
theorem keep_spec (past : List Deed) : ∀ {l : List Deed} {acc : List Val}, acc.Nodup →
    (l.foldl (dictKeep past) acc).Nodup ∧ (∀ y, y ∈ l.foldl (dictKeep past) acc ↔ y ∈ acc ∨ ((∃ d ∈ l, d.2.1 = 7 ∧ arg0 d = y) ∧ dictHas past y ≠ none')) ∧ (l.foldl (dictKeep past) acc).length ≤ acc.length + l.length
  | [], acc, h => ⟨h, fun y => by simp, by simp⟩
  | d :: l, acc, h => by
    rw [List.foldl_cons]
    have hk : dictKeep past acc d = acc ∨ (dictKeep past acc d = acc ++ [arg0 d] ∧ d.2.1 = 7 ∧ arg0 d ∉ acc ∧ dictHas past (arg0 d) ≠ none') := by
      unfold dictKeep
      cases hc : (d.2.1 == 7 && !(dictHas past (arg0 d) == none' || hasV acc (arg0 d))) with
      | false => exact .inl rfl
      | true =>
        simp only [Bool.and_eq_true, Bool.not_eq_true', Bool.or_eq_false_iff, beq_iff_eq, beq_eq_false_iff_ne] at hc
        exact .inr ⟨rfl, hc.1, fun hm => (by have := hasV_iff.2 hm; rw [hc.2.2] at this; cases this), hc.2.1⟩
    rcases hk with hk | ⟨hk, h7, hn, hh⟩
    · have hno : d.2.1 = 7 → dictHas past (arg0 d) ≠ none' → arg0 d ∈ acc := fun h7 hh => by
        unfold dictKeep at hk
        rw [h7] at hk
        cases hv : hasV acc (arg0 d) with
        | true => exact hasV_iff.1 hv
        | false =>
          have e : (dictHas past (arg0 d) == none') = false := beq_false_of_ne hh
          rw [e, hv] at hk
          have := congrArg List.length hk
          simp at this
      rw [hk]
      obtain ⟨a1, a2, a3⟩ := keep_spec past (l := l) h
      refine ⟨a1, fun y => ?_, by simp only [List.length_cons]; omega⟩
      rw [a2]
      constructor
      · rintro (q | ⟨⟨e, he, q⟩, r⟩)
        · exact .inl q
        · exact .inr ⟨⟨e, List.mem_cons_of_mem _ he, q⟩, r⟩
      · rintro (q | ⟨⟨e, he, q1, q2⟩, r⟩)
        · exact .inl q
        · rcases List.mem_cons.1 he with rfl | he
          · subst q2; exact .inl (hno q1 r)
          · exact .inr ⟨⟨e, he, q1, q2⟩, r⟩
    · rw [hk]
      have hnd : (acc ++ [arg0 d]).Nodup := by
        rw [List.nodup_append]
        exact ⟨h, by simp, fun a ha b hb => by rw [List.mem_singleton.1 hb]; exact fun e => hn (e ▸ ha)⟩
      obtain ⟨a1, a2, a3⟩ := keep_spec past (l := l) hnd
      refine ⟨a1, fun y => ?_, by simp only [List.length_append, List.length_cons, List.length_nil] at a3 ⊢; omega⟩
      rw [a2]
      constructor
      · rintro (q | ⟨⟨e, he, q⟩, r⟩)
        · rcases List.mem_append.1 q with q | q
          · exact .inl q
          · obtain rfl := List.mem_singleton.1 q
            exact .inr ⟨⟨d, List.mem_cons_self, h7, rfl⟩, hh⟩
        · exact .inr ⟨⟨e, List.mem_cons_of_mem _ he, q⟩, r⟩
      · rintro (q | ⟨⟨e, he, q1, q2⟩, r⟩)
        · exact .inl (List.mem_append_left _ q)
        · rcases List.mem_cons.1 he with rfl | he
          · subst q2; exact .inl (List.mem_append_right _ List.mem_cons_self)
          · exact .inr ⟨⟨e, he, q1, q2⟩, r⟩
theorem dictHas_mem : ∀ {l : List Deed} {v b : Val}, l.foldl (dictHas1 v) b ≠ none' → (∃ d ∈ l, d.2.1 = 7 ∧ arg0 d = v) ∨ b ≠ none'
  | [], v, b, h => .inr h
  | d :: l, v, b, h => by
    rcases dictHas_mem (l := l) h with ⟨e, he, q⟩ | q
    · exact .inl ⟨e, List.mem_cons_of_mem _ he, q⟩
    · unfold dictHas1 at q
      cases hc : ((d.2.1 == 7 || d.2.1 == 5) && arg0 d == v) with
      | false => rw [hc] at q; exact .inr q
      | true =>
        rw [hc] at q
        cases h7 : (d.2.1 == 7) with
        | false => rw [h7] at q; exact absurd rfl q
        | true =>
          simp only [Bool.and_eq_true, beq_iff_eq] at hc h7
          exact .inl ⟨d, List.mem_cons_self, h7, hc.2⟩
theorem dict_spec (past : List Deed) : sortedV (dictKeys past) = true ∧ (∀ y, y ∈ dictKeys past ↔ dictHas past y ≠ none') ∧ (dictKeys past).length ≤ past.length := by
  obtain ⟨k1, k2, k3⟩ := keep_spec past (l := past) (acc := []) List.nodup_nil
  obtain ⟨s1, s2, s3⟩ := sort_spec (l := past.foldl (dictKeep past) []) (acc := []) rfl k1 (fun y _ h => by cases h)
  refine ⟨s1, fun y => ?_, by simp only [List.length_nil] at k3 s3; unfold dictKeys sortV; omega⟩
  unfold dictKeys sortV
  rw [s2, k2]
  simp only [List.not_mem_nil, false_or]
  refine ⟨fun h => h.2, fun h => ⟨?_, h⟩⟩
  rcases dictHas_mem h with h | h
  · exact h
  · exact absurd rfl h
theorem dict_has (past : List Deed) (v : Val) : (bif hasV (dictKeys past) v then dictHas past v else none') = dictHas past v := by
  cases h : hasV (dictKeys past) v with
  | true => rfl
  | false =>
    by_cases e : dictHas past v = none'
    · rw [e]; rfl
    · rw [hasV_iff.2 (((dict_spec past).2.1 v).2 e)] at h; cases h
/-- One step further. -/
theorem dict_next (past : List Deed) (d : Deed) (hv : d.2.1 = 7 → arg1 d ≠ none') : flatK (dictHas (past ++ [d])) (dictKeys (past ++ [d])) =
    bif d.2.1 == 7 then putL (flatK (dictHas past) (dictKeys past)) (arg0 d) (arg1 d) else bif d.2.1 == 5 then delL (flatK (dictHas past) (dictKeys past)) (arg0 d) else flatK (dictHas past) (dictKeys past) := by
  obtain ⟨s1, s2, _⟩ := dict_spec past
  obtain ⟨t1, t2, _⟩ := dict_spec (past ++ [d])
  have hm : ∀ y, (y ∈ dictKeys (past ++ [d])) ↔ dictHas1 y (dictHas past y) d ≠ none' := fun y => by rw [t2, dictHas_app]
  cases h7 : (d.2.1 == 7) with
  | true =>
    simp only [cond_true]
    have h7' : d.2.1 = 7 := eq_of_beq h7
    have hb : ∀ y, dictHas1 y (dictHas past y) d = updV (dictHas past) (arg0 d) (arg1 d) y := fun y => by unfold dictHas1 updV; rw [h7]; rfl
    rw [put_flat s1]
    have hk : dictKeys (past ++ [d]) = insV (dictKeys past) (arg0 d) := by
      refine sorted_ext t1 (sorted_ins s1) fun y => ?_
      rw [hm, hb, mem_ins, s2]
      by_cases e : y = arg0 d
      · subst e; rw [upd_same]; simp [hv h7']
      · rw [upd_ne e]; simp [e]
    rw [hk]
    exact flat_congr fun y _ => by rw [dictHas_app, hb]
  | false =>
    simp only [cond_false]
    cases h5 : (d.2.1 == 5) with
    | true =>
      simp only [cond_true]
      have hb : ∀ y, dictHas1 y (dictHas past y) d = bif arg0 d == y then none' else dictHas past y := fun y => by unfold dictHas1; rw [h7, h5]; rfl
      rw [del_flat s1]
      have hk : dictKeys (past ++ [d]) = delV (dictKeys past) (arg0 d) := by
        refine sorted_ext t1 (sorted_del s1) fun y => ?_
        rw [hm, hb, mem_del s1, s2]
        cases e : (arg0 d == y) with
        | true => have := eq_of_beq e; simp [this]
        | false =>
          have : y ≠ arg0 d := fun q => by rw [q, beq_self_eq_true] at e; cases e
          simp [this]
      rw [hk]
      refine flat_congr fun y hy => ?_
      rw [dictHas_app, hb]
      have := ((mem_del s1).1 hy).2
      rw [beq_false_of_ne (fun e => this e.symm)]; rfl
    | false =>
      simp only [cond_false]
      have hb : ∀ y, dictHas1 y (dictHas past y) d = dictHas past y := fun y => by unfold dictHas1; rw [h7, h5]; rfl
      have hk : dictKeys (past ++ [d]) = dictKeys past := sorted_ext t1 s1 fun y => by rw [hm, hb, s2]
      rw [hk]
      exact flat_congr fun y _ => by rw [dictHas_app, hb]

/-! Parts of a scan -/
theorem lessV_cases {a b : Val} (h : lessV a b = false) (hne : a ≠ b) : lessV b a = true := by
  cases h' : lessV b a with
  | true => rfl
  | false => exact absurd (lessV_total h h') hne
theorem flat_getD {f : Val → Val} {d : Val} : ∀ {ks : List Val} {i : Nat}, i < ks.length → (flatK f ks).getD (2 * i) d = ks.getD i d
  | [], i, h => by simp at h
  | k :: ks, 0, _ => rfl
  | k :: ks, i + 1, h => by
    have := flat_getD (f := f) (d := d) (ks := ks) (i := i) (by simpa using h)
    rw [show 2 * (i + 1) = 2 * i + 1 + 1 by omega, flat_cons]
    simpa using this
theorem filter_congr' {p q : Val → Bool} {l : List Val} (h : ∀ y ∈ l, p y = q y) : l.filter p = l.filter q := List.filter_congr h
theorem filter_none {p : Val → Bool} {l : List Val} (h : ∀ y ∈ l, p y = false) : l.filter p = [] := List.filter_eq_nil_iff.2 fun y hy => by rw [h y hy]; decide

theorem parts_law {ks : List Val} {f : Val → Val} {e a b : Val} (hs : sortedV ks = true) (ha : lessV a e = false) (hab : lessV b a = false) :
    let low := flatK f (ks.filter (betw e a)); let high := flatK f (ks.filter (betw a b)); let all := flatK f (ks.filter (betw e b))
    (2 ≤ low.length → low.getD (low.length - 2) none' = a → 2 ≤ high.length → all = low ++ high.drop 2) ∧
    (¬ (2 ≤ low.length ∧ low.getD (low.length - 2) none' = a ∧ 2 ≤ high.length) → all = low ++ high) := by
  intro low high all
  have hP : ∀ y, lessV y a = true → betw e a y = !(lessV y e) ∧ betw a b y = false ∧ betw e b y = !(lessV y e) := fun y hy => by
    have h1 : lessV a y = false := lessV_asymm hy
    have h2 : lessV b y = false := by
      cases h : lessV b y with
      | false => rfl
      | true => rw [lessV_trans h hy] at hab; cases hab
    unfold betw
    rw [h1, h2, hy]
    exact ⟨by simp, rfl, by simp⟩
  have hQ : ∀ y, lessV a y = true → betw e a y = false ∧ betw a b y = !(lessV b y) ∧ betw e b y = !(lessV b y) := fun y hy => by
    have h1 : lessV y a = false := lessV_asymm hy
    have h2 : lessV y e = false := by
      cases h : lessV y e with
      | false => rfl
      | true => rw [lessV_trans hy h] at ha; cases ha
    unfold betw
    rw [h1, h2, hy]
    exact ⟨by simp, by simp, by simp⟩
  cases hx : hasV ks a with
  | true =>
    obtain ⟨he, hlt, _, _⟩ := key_split hs hx
    have hsp := (sorted_split (lbV a ks) hs).2.1
    have hPm : ∀ y ∈ ks.take (lbV a ks), lessV y a = true := fun y hy => lb_take a hy
    have hQm : ∀ y ∈ ks.drop (lbV a ks + 1), lessV a y = true := by
      have hd := drop_getD (d := none') hlt
      rw [has_lb hs] at hx
      simp only [Bool.and_eq_true, decide_eq_true_eq, beq_iff_eq] at hx
      rw [hx.2] at hd
      rw [hd] at hsp
      exact (sorted_cons.1 hsp).1
    have l1 : ks.filter (betw e a) = (ks.take (lbV a ks)).filter (fun y => !(lessV y e)) ++ [a] := by
      conv => lhs; rw [he]
      rw [List.filter_append, List.filter_cons, filter_congr' (fun y hy => (hP y (hPm y hy)).1), filter_none (l := ks.drop _) (fun y hy => (hQ y (hQm y hy)).1)]
      have : betw e a a = true := by unfold betw; rw [ha, lessV_self]; rfl
      rw [this]; rfl
    have l2 : ks.filter (betw a b) = a :: (ks.drop (lbV a ks + 1)).filter (fun y => !(lessV b y)) := by
      conv => lhs; rw [he]
      rw [List.filter_append, List.filter_cons, filter_none (l := ks.take _) (fun y hy => (hP y (hPm y hy)).2.1), filter_congr' (l := ks.drop _) (fun y hy => (hQ y (hQm y hy)).2.1)]
      have : betw a b a = true := by unfold betw; rw [hab, lessV_self]; rfl
      rw [this]; rfl
    have l3 : ks.filter (betw e b) = (ks.take (lbV a ks)).filter (fun y => !(lessV y e)) ++ a :: (ks.drop (lbV a ks + 1)).filter (fun y => !(lessV b y)) := by
      conv => lhs; rw [he]
      rw [List.filter_append, List.filter_cons, filter_congr' (l := ks.take _) (fun y hy => (hP y (hPm y hy)).2.2), filter_congr' (l := ks.drop _) (fun y hy => (hQ y (hQm y hy)).2.2)]
      have : betw e b a = true := by unfold betw; rw [ha, hab]; rfl
      rw [this]; rfl
    generalize (ks.take (lbV a ks)).filter (fun y => !(lessV y e)) = A at l1 l3
    generalize (ks.drop (lbV a ks + 1)).filter (fun y => !(lessV b y)) = B at l2 l3
    have e1 : low = flatK f A ++ [a, f a] := by show flatK f (ks.filter _) = _; rw [l1, flat_app]; rfl
    have e2 : high = a :: f a :: flatK f B := by show flatK f (ks.filter _) = _; rw [l2, flat_cons]
    have e3 : all = flatK f A ++ a :: f a :: flatK f B := by show flatK f (ks.filter _) = _; rw [l3, flat_app, flat_cons]
    have n1 : low.length = (flatK f A).length + 2 := by rw [e1]; simp
    have n2 : 2 ≤ high.length := by rw [e2]; simp
    have n3 : low.getD (low.length - 2) none' = a := by
      rw [n1, e1, List.getD_eq_getElem?_getD, List.getElem?_append_right (by omega)]
      simp
    refine ⟨fun _ _ _ => by rw [e1, e2, e3]; simp, fun h => absurd ⟨by omega, n3, n2⟩ h⟩
  | false =>
    have hPm : ∀ y ∈ ks.take (lbV a ks), lessV y a = true := fun y hy => lb_take a hy
    have hQm : ∀ y ∈ ks.drop (lbV a ks), lessV a y = true := fun y hy =>
      lessV_cases (lb_drop a hs hy) (fun e => by subst e; rw [hasV_iff.2 (List.mem_of_mem_drop hy)] at hx; cases hx)
    have l1 : ks.filter (betw e a) = (ks.take (lbV a ks)).filter (fun y => !(lessV y e)) := by
      conv => lhs; rw [← List.take_append_drop (lbV a ks) ks]
      rw [List.filter_append, filter_congr' (l := ks.take _) (fun y hy => (hP y (hPm y hy)).1), filter_none (l := ks.drop _) (fun y hy => (hQ y (hQm y hy)).1), List.append_nil]
    have l2 : ks.filter (betw a b) = (ks.drop (lbV a ks)).filter (fun y => !(lessV b y)) := by
      conv => lhs; rw [← List.take_append_drop (lbV a ks) ks]
      rw [List.filter_append, filter_none (l := ks.take _) (fun y hy => (hP y (hPm y hy)).2.1), filter_congr' (l := ks.drop _) (fun y hy => (hQ y (hQm y hy)).2.1), List.nil_append]
    have l3 : ks.filter (betw e b) = (ks.take (lbV a ks)).filter (fun y => !(lessV y e)) ++ (ks.drop (lbV a ks)).filter (fun y => !(lessV b y)) := by
      conv => lhs; rw [← List.take_append_drop (lbV a ks) ks]
      rw [List.filter_append, filter_congr' (l := ks.take _) (fun y hy => (hP y (hPm y hy)).2.2), filter_congr' (l := ks.drop _) (fun y hy => (hQ y (hQm y hy)).2.2)]
    have hall : all = low ++ high := by show flatK f (ks.filter _) = flatK f (ks.filter _) ++ flatK f (ks.filter _); rw [l1, l2, l3, flat_app]
    refine ⟨fun n1 n3 _ => ?_, fun _ => hall⟩
    exfalso
    have hlen : low.length = 2 * (ks.filter (betw e a)).length := flat_len f _
    have hi : (ks.filter (betw e a)).length - 1 < (ks.filter (betw e a)).length := by omega
    have hg : low.getD (low.length - 2) none' = (ks.filter (betw e a)).getD ((ks.filter (betw e a)).length - 1) none' := by
      rw [hlen, show 2 * (ks.filter (betw e a)).length - 2 = 2 * ((ks.filter (betw e a)).length - 1) by omega]
      exact flat_getD hi
    have hm := getD_mem (d := none') hi
    rw [← hg, n3, l1] at hm
    have := hPm a (List.mem_filter.1 hm).1
    rw [lessV_self] at this; cases this

theorem parts_none {ks : List Val} {f : Val → Val} {a b : Val} (hab : lessV b a = false) (hne : a ≠ b) : flatK f (ks.filter (betw b a)) = [] := by
  have hlt : lessV a b = true := lessV_cases hab fun e => hne e.symm
  rw [filter_none fun y _ => ?_]
  · rfl
  · unfold betw
    cases h1 : lessV y b with
    | true => rfl
    | false =>
      have : lessV a y = true := by
        by_cases e : y = b
        · rw [e]; exact hlt
        · exact lessV_trans hlt (lessV_cases h1 e)
      rw [this]; rfl
end Go.Inc
