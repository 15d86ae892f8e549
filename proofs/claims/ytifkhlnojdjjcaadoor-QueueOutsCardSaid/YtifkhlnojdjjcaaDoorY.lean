/- Own text of this session: a part of the proof; no condition of its own. -/
import Derived.Test.YtifkhlnojdjjcaaDoorZ
set_option linter.unusedVariables false
set_option linter.unusedSimpArgs false
set_option maxRecDepth 100000
namespace Go.L15
open Go Go.Abs Go.Inc
/-! What may come out -/
def fuel18 (s : State) : Nat := 0
theorem plain18 (s : State) (h : okPop s = true) : F18 0 s = some (copyS s, ()) := by
  have hs : s.2.2.2.1.length ≤ 1000000 := of_decide_eq_true h
  unfold F18 copyS
  rw [cond_dec (by simp only [List.length_nil]; omega)]
  rfl
theorem w28x (N : Nat) {β : Type} (x0 : List Int → Bool → List Val → Option β) (x1 : List Int → List Val → Option β) (l : List Val) (hl : okVs l = true) (hs : l.length ≤ 1000) :
    ∀ (n k : Nat) (acc : List Int), l.length - k < n → acc.length = k → k ≤ l.length →
    W28x_5 N x0 x1 n acc l.length (l.length : Int) (k : Int) l = match pairs k (l.drop k) with | some r => x1 (acc ++ r) l | none => x0 [] false l
  | 0, k, acc, h, _, _ => by omega
  | n + 1, k, acc, h, hb, hk => by
    have ih := w28x N x0 x1 l hl hs n (k + 1)
    unfold W28x_5
    by_cases hd : k < l.length
    · have hv := (okVs_iff.1 hl).2 _ (getD_mem (d := ((0 : Int), ((0 : Int), (ByteArray.empty, ())))) hd)
      rw [cond_dec (by omega), cond_t (in_dec hd), Int.toNat_natCast, cond_dec hd, drop_getD (d := ((0 : Int), ((0 : Int), (ByteArray.empty, ())))) hd, tm2]
      generalize List.getD l k ((0 : Int), ((0 : Int), (ByteArray.empty, ()))) = v at hv
      have hok : ∀ d, okT d v = true := fun d => hv
      have hk1 : IntKind.wrap .i64 ((k : Int) + 1) = ((k + 1 : Nat) : Int) := by rw [wi64 _ (by omega) (by omega)]; omega
      have hlen : decide ((acc.length + (List.length ((4 : Int) :: ([] : List Int)))) * 8 ≤ 140737488351232) = true := decide_eq_true (by simp; omega)
      have hlen2 : decide ((acc.length + (List.length ((2 : Int) :: ([] : List Int)))) * 8 ≤ 140737488351232) = true := decide_eq_true (by simp; omega)
      simp only [hok, cond_true, hlen, hlen2, hk1, pairs, dpair]
      by_cases hp : k % 2 = 1
      · rw [cond_dec hp, if_pos hp]
        cases takes 2 v with
        | false => rfl
        | true =>
          simp only [Bool.not_true, cond_false, cond_true]
          rw [ih _ (by omega) (by simp; omega) (by omega)]
          cases pairs (k + 1) (l.drop (k + 1)) with
          | none => rfl
          | some r => simp
      · rw [cond_dec' hp, if_neg hp]
        cases takes 4 v with
        | false => rfl
        | true =>
          simp only [Bool.not_true, cond_false, cond_true]
          rw [ih _ (by omega) (by simp; omega) (by omega)]
          cases pairs (k + 1) (l.drop (k + 1)) with
          | none => rfl
          | some r => simp
    · rw [cond_dec' (by omega), List.drop_eq_nil_of_le (by omega)]; simp [pairs]
def fuel28x (n : Nat) (l : List Val) : Nat := l.length + 1
theorem plain28x (n : Nat) (l : List Val) (h : okPX n l = true) : F28x (fuel28x n l) n l = some ((pairedGo l).1, ((pairedGo l).2.1, (l, ()))) := by
  simp only [okPX, okL, Bool.and_eq_true, decide_eq_true_eq] at h
  obtain ⟨rfl, h⟩ := h
  unfold F28x pairedGo
  have e : ((Int.tmod (((List.length l) : Nat) : Int) (2 : Int)) != (0 : Int)) = !decide (l.length % 2 = 0) := by
    rw [Int.tmod_eq_emod_of_nonneg (by omega)]
    show (!(_ == _)) = _
    congr 1
    rw [Bool.eq_iff_iff]; simp only [beq_iff_eq, decide_eq_true_eq]; omega
  rw [e]
  cases decide (l.length % 2 = 0) with
  | false => rfl
  | true =>
    have hw := w28x (fuel28x l.length l) (fun t2 t3 b => (some (t2, (t3, (b, ()))) : Option (HS.den X28x.hout))) (fun t4 b => some (t4, (true, (b, ())))) l h.1 h.2 (l.length + 1) 0 [] (by omega) rfl (by omega)
    rw [show ((0 : Nat) : Int) = 0 from rfl, List.drop_zero] at hw
    simp only [Bool.not_true, cond_false, cond_true]
    refine Eq.trans hw ?_
    cases pairs 0 l <;> rfl
def fuel19x (m o : Int) (n : Nat) (l : List Val) : Nat := 0
theorem plain19x (m o : Int) (n : Nat) (l : List Val) (h : okOX m o n l = true) : F19x 0 m o n l = some ((outsGo m o l).1, ((outsGo m o l).2.1, (l, ()))) := by
  simp only [okOX, Bool.and_eq_true, decide_eq_true_eq] at h
  obtain ⟨rfl, h'⟩ := h
  have hPX : okPX l.length l = true := by simp [okPX, h']
  have h2 := h'
  simp only [okL, Bool.and_eq_true, decide_eq_true_eq] at h2
  unfold F19x outsGo signOuts findGo
  cases hf : sfind m o with
  | none => rfl
  | some r =>
    simp only [Bool.not_true, cond_false, hPX, cond_true]
    cases decide (r.2.2.2.1 < 0) with
    | true =>
      simp only [cond_true]
      cases l with
      | nil => rfl
      | cons a l =>
        have e : ((((a :: l).length : Nat) : Int) == 0) = false := beq_false_of_ne (by simp only [List.length_cons]; omega)
        rw [e]; rfl
    | false =>
      simp only [cond_false]
      cases (r.2.2.2.1 == 99) with
      | true =>
        simp only [cond_true]
        unfold pairedGo
        cases decide (l.length % 2 = 0) with
        | false => rfl
        | true => cases pairs 0 l <;> rfl
      | false =>
        simp only [cond_false]
        match l, h2 with
        | [], _ => rfl
        | [v], h2 =>
          have hv : ∀ d, okT d v = true := fun d => (okVs_iff.1 h2.1).2 v (by simp)
          have e1 : (((List.length [v] : Nat) : Int) != 1) = false := rfl
          have e2 : (decide ((0 : Int) ≤ 0) && decide ((0 : Int) < ((List.length [v] : Nat) : Int))) = true := rfl
          have e3 : decide ((0 : Nat) < List.length [v]) = true := rfl
          rw [e1, e2]
          simp only [cond_false, cond_true, Int.toNat_zero, List.getD_cons_zero, hv, vnone, e3]
          cases takes r.2.2.2.1 v <;> cases r.2.2.2.2.1 <;> cases (v == none') <;> rfl
        | v :: w :: l, _ =>
          have e1 : (((List.length (v :: w :: l) : Nat) : Int) != 1) = true := bne_iff_ne.2 (by simp only [List.length_cons]; omega)
          rw [e1]; rfl
def fuel12x (a b c : Int) (d : ByteArray) (e : Int) (l : List Val) (f g : Int) (s : ByteArray) (o : Int) (args : List Val) : Nat := 0
theorem plain12x (a b c : Int) (d : ByteArray) (e : Int) (l : List Val) (f g : Int) (s : ByteArray) (o : Int) (args : List Val) (h : okStepX (a, ((b, (c, (d, ()))), (e, (l, ())))) (f, (g, (s, ()))) o args = true) :
    F12x 0 a b c d e l f g s o args = some (stepX (queueStep (a, ((b, (c, (d, ()))), (e, (l, ())))) (f, (g, (s, ()))) o args)) := by
  simp only [okStepX, Bool.and_eq_true] at h
  obtain ⟨h1, h2, h3⟩ := h
  have hT : okT 0 (f, (g, (s, ()))) = true := h2
  have hF : okF a o args = true := h3
  have hs : l.length ≤ 1000000 := of_decide_eq_true h1
  unfold F12x queueStep stepOk
  rw [queueNew_ok]
  show _ = some (stepX (bif (qOwn a && (takes 0 (f, (g, (s, ()))) && fits a o args)) then _ else _))
  cases hq : qOwn a with
  | false => rfl
  | true =>
    simp only [Bool.not_true, cond_false, hT, cond_true, hF, Bool.true_and]
    cases takes 0 (f, (g, (s, ()))) with
    | false => rfl
    | true =>
      simp only [Bool.not_true, cond_false, Bool.true_and]
      cases hf : fits a o args with
      | false => rfl
      | true =>
        simp only [Bool.not_true, cond_false, cond_true]
        cases ho : (o == 9) with
        | true =>
          rw [beq_iff_eq] at ho; subst ho
          obtain ⟨v, rfl, _⟩ := fits_push hq hf
          simp only [cond_true, sub_all]
          rw [cond_t (by simp), cond_t (by simp), cond_t (by simp), cond_dec (by simp only [List.length_cons, List.length_nil]; omega)]
          rfl
        | false =>
          simp only [cond_false]
          rw [cond_t h1]; rfl
theorem w5_18 (N : Nat) {β : Type} (x3 : Int → Int → Int → Int → ByteArray → Int → List Val → Int → Int → Int → ByteArray → Int → List Val → Int → Int → Int → ByteArray → Int → List Val → List Deed → Int → Int → Option β) (m : Int) (s i t : State) (l : List Deed) (a b : Int) (z : Nat) (hz : z ≤ 1000) :
    ∀ (n k : Nat) (o : List Val), z - k < n → o.length = z →
    W5_18 N x3 n m s.1 s.2.1.1 s.2.1.2.1 s.2.1.2.2.1 s.2.2.1 s.2.2.2.1 i.1 i.2.1.1 i.2.1.2.1 i.2.1.2.2.1 i.2.2.1 i.2.2.2.1 t.1 t.2.1.1 t.2.1.2.1 t.2.1.2.2.1 t.2.2.1 t.2.2.2.1 z l a b o (z : Int) (k : Int) =
      x3 m s.1 s.2.1.1 s.2.1.2.1 s.2.1.2.2.1 s.2.2.1 s.2.2.2.1 i.1 i.2.1.1 i.2.1.2.1 i.2.1.2.2.1 i.2.2.1 i.2.2.2.1 t.1 t.2.1.1 t.2.1.2.1 t.2.1.2.2.1 t.2.2.1 t.2.2.2.1 l a b
  | 0, k, o, h, _ => by omega
  | n + 1, k, o, h, ho => by
    unfold W5_18
    by_cases hd : k < z
    · rw [cond_dec (by omega), cond_t (in_dec hd), Int.toNat_natCast, cond_dec (by omega), wi64 _ (by omega) (by omega), show ((k : Int) + 1) = ((k + 1 : Nat) : Int) by omega]
      exact w5_18 N x3 m s i t l a b z hz n (k + 1) _ (by omega) (by simp [ho])
    · rw [cond_dec' (by omega)]
theorem pop_mem {m : Int} {l : List Val} : (∀ v ∈ (popL m l).1, v ∈ l) ∧ ((popL m l).2 = none' ∨ (popL m l).2 ∈ l) := by
  cases l with
  | nil => exact ⟨by simp [popL], .inl rfl⟩
  | cons v r =>
    unfold popL
    cases (m == 5) with
    | true => exact ⟨fun w hw => List.mem_cons_of_mem _ hw, .inr List.mem_cons_self⟩
    | false =>
      refine ⟨fun w hw => List.dropLast_subset _ hw, .inr ?_⟩
      simp only [cond_false]
      rw [List.getLastD_eq_getLast?, List.getLast?_eq_some_getLast (by simp), Option.getD_some]
      exact List.getLast_mem _
def goodL (l : List Val) : Prop := ∀ v ∈ l, okV v = true ∧ takes 2 v = true
theorem outs_step {m : Int} (hm : qOwn m = true) {L : List Val} (hL : goodL L) (d : Deed) (hd : okVs d.2.2.1 = true) :
    queueStep (mkS m none' 0 L) d.1 d.2.1 d.2.2.1 = (noS, [], false, ()) ∨ ∃ (L' out : List Val), queueStep (mkS m none' 0 L) d.1 d.2.1 d.2.2.1 = (mkS m none' 0 L', out, true, ()) ∧ L'.length ≤ L.length + 1 ∧ goodL L' ∧ okVs out = true ∧ out.length ≤ 1 ∧ (signOuts m d.2.1 out).2 = true := by
  unfold queueStep stepOk
  show (bif (qOwn m && (takes 0 d.1 && fits m d.2.1 d.2.2.1)) then _ else _) = _ ∨ ∃ (L' out : List Val), (bif (qOwn m && (takes 0 d.1 && fits m d.2.1 d.2.2.1)) then _ else _) = _ ∧ _
  rw [hm]
  cases hc : (takes 0 d.1 && fits m d.2.1 d.2.2.1) with
  | false => exact .inl rfl
  | true =>
    have hf : fits m d.2.1 d.2.2.1 = true := by rw [Bool.and_eq_true] at hc; exact hc.2
    refine .inr ?_
    rcases ops_queue hm hf with ho | ho
    · rw [ho] at hf ⊢
      obtain ⟨v, e, hv⟩ := fits_push hm hf
      rw [e] at hd ⊢
      refine ⟨L ++ [v], [], rfl, by simp, ?_, rfl, by simp, ?_⟩
      · intro w hw
        rcases List.mem_append.1 hw with hw | hw
        · exact hL w hw
        · obtain rfl := List.mem_singleton.1 hw
          exact ⟨(okVs_iff.1 hd).2 _ (by simp), hv⟩
      · rcases qOwn_cases hm with rfl | rfl <;> decide +kernel
    · rw [ho] at hf ⊢
      obtain ⟨p1, p2⟩ := pop_mem (m := m) (l := L)
      have hk : okV (popL m L).2 = true := by
        rcases p2 with p2 | p2
        · rw [p2]; rfl
        · exact (hL _ p2).1
      refine ⟨(popL m L).1, [(popL m L).2], rfl, ?_, fun w hw => hL w (p1 w hw), okVs_one hk, by simp, ?_⟩
      · have := qStep_len m L (none', 10, [], ())
        exact this
      · have e : sfind m 10 = some (row m 10 [] 2 true) := by rcases qOwn_cases hm with rfl | rfl <;> decide +kernel
        unfold signOuts
        rw [e]
        show ((bif takes 2 (popL m L).2 || (true && (popL m L).2 == none') then (([2] : List Int), true) else ([], false)) : List Int × Bool).2 = true
        rcases p2 with p2 | p2
        · rw [p2, beq_self_eq_true, Bool.and_self, Bool.or_true]; rfl
        · rw [(hL _ p2).2]; rfl
theorem w5_7 (N : Nat) (hN : 10 ≤ N) {β : Type} (x0 : Bool → Option β) (x1 : Unit → Option β) (m : Int) (hm : qOwn m = true) (l : List Deed) (hok : ∀ d ∈ l, okDeed d = true ∧ d.2.2.1.length ≤ 10) (hl : l.length ≤ 40) :
    ∀ (n k : Nat) (L : List Val), l.length - k < n → L.length ≤ k → goodL L →
    W5_7 N x0 x1 n m m 0 0 ByteArray.empty 0 L l (l.length : Int) (k : Int) = x1 ()
  | 0, k, _, h, _, _ => by omega
  | n + 1, k, L, h, hk, hp => by
    unfold W5_7
    by_cases hd : k < l.length
    · have hmem := getD_mem (d := (((0 : Int), ((0 : Int), (ByteArray.empty, ()))), ((0 : Int), (([] : List Val), ())))) hd
      rw [cond_dec (by omega), cond_t (in_dec hd), Int.toNat_natCast, wi64 _ (by omega) (by omega), show ((k : Int) + 1) = ((k + 1 : Nat) : Int) by omega,
        show ((m, (((0 : Int), ((0 : Int), (ByteArray.empty, ()))), ((0 : Int), (L, ())))) : State) = mkS m none' 0 L from rfl]
      generalize List.getD l k (((0 : Int), ((0 : Int), (ByteArray.empty, ()))), ((0 : Int), ([], ()))) = d at hmem
      obtain ⟨ho, h10⟩ := hok d hmem
      obtain ⟨hv, hvs⟩ := okDeed_parts ho
      have q0 : okPop (mkS m none' 0 L) = true := decide_eq_true (show L.length ≤ 1000000 by omega)
      have q1 : okStepX (mkS m none' 0 L) d.1 d.2.1 d.2.2.1 = true := by
        simp only [okStepX, okL, Bool.and_eq_true, decide_eq_true_eq]
        exact ⟨q0, hv, hvs, by omega⟩
      have q4 : okSame2 L L = true := by simp only [okSame2, Bool.and_eq_true, decide_eq_true_eq]; omega
      have q5 : okSS (copyS (mkS m none' 0 L)) (mkS m none' 0 L) = true := q4
      have q6 : sameS (copyS (mkS m none' 0 L)) (mkS m none' 0 L) = true := sameS_self _
      rw [q0, q1, q5, q6]
      rcases outs_step hm hp d hvs with e | ⟨L', out, e, h1, h2, h3, h4, h5⟩
      · rw [e]
        simp only [cond_true, Bool.not_true, cond_false]
        exact w5_7 N hN x0 x1 m hm l hok hl n (k + 1) L (by omega) (by omega) hp
      · rw [e]
        have q7 : okOX m d.2.1 out.length out = true := by simp only [okOX, okL, Bool.and_eq_true, decide_eq_true_eq]; exact ⟨trivial, h3, by omega⟩
        have q8 : (outsGo m d.2.1 out).2.1 = true := h5
        have q9 : (m != m) = false := bne_self_eq_false _
        simp only [cond_true, Bool.not_true, cond_false, stepX, q7, q8]
        show (bif (m != m) then _ else _) = _
        rw [q9, cond_false]
        refine Eq.trans (w5_18 N _ m (mkS m none' 0 L) (copyS (mkS m none' 0 L)) (mkS m none' 0 L') l _ _ out.length (by omega) N 0 out (by omega) rfl) ?_
        show (bif okSS (copyS (mkS m none' 0 L)) (mkS m none' 0 L) then bif (!sameS (copyS (mkS m none' 0 L)) (mkS m none' 0 L)) then _ else _ else _) = _
        rw [q5, q6, wi64 _ (by omega) (by omega), show ((k : Int) + 1) = ((k + 1 : Nat) : Int) by omega]
        exact w5_7 N hN x0 x1 m hm l hok hl n (k + 1) L' (by omega) (by omega) h2
    · rw [cond_dec' (by omega)]
def fuel5 (m : Int) (l : List Deed) : Nat := 50
theorem plain5 (m : Int) (l : List Deed) (h : okPlays m l = true) : F5 (fuel5 m l) m l = some (true, ()) := by
  have h' : okDs l = true := h
  unfold F5
  rw [queueNew_ok, h']
  cases hm : qOwn m with
  | false => rfl
  | true =>
    simp only [Bool.not_true, cond_false, cond_true]
    cases hg : greatD l with
    | true => rfl
    | false =>
      simp only [cond_false]
      rw [greatD_eq, Bool.or_eq_false_iff, decide_eq_false_iff_not, List.any_eq_false] at hg
      unfold queueNew
      rw [hm]
      refine w5_7 _ (by unfold fuel5; decide) _ _ m hm l (fun d hd => ⟨okDs_mem h' hd, ?_⟩) (by omega) 50 0 [] (by omega) (by simp) (fun _ h => by cases h)
      have := hg.1 d hd
      simp only [bigD, Bool.or_eq_true, decide_eq_true_eq, not_or] at this
      omega

end Go.L15
