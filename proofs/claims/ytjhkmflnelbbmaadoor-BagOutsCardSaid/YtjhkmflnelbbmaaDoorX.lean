/- Own text of this session: a part of the proof; no condition of its own. -/
import Derived.Test.YtjhkmflnelbbmaaDoorZ3
set_option linter.unusedVariables false
set_option linter.unusedSimpArgs false
set_option maxRecDepth 100000
namespace Go.L14
open Go Go.Abs Go.Inc
/-! What may come out -/
def fuel18 (s : State) : Nat := 0
theorem plain18 (s : State) (h : okPop s = true) : F18 0 s = some (copyS s, ()) := by
  have hs : s.2.2.2.1.length ≤ 1000000 := of_decide_eq_true h
  unfold F18 copyS
  rw [cond_dec (by simp only [List.length_nil]; omega)]
  rfl
theorem w33x (N : Nat) {β : Type} (x0 : List Int → Bool → List Val → Option β) (x1 : List Int → List Val → Option β) (l : List Val) (hl : okVs l = true) (hs : l.length ≤ 1000) :
    ∀ (n k : Nat) (acc : List Int), l.length - k < n → acc.length = k → k ≤ l.length →
    W33x_5 N x0 x1 n acc l.length (l.length : Int) (k : Int) l = match pairs k (l.drop k) with | some r => x1 (acc ++ r) l | none => x0 [] false l
  | 0, k, acc, h, _, _ => by omega
  | n + 1, k, acc, h, hb, hk => by
    have ih := w33x N x0 x1 l hl hs n (k + 1)
    unfold W33x_5
    by_cases hd : k < l.length
    · have hv := (okVs_iff.1 hl).2 _ (getD_mem (d := ((0 : Int), ((0 : Int), (ByteArray.empty, ())))) hd)
      rw [cond_dec (by omega), cond_t (in_dec hd), Int.toNat_natCast, cond_dec hd, drop_getD (d := ((0 : Int), ((0 : Int), (ByteArray.empty, ())))) hd, tm2]
      generalize List.getD l k ((0 : Int), ((0 : Int), (ByteArray.empty, ()))) = v at hv
      have hok : ∀ d, okT d v = true := fun d => hv
      have hk1 : IntKind.wrap .i64 ((k : Int) + 1) = ((k + 1 : Nat) : Int) := by rw [wi64 _ (by omega) (by omega)]; omega
      have hlen : decide ((acc.length + (List.length ((4 : Int) :: ([] : List Int)))) * 8 ≤ 140737488351232) = true := decide_eq_true (by simp; omega)
      have hlen2 : decide ((acc.length + (List.length ((2 : Int) :: ([] : List Int)))) * 8 ≤ 140737488351232) = true := decide_eq_true (by simp; omega)
      simp only [hok, cond_true, hlen, hlen2, hk1, pairs, dpair]
      by_cases hp : k % 2 = 1
      · rw [cond_dec hp, if_pos hp]
        cases takes 2 v with
        | false => rfl
        | true =>
          simp only [Bool.not_true, cond_false, cond_true]
          rw [ih _ (by omega) (by simp; omega) (by omega)]
          cases pairs (k + 1) (l.drop (k + 1)) with
          | none => rfl
          | some r => simp
      · rw [cond_dec' hp, if_neg hp]
        cases takes 4 v with
        | false => rfl
        | true =>
          simp only [Bool.not_true, cond_false, cond_true]
          rw [ih _ (by omega) (by simp; omega) (by omega)]
          cases pairs (k + 1) (l.drop (k + 1)) with
          | none => rfl
          | some r => simp
    · rw [cond_dec' (by omega), List.drop_eq_nil_of_le (by omega)]; simp [pairs]
def fuel33x (n : Nat) (l : List Val) : Nat := l.length + 1
theorem plain33x (n : Nat) (l : List Val) (h : okPX n l = true) : F33x (fuel33x n l) n l = some ((pairedGo l).1, ((pairedGo l).2.1, (l, ()))) := by
  simp only [okPX, okL, Bool.and_eq_true, decide_eq_true_eq] at h
  obtain ⟨rfl, h⟩ := h
  unfold F33x pairedGo
  have e : ((Int.tmod (((List.length l) : Nat) : Int) (2 : Int)) != (0 : Int)) = !decide (l.length % 2 = 0) := by
    rw [Int.tmod_eq_emod_of_nonneg (by omega)]
    show (!(_ == _)) = _
    congr 1
    rw [Bool.eq_iff_iff]; simp only [beq_iff_eq, decide_eq_true_eq]; omega
  rw [e]
  cases decide (l.length % 2 = 0) with
  | false => rfl
  | true =>
    have hw := w33x (fuel33x l.length l) (fun t2 t3 b => (some (t2, (t3, (b, ()))) : Option (HS.den X33x.hout))) (fun t4 b => some (t4, (true, (b, ())))) l h.1 h.2 (l.length + 1) 0 [] (by omega) rfl (by omega)
    rw [show ((0 : Nat) : Int) = 0 from rfl, List.drop_zero] at hw
    simp only [Bool.not_true, cond_false, cond_true]
    refine Eq.trans hw ?_
    cases pairs 0 l <;> rfl
def fuel19x (m o : Int) (n : Nat) (l : List Val) : Nat := 0
theorem plain19x (m o : Int) (n : Nat) (l : List Val) (h : okOX m o n l = true) : F19x 0 m o n l = some ((outsGo m o l).1, ((outsGo m o l).2.1, (l, ()))) := by
  simp only [okOX, Bool.and_eq_true, decide_eq_true_eq] at h
  obtain ⟨rfl, h'⟩ := h
  have hPX : okPX l.length l = true := by simp [okPX, h']
  have h2 := h'
  simp only [okL, Bool.and_eq_true, decide_eq_true_eq] at h2
  unfold F19x outsGo signOuts findGo
  cases hf : sfind m o with
  | none => rfl
  | some r =>
    simp only [Bool.not_true, cond_false, hPX, cond_true]
    cases decide (r.2.2.2.1 < 0) with
    | true =>
      simp only [cond_true]
      cases l with
      | nil => rfl
      | cons a l =>
        have e : ((((a :: l).length : Nat) : Int) == 0) = false := beq_false_of_ne (by simp only [List.length_cons]; omega)
        rw [e]; rfl
    | false =>
      simp only [cond_false]
      cases (r.2.2.2.1 == 99) with
      | true =>
        simp only [cond_true]
        unfold pairedGo
        cases decide (l.length % 2 = 0) with
        | false => rfl
        | true => cases pairs 0 l <;> rfl
      | false =>
        simp only [cond_false]
        match l, h2 with
        | [], _ => rfl
        | [v], h2 =>
          have hv : ∀ d, okT d v = true := fun d => (okVs_iff.1 h2.1).2 v (by simp)
          have e1 : (((List.length [v] : Nat) : Int) != 1) = false := rfl
          have e2 : (decide ((0 : Int) ≤ 0) && decide ((0 : Int) < ((List.length [v] : Nat) : Int))) = true := rfl
          have e3 : decide ((0 : Nat) < List.length [v]) = true := rfl
          rw [e1, e2]
          simp only [cond_false, cond_true, Int.toNat_zero, List.getD_cons_zero, hv, vnone, e3]
          cases takes r.2.2.2.1 v <;> cases r.2.2.2.2.1 <;> cases (v == none') <;> rfl
        | v :: w :: l, _ =>
          have e1 : (((List.length (v :: w :: l) : Nat) : Int) != 1) = true := bne_iff_ne.2 (by simp only [List.length_cons]; omega)
          rw [e1]; rfl

def fuel12x (a b c : Int) (d : ByteArray) (e : Int) (l : List Val) (f g : Int) (s : ByteArray) (o : Int) (args : List Val) : Nat := 0
theorem plain12x (m b c : Int) (d : ByteArray) (e : Int) (l : List Val) (f g : Int) (s : ByteArray) (o : Int) (args : List Val) (h : okBStep (m, ((b, (c, (d, ()))), (e, (l, ())))) (f, (g, (s, ()))) o args = true) :
    F12x 0 m b c d e l f g s o args = some (stepX (bagStep (m, ((b, (c, (d, ()))), (e, (l, ())))) (f, (g, (s, ()))) o args)) := by
  simp only [okBStep, Bool.and_eq_true, decide_eq_true_eq] at h
  obtain ⟨⟨h1, h2⟩, h3, h4⟩ := h
  have h1 : l.length ≤ 100 := h1
  have h2 : sortedV l = true := h2
  have hT : okT 0 (f, (g, (s, ()))) = true := h3
  have hF : okF m o args = true := h4
  unfold F12x bagStep stepOk
  have hne : (m != 3) = !(bagOwn m) := rfl
  rw [hne]
  show _ = some (stepX (bif (bagOwn m && (takes 0 (f, (g, (s, ()))) && fits m o args)) then
    (bif o == 6 then ((m, ((b, (c, (d, ()))), (e, (l, ())))), [yesV (hasV l (args.getD 0 none'))], true, ())
     else bif o == 4 then (mkS m (b, (c, (d, ()))) e (insV l (args.getD 0 none')), [], true, ())
     else (mkS m (b, (c, (d, ()))) e (delV l (args.getD 0 none')), [], true, ()))
  else (noS, [], false, ())))
  cases hq : bagOwn m with
  | false => rfl
  | true =>
    simp only [Bool.not_true, cond_false, hT, cond_true, hF, Bool.true_and]
    cases takes 0 (f, (g, (s, ()))) with
    | false => rfl
    | true =>
      simp only [Bool.not_true, cond_false, Bool.true_and]
      cases hf : fits m o args with
      | false => rfl
      | true =>
        obtain ⟨ho, hl⟩ := ops_bag hq hf
        simp only [Bool.not_true, cond_false, cond_true]
        have hx : List.getD args (Int.toNat (0 : Int)) ((0 : Int), ((0 : Int), (ByteArray.empty, ()))) = args.getD 0 none' := rfl
        rw [hx]
        generalize args.getD 0 none' = x
        rw [cond_dec (show l.length * 32 ≤ 140737488351232 by omega), cond_t (b0 (by omega))]
        have hpl : okPlace l.length l = true := by simp only [okPlace, Bool.and_eq_true, decide_eq_true_eq]; exact ⟨trivial, by omega, h2⟩
        rw [hpl, cond_true]
        have hb := lb_le x l
        unfold placeX
        rcases ho with rfl | rfl | rfl
        · -- add
          show (bif (!(hasV l x)) then _ else _) = some (stepX (mkS m (b, (c, (d, ()))) e (insV l x), [], true, ()))
          unfold insV
          cases hh : hasV l x with
          | true =>
            show (bif decide (l.length = l.length) then _ else none) = _
            rw [cond_dec rfl]; rfl
          | false =>
            show (bif (decide ((0 : Int) ≤ 0) && decide ((0 : Int) < ((args.length : Nat) : Int))) then _ else none) = _
            rw [cond_t (b0 (by omega))]
            refine (cond_t (fin_ins (x := x) h1) _ _).trans ?_
            refine (cond_dec ?_ _ _).trans rfl
            simp only [List.length_append, List.length_take, List.length_drop, List.length_singleton, Int.toNat_natCast]
            omega
        · -- del
          show (bif hasV l x then _ else _) = some (stepX (mkS m (b, (c, (d, ()))) e (delV l x), [], true, ()))
          unfold delV
          cases hh : hasV l x with
          | false =>
            show (bif decide (l.length = l.length) then _ else none) = _
            rw [cond_dec rfl]; rfl
          | true =>
            have hb' := bag_len h2 hh
            have hw : IntKind.wrap .i64 ((lbV x l : Int) + 1) = ((lbV x l + 1 : Nat) : Int) := by rw [wi64 _ (by omega) (by omega)]; omega
            show (bif (decide (l.length = l.length) && (decide ((0 : Int) ≤ (lbV x l : Int)) && (decide ((lbV x l : Int) < IntKind.wrap .i64 ((lbV x l : Int) + 1)) && (decide (IntKind.wrap .i64 ((lbV x l : Int) + 1) ≤ ((l.length : Nat) : Int)) && decide (l.length * 32 ≤ 140737488351232))))) then
              (bif decide (l.length - (Int.toNat (IntKind.wrap .i64 ((lbV x l : Int) + 1)) - Int.toNat (lbV x l : Int)) = (l.take (Int.toNat (lbV x l : Int)) ++ l.drop (Int.toNat (IntKind.wrap .i64 ((lbV x l : Int) + 1)))).length) then
                some (stepX (mkS m (b, (c, (d, ()))) e (l.take (Int.toNat (lbV x l : Int)) ++ l.drop (Int.toNat (IntKind.wrap .i64 ((lbV x l : Int) + 1)))), [], true, ())) else none) else none) = _
            rw [hw, cond_t (fin_del h1 h2 hh), Int.toNat_natCast, Int.toNat_natCast, cond_dec (by simp only [List.length_append, List.length_take, List.length_drop]; omega)]
            rfl
        · -- has
          show (bif hasV l x then _ else _) = some (stepX ((m, ((b, (c, (d, ()))), (e, (l, ())))), [yesV (hasV l x)], true, ()))
          cases hh : hasV l x with
          | true =>
            show (bif decide (l.length = l.length) then _ else none) = _
            rw [cond_dec rfl]; rfl
          | false =>
            show (bif decide (l.length = l.length) then _ else none) = _
            rw [cond_dec rfl]; rfl
theorem bouts_step {m : Int} (hm : bagOwn m = true) {L : List Val} (hs : sortedV L = true) (d : Deed) (hd : okVs d.2.2.1 = true) :
    bagStep (mkS m none' 0 L) d.1 d.2.1 d.2.2.1 = (noS, [], false, ()) ∨ ∃ (L' : List Val) (out : List Val), bagStep (mkS m none' 0 L) d.1 d.2.1 d.2.2.1 = (mkS m none' 0 L', out, true, ()) ∧ sortedV L' = true ∧ L'.length ≤ L.length + 1 ∧ okVs out = true ∧ out.length ≤ 1 ∧ (signOuts m d.2.1 out).2 = true := by
  unfold bagStep stepOk
  show (bif (bagOwn m && (takes 0 d.1 && fits m d.2.1 d.2.2.1)) then (bif d.2.1 == 6 then (mkS m none' 0 L, [yesV (hasV L (arg0 d))], true, ()) else bif d.2.1 == 4 then (mkS m none' 0 (insV L (arg0 d)), [], true, ()) else (mkS m none' 0 (delV L (arg0 d)), [], true, ())) else _) = _ ∨ ∃ (L' : List Val) (out : List Val), (bif (bagOwn m && (takes 0 d.1 && fits m d.2.1 d.2.2.1)) then
    (bif d.2.1 == 6 then (mkS m none' 0 L, [yesV (hasV L (arg0 d))], true, ()) else bif d.2.1 == 4 then (mkS m none' 0 (insV L (arg0 d)), [], true, ()) else (mkS m none' 0 (delV L (arg0 d)), [], true, ())) else _) = _ ∧ _
  rw [hm]
  have hm3 : m = 3 := eq_of_beq hm
  subst hm3
  cases hc : (takes 0 d.1 && fits 3 d.2.1 d.2.2.1) with
  | false => exact .inl rfl
  | true =>
    have hf : fits 3 d.2.1 d.2.2.1 = true := by rw [Bool.and_eq_true] at hc; exact hc.2
    obtain ⟨ho, _⟩ := ops_bag hm hf
    refine .inr ?_
    rcases ho with ho | ho | ho <;> rw [ho]
    · exact ⟨_, _, rfl, sorted_ins hs, len_ins _ _, rfl, by simp, by decide +kernel⟩
    · exact ⟨_, _, rfl, sorted_del hs, Nat.le_succ_of_le (len_del _ _), rfl, by simp, by decide +kernel⟩
    · have h1 : ∀ b, okVs [yesV b] = true := by decide +kernel
      have h2 : ∀ b, (signOuts 3 6 [yesV b]).2 = true := by decide +kernel
      exact ⟨_, _, rfl, hs, Nat.le_succ _, h1 _, by simp, h2 _⟩
theorem okSSm {m : Int} {A : List Val} (hA : A.length ≤ 1000) : okSS (copyS (mkS m none' 0 A)) (mkS m none' 0 A) = true := by
  simp only [okSS, okSame2, Bool.and_eq_true, decide_eq_true_eq]
  exact ⟨by show A.length ≤ 1000000; omega, by show A.length ≤ 1000000; omega⟩
theorem w5_18 (N : Nat) {β : Type} (x3 : Int → Int → Int → Int → ByteArray → Int → List Val → Int → Int → Int → ByteArray → Int → List Val → Int → Int → Int → ByteArray → Int → List Val → List Deed → Int → Int → Option β) (m : Int) (s i t : State) (l : List Deed) (a b : Int) (z : Nat) (hz : z ≤ 1000) :
    ∀ (n k : Nat) (o : List Val), z - k < n → o.length = z →
    W5_18 N x3 n m s.1 s.2.1.1 s.2.1.2.1 s.2.1.2.2.1 s.2.2.1 s.2.2.2.1 i.1 i.2.1.1 i.2.1.2.1 i.2.1.2.2.1 i.2.2.1 i.2.2.2.1 t.1 t.2.1.1 t.2.1.2.1 t.2.1.2.2.1 t.2.2.1 t.2.2.2.1 z l a b o (z : Int) (k : Int) =
      x3 m s.1 s.2.1.1 s.2.1.2.1 s.2.1.2.2.1 s.2.2.1 s.2.2.2.1 i.1 i.2.1.1 i.2.1.2.1 i.2.1.2.2.1 i.2.2.1 i.2.2.2.1 t.1 t.2.1.1 t.2.1.2.1 t.2.1.2.2.1 t.2.2.1 t.2.2.2.1 l a b
  | 0, k, o, h, _ => by omega
  | n + 1, k, o, h, ho => by
    unfold W5_18
    by_cases hd : k < z
    · rw [cond_dec (by omega), cond_t (in_dec hd), Int.toNat_natCast, cond_dec (by omega), wi64 _ (by omega) (by omega), show ((k : Int) + 1) = ((k + 1 : Nat) : Int) by omega]
      exact w5_18 N x3 m s i t l a b z hz n (k + 1) _ (by omega) (by simp [ho])
    · rw [cond_dec' (by omega)]
theorem w5_7 (N : Nat) (hN : 10 ≤ N) {β : Type} (x0 : Bool → Option β) (x1 : Unit → Option β) (m : Int) (hm : bagOwn m = true) (l : List Deed) (hok : ∀ d ∈ l, okDeed d = true ∧ d.2.2.1.length ≤ 10) (hl : l.length ≤ 40) :
    ∀ (n k : Nat) (L : List Val), l.length - k < n → L.length ≤ k → sortedV L = true →
    W5_7 N x0 x1 n m m 0 0 ByteArray.empty 0 L l (l.length : Int) (k : Int) = x1 ()
  | 0, k, _, h, _, _ => by omega
  | n + 1, k, L, h, hk, hp => by
    unfold W5_7
    by_cases hd : k < l.length
    · have hmem := getD_mem (d := (((0 : Int), ((0 : Int), (ByteArray.empty, ()))), ((0 : Int), (([] : List Val), ())))) hd
      rw [cond_dec (by omega), cond_t (in_dec hd), Int.toNat_natCast, wi64 _ (by omega) (by omega), show ((k : Int) + 1) = ((k + 1 : Nat) : Int) by omega,
        show ((m, (((0 : Int), ((0 : Int), (ByteArray.empty, ()))), ((0 : Int), (L, ())))) : State) = mkS m none' 0 L from rfl]
      generalize List.getD l k (((0 : Int), ((0 : Int), (ByteArray.empty, ()))), ((0 : Int), ([], ()))) = d at hmem
      obtain ⟨ho, h10⟩ := hok d hmem
      obtain ⟨hv, hvs⟩ := okDeed_parts ho
      have q0 : okPop (mkS m none' 0 L) = true := decide_eq_true (by show L.length ≤ 1000000; omega)
      have q1 : okBStep (mkS m none' 0 L) d.1 d.2.1 d.2.2.1 = true := by
        simp only [okBStep, okL, Bool.and_eq_true, decide_eq_true_eq]
        exact ⟨⟨by show L.length ≤ 100; omega, hp⟩, hv, hvs, by omega⟩
      have q5 : okSS (copyS (mkS m none' 0 L)) (mkS m none' 0 L) = true := okSSm (by omega)
      have q6 : sameS (copyS (mkS m none' 0 L)) (mkS m none' 0 L) = true := sameS_self _
      rw [q0, q1, q5, q6]
      rcases bouts_step hm hp d hvs with e | ⟨L', out, e, h2, hL, h3, h4, h5⟩
      · rw [e]
        simp only [cond_true, Bool.not_true, cond_false]
        exact w5_7 N hN x0 x1 m hm l hok hl n (k + 1) L (by omega) (by omega) hp
      · rw [e]
        have q7 : okOX m d.2.1 out.length out = true := by simp only [okOX, okL, Bool.and_eq_true, decide_eq_true_eq]; exact ⟨trivial, h3, by omega⟩
        have q8 : (outsGo m d.2.1 out).2.1 = true := h5
        have q9 : (m != m) = false := bne_self_eq_false _
        simp only [cond_true, Bool.not_true, cond_false, stepX, q7, q8]
        show (bif (m != m) then _ else _) = _
        rw [q9, cond_false]
        refine Eq.trans (w5_18 N _ m (mkS m none' 0 L) (copyS (mkS m none' 0 L)) (mkS m none' 0 L') l _ _ out.length (by omega) N 0 out (by omega) rfl) ?_
        show (bif okSS (copyS (mkS m none' 0 L)) (mkS m none' 0 L) then bif (!sameS (copyS (mkS m none' 0 L)) (mkS m none' 0 L)) then _ else _ else _) = _
        rw [q5, q6, wi64 _ (by omega) (by omega), show ((k : Int) + 1) = ((k + 1 : Nat) : Int) by omega]
        exact w5_7 N hN x0 x1 m hm l hok hl n (k + 1) L' (by omega) (by omega) h2
    · rw [cond_dec' (by omega)]
def fuel5 (m : Int) (l : List Deed) : Nat := 50
theorem plain5 (m : Int) (l : List Deed) (h : okPlays m l = true) : F5 (fuel5 m l) m l = some (true, ()) := by
  have h' : okDs l = true := h
  unfold F5
  rw [bagNew_ok, h']
  cases hm : bagOwn m with
  | false => rfl
  | true =>
    simp only [Bool.not_true, cond_false, cond_true]
    cases hg : greatD l with
    | true => rfl
    | false =>
      simp only [cond_false]
      rw [greatD_eq, Bool.or_eq_false_iff, decide_eq_false_iff_not, List.any_eq_false] at hg
      unfold bagNew
      rw [hm]
      refine w5_7 _ (by unfold fuel5; decide) _ _ m hm l (fun d hd => ⟨okDs_mem h' hd, ?_⟩) (by omega) 50 0 [] (by omega) (by simp) rfl
      have := hg.1 d hd
      simp only [bigD, Bool.or_eq_true, decide_eq_true_eq, not_or] at this
      omega

end Go.L14
