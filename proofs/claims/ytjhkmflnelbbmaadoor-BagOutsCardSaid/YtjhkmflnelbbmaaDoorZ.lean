/- Own text of this session: a part of the proof; no condition of its own. -/
import Derived.Test.YtjhkmflnelbbmaaDoorY
set_option linter.unusedVariables false
set_option linter.unusedSimpArgs false
set_option maxRecDepth 100000
namespace Go.L14
open Go Go.Abs Go.Inc
def fuel26x (a b : Int) (c : ByteArray) (d e : Int) (f : ByteArray) : Nat := 0
theorem plain26x (a b : Int) (c : ByteArray) (d e : Int) (f : ByteArray) (_ : true = true) : F26x 0 a b c d e f = some (cmpV (a, (b, (c, ()))) (d, (e, (f, ()))), ()) := rfl
theorem mid {i j : Nat} (h : i + j ≤ 2000000) : IntKind.wrap .i64 (Int.fdiv (IntKind.wrap .u64 (IntKind.wrap .i64 ((i : Int) + (j : Int)))) ((2 : Int) ^ (Min.min (Int.toNat (1 : Int)) (IntKind.bits .u64)))) = (((i + j) / 2 : Nat) : Int) := by
  have e1 : IntKind.wrap .i64 ((i : Int) + (j : Int)) = (i : Int) + (j : Int) := wi64 _ (by omega) (by omega)
  have e2 : IntKind.wrap .u64 ((i : Int) + (j : Int)) = (i : Int) + (j : Int) := wu64 _ (by omega) (by omega)
  rw [e1, e2, show ((2 : Int) ^ (Min.min (Int.toNat (1 : Int)) (IntKind.bits .u64))) = 2 from rfl, Int.fdiv_eq_ediv_of_nonneg _ (by omega), wi64 _ (by omega) (by omega)]
  omega
theorem w37 (N : Nat) {β : Type} (x1 : Nat → Int → Int → ByteArray → Int → Int → List Val → Option β) (x : Val) (l : List Val) (hs : sortedV l = true) (hl : l.length ≤ 1000) :
    ∀ (n i j : Nat), j - i < n → i ≤ lbV x l → lbV x l ≤ j → j ≤ l.length →
    W37_3 N x1 n l.length x.1 x.2.1 x.2.2.1 (l.length : Int) (i : Int) (j : Int) l = x1 l.length x.1 x.2.1 x.2.2.1 (l.length : Int) (lbV x l : Int) l
  | 0, i, j, h, _, _, _ => by omega
  | n + 1, i, j, h, h1, h2, h3 => by
    unfold W37_3
    by_cases hij : i < j
    · rw [cond_dec (by omega), mid (by omega)]
      have hm : (i + j) / 2 < l.length := by omega
      rw [cond_t (in_dec hm), Int.toNat_natCast, cond_dec hm]
      have hc : decide (cmpV (List.getD l ((i + j) / 2) ((0 : Int), ((0 : Int), (ByteArray.empty, ())))) (x.1, (x.2.1, (x.2.2.1, ()))) < (0 : Int)) = decide ((i + j) / 2 < lbV x l) := (cmpV_neg _ _).trans (lb_get hs hm _)
      rw [hc]
      by_cases hlb : (i + j) / 2 < lbV x l
      · rw [cond_dec hlb, wi64 _ (by omega) (by omega), show ((((i + j) / 2 : Nat) : Int) + 1) = (((i + j) / 2 + 1 : Nat) : Int) by omega]
        exact w37 N x1 x l hs hl n ((i + j) / 2 + 1) j (by omega) (by omega) h2 h3
      · rw [cond_dec' hlb]
        exact w37 N x1 x l hs hl n i ((i + j) / 2) (by omega) h1 (by omega) (by omega)
    · rw [cond_dec' (by omega), show i = lbV x l by omega]
def fuel37 (n : Nat) (a b : Int) (c : ByteArray) (l : List Val) : Nat := l.length + 1
theorem plain37 (n : Nat) (a b : Int) (c : ByteArray) (l : List Val) (h : okPlace n l = true) :
    F37 (fuel37 n a b c l) n a b c l = some (placeX (a, (b, (c, ()))) l) := by
  simp only [okPlace, Bool.and_eq_true, decide_eq_true_eq] at h
  obtain ⟨rfl, h1, h2⟩ := h
  unfold F37
  have hw := fun x1 => w37 (fuel37 l.length a b c l) (β := HS.den X37.hout) x1 (a, (b, (c, ()))) l h2 h1
    (fuel37 l.length a b c l) 0 l.length (by unfold fuel37; omega) (Nat.zero_le _) (lb_le _ _) (Nat.le_refl _)
  rw [show ((0 : Nat) : Int) = 0 from rfl] at hw
  refine (hw _).trans ?_
  unfold placeX
  rw [has_lb h2]
  by_cases hd : lbV (a, (b, (c, ()))) l < l.length
  · rw [cond_dec (by omega), cond_t (in_dec hd), Int.toNat_natCast, cond_dec hd, decide_eq_true hd, Bool.true_and]
    have := cmpV_zero (l.getD (lbV (a, (b, (c, ()))) l) none') (a, (b, (c, ())))
    rw [← this]; rfl
  · rw [cond_dec' (by omega), decide_eq_false hd]; rfl
def fuel25 (n : Nat) (a b : Int) (c : ByteArray) (l : List Val) : Nat := 0
theorem plain25 (n : Nat) (a b : Int) (c : ByteArray) (l : List Val) (h : okPlace n l = true) : F25 0 n a b c l = some (placeX (a, (b, (c, ()))) l) := by
  unfold F25
  rw [h]; rfl
theorem w21_6 (N : Nat) {β : Type} (x3 : List Val → List Val → Int → Int → Option β) (l out : List Val) (i : Nat) (hi : i < l.length) (ho : out.length ≤ 1000) : ∀ (n k : Nat), k < n → k ≤ out.length →
    W21_6 N x3 n l out (i : Int) (k : Int) = x3 l out (i : Int) (upV out (l.getD i none') k : Int)
  | 0, k, h, _ => by omega
  | n + 1, 0, h, _ => by
    unfold W21_6
    rw [cond_dec' (by omega)]; rfl
  | n + 1, k + 1, h, hk => by
    unfold W21_6 upV
    rw [cond_dec (by omega), cond_t (in_dec hi), show (((k + 1 : Nat) : Int) - 1) = (k : Int) by omega, wi64 _ (by omega) (by omega), cond_t (in_dec (show k < out.length by omega)), Int.toNat_natCast, Int.toNat_natCast]
    have e : lessV (List.getD l i ((0 : Int), ((0 : Int), (ByteArray.empty, ())))) (List.getD out k ((0 : Int), ((0 : Int), (ByteArray.empty, ())))) = lessV (l.getD i none') (out.getD k none') := rfl
    rw [e]
    cases lessV (l.getD i none') (out.getD k none') with
    | true => exact w21_6 N x3 l out i hi ho n k (by omega) (by omega)
    | false => rfl
theorem up_le (out : List Val) (x : Val) : ∀ k, upV out x k ≤ k
  | 0 => Nat.le_refl _
  | k + 1 => by
    unfold upV
    cases lessV x (out.getD k none') with
    | true => exact Nat.le_succ_of_le (up_le out x k)
    | false => exact Nat.le_refl _
theorem put_len (out : List Val) (x : Val) : (putV out x).length = out.length + 1 := by
  have := up_le out x out.length
  unfold putV
  simp only [List.length_append, List.length_take, List.length_drop, List.length_singleton]; omega
theorem w21_3 (N : Nat) (hN : 2000 ≤ N) {β : Type} (x1 : List Val → Option β) (l : List Val) (hl : l.length ≤ 1000) : ∀ (n i : Nat) (out : List Val), l.length - i < n → out.length = i →
    W21_3 N x1 n l out (i : Int) = x1 ((l.drop i).foldl putV out)
  | 0, i, out, h, _ => by omega
  | n + 1, i, out, h, ho => by
    unfold W21_3
    by_cases hi : i < l.length
    · rw [cond_dec (by omega)]
      have hu := up_le out (l.getD i none') out.length
      refine Eq.trans (w21_6 N _ l out i hi (by omega) N out.length (by omega) (Nat.le_refl _)) ?_
      have s1 : Go.Abs.sub out (0 : Int) (upV out (l.getD i none') out.length : Int) = out.take (upV out (l.getD i none') out.length) := by simp [Go.Abs.sub]
      have s2 : Go.Abs.sub out (upV out (l.getD i none') out.length : Int) ((out.length : Nat) : Int) = out.drop (upV out (l.getD i none') out.length) := by simp [Go.Abs.sub]
      simp only [s1, s2, List.nil_append]
      rw [cond_t (by simp only [Bool.and_eq_true, decide_eq_true_eq]; omega), cond_dec (by simp only [List.length_nil, List.length_take]; omega), cond_t (in_dec hi), cond_dec (by simp only [List.length_cons, List.length_nil, List.length_take]; omega),
        cond_t (by simp only [Bool.and_eq_true, decide_eq_true_eq]; omega), cond_dec (by simp only [List.length_append, List.length_cons, List.length_nil, List.length_take, List.length_drop]; omega), Int.toNat_natCast, wi64 _ (by omega) (by omega), show ((i : Int) + 1) = ((i + 1 : Nat) : Int) by omega,
        drop_getD (d := none') hi, List.foldl_cons]
      have e : (out.take (upV out (l.getD i none') out.length) ++ ((l.getD i ((0 : Int), ((0 : Int), (ByteArray.empty, ())))) :: ([] : List (Int × (Int × (ByteArray × Unit)))))) ++ out.drop (upV out (l.getD i none') out.length) = putV out (l.getD i none') := by
        unfold putV; rw [List.append_assoc]; rfl
      rw [e]
      exact w21_3 N hN x1 l hl n (i + 1) _ (by omega) (by rw [put_len, ho])
    · rw [cond_dec' (by omega), List.drop_eq_nil_of_le (by omega)]; rfl
def fuel21 (l : List Val) : Nat := 2000
theorem plain21 (l : List Val) (h : okSort l = true) : F21 (fuel21 l) l = some (sortV l, ()) := by
  have hl : l.length ≤ 1000 := of_decide_eq_true h
  unfold F21
  have hw := w21_3 (β := List Val × Unit) (fuel21 l) (by unfold fuel21; omega) (fun t3 => some (t3, ())) l hl (fuel21 l) 0 [] (by unfold fuel21; omega) rfl
  rw [show ((0 : Nat) : Int) = 0 from rfl, List.drop_zero] at hw
  exact hw
def fuel7 (m : Int) : Nat := 0
theorem plain7 (m : Int) (_ : true = true) : F7 0 m = some (bagNew m) := by
  unfold F7 bagNew bagOwn
  have e : (m != 3) = !(m == 3) := rfl
  cases h : (m == 3) with
  | true => first | (rw [e, h]; rfl) | rfl | (simp only [bne, h]; rfl)
  | false => first | (rw [e, h]; rfl) | rfl | (simp only [bne, h]; rfl)
theorem bagNew_ok (m : Int) : (bagNew m).2.1 = bagOwn m := by
  unfold bagNew
  cases bagOwn m <;> rfl
theorem w20 (N : Nat) {β : Type} (x0 : Bool → Option β) (x1 : Unit → Option β) (hx : x1 () = x0 false) (past : List Deed) (hp : ∀ d ∈ past, okBDeed d = true) (hs : past.length ≤ 1000) (v : Val) : ∀ (n k : Nat), k < n → k ≤ past.length →
    W20_2 N x0 x1 n past v.1 v.2.1 v.2.2.1 ((k : Int) - 1) = x0 (bagHas (past.take k) v)
  | 0, k, h, _ => by omega
  | n + 1, 0, h, _ => by
    unfold W20_2
    rw [cond_dec' (by omega), hx]; rfl
  | n + 1, k + 1, h, hk => by
    unfold W20_2
    have hd : k < past.length := by omega
    have hmem := getD_mem (d := (((0 : Int), ((0 : Int), (ByteArray.empty, ()))), ((0 : Int), (([] : List Val), ())))) hd
    have ht : past.take (k + 1) = past.take k ++ [List.getD past k (((0 : Int), ((0 : Int), (ByteArray.empty, ()))), ((0 : Int), ([], ())))] := by
      rw [List.take_add_one, List.getD_eq_getElem?_getD, List.getElem?_eq_getElem hd]; rfl
    rw [show (((k + 1 : Nat) : Int) - 1) = (k : Int) by omega, cond_dec (by omega), cond_t (in_dec hd), Int.toNat_natCast, ht, bagHas_app]
    generalize List.getD past k (((0 : Int), ((0 : Int), (ByteArray.empty, ()))), ((0 : Int), ([], ()))) = d at hmem
    have hl : 1 ≤ d.2.2.1.length := of_decide_eq_true (hp d hmem)
    have ih := w20 N x0 x1 hx past hp hs v n k (by omega) (by omega)
    unfold bagHas1
    cases h6 : (d.2.1 != 6) with
    | false =>
      simp only [cond_false, Bool.false_and]
      rw [wi64 _ (by omega) (by omega)]; exact ih
    | true =>
      simp only [cond_true, Bool.true_and]
      rw [cond_t (in_dec hd), cond_t (b0 hl)]
      have e : (((d.2.2.1.getD (Int.toNat 0) ((0 : Int), ((0 : Int), (ByteArray.empty, ())))).1 == v.1) && (((d.2.2.1.getD (Int.toNat 0) ((0 : Int), ((0 : Int), (ByteArray.empty, ())))).2.1 == v.2.1) && (((d.2.2.1.getD (Int.toNat 0) ((0 : Int), ((0 : Int), (ByteArray.empty, ())))).2.2.1 == v.2.2.1) && true))) = (arg0 d == v) := veq _ v
      rw [e]
      cases (arg0 d == v) with
      | true =>
        simp only [cond_true]
        rw [cond_t (in_dec hd)]
      | false =>
        simp only [cond_false]
        rw [wi64 _ (by omega) (by omega)]; exact ih
theorem okB_iff {past : List Deed} {v : Val} : okBPast past v = true ↔ past.length ≤ 100 ∧ ∀ d ∈ past, okBDeed d = true := by
  simp only [okBPast, Bool.and_eq_true, decide_eq_true_eq, List.all_eq_true]
def fuel20 (past : List Deed) (v : Val) : Nat := 200
theorem plain20 (past : List Deed) (v : Val) (h : okBPast past v = true) : F20 (fuel20 past v) past v = some (bagHas past v, ()) := by
  obtain ⟨h1, h2⟩ := okB_iff.1 h
  unfold F20
  rw [wi64 _ (by omega) (by omega)]
  have hw := w20 (β := Bool × Unit) (fuel20 past v) (fun t4 => some (t4, ())) (fun _ => some (false, ())) rfl past h2 (by omega) v (fuel20 past v) past.length (by unfold fuel20; omega) (Nat.le_refl _)
  rw [List.take_of_length_le (Nat.le_refl _)] at hw
  exact hw
theorem w11_8 (N : Nat) {β : Type} (x3 : Int → List Deed → Int → Int → Int → ByteArray → Int → List Val → List Val → Int → Int → Int → ByteArray → Bool → Option β) (m : Int) (past : List Deed) (a b c : Int) (s : ByteArray) (e : Int) (f : List Val) (t : Int) (v : Val) (q : List Val) (hq : q.length ≤ 1000) :
    ∀ (n k : Nat) (am : Bool), q.length - k < n →
    W11_8 N x3 n m past a b c s e f q t v.1 v.2.1 v.2.2.1 am (k : Int) = x3 m past a b c s e f q t v.1 v.2.1 v.2.2.1 (am || (q.drop k).any (· == v))
  | 0, k, am, h => by omega
  | n + 1, k, am, h => by
    have ih := fun am' => w11_8 N x3 m past a b c s e f t v q hq n (k + 1) am'
    unfold W11_8
    by_cases hd : k < q.length
    · rw [cond_dec (by omega), cond_t (in_dec hd), Int.toNat_natCast, drop_getD (d := ((0 : Int), ((0 : Int), (ByteArray.empty, ())))) hd, wi64 _ (by omega) (by omega), show ((k : Int) + 1) = ((k + 1 : Nat) : Int) by omega, ih _ (by omega), ih _ (by omega), List.any_cons]
      have e : ∀ w : Val, ((w.1 == v.1) && ((w.2.1 == v.2.1) && ((w.2.2.1 == v.2.2.1) && true))) = (w == v) := fun w => veq w v
      rw [e]
      cases am with
      | true => simp
      | false => simp
    · rw [cond_dec' (by omega), List.drop_eq_nil_of_le (by omega), List.any_nil, Bool.or_false]
theorem w11_3 (N : Nat) (hN : 200 ≤ N) {β : Type} (x1 : Int → Int → Int → Int → ByteArray → Int → List Val → List Val → Option β) (m : Int) (past : List Deed) (hp : ∀ d ∈ past, okBDeed d = true) (hs : past.length ≤ 100) (a b c : Int) (s : ByteArray) (e : Int) (f : List Val) :
    ∀ (n k : Nat) (acc : List Val), past.length - k < n → acc.length ≤ k →
    W11_3 N x1 n m past a b c s e f acc (k : Int) = x1 m a b c s e f ((past.drop k).foldl (bagKeep past) acc)
  | 0, k, acc, h, _ => by omega
  | n + 1, k, acc, h, hk => by
    unfold W11_3
    by_cases hd : k < past.length
    · have hmem := getD_mem (d := (((0 : Int), ((0 : Int), (ByteArray.empty, ()))), ((0 : Int), (([] : List Val), ())))) hd
      rw [cond_dec (by omega), cond_t (in_dec hd), Int.toNat_natCast, drop_getD (d := (((0 : Int), ((0 : Int), (ByteArray.empty, ()))), ((0 : Int), (([] : List Val), ())))) hd, List.foldl_cons]
      generalize List.getD past k (((0 : Int), ((0 : Int), (ByteArray.empty, ()))), ((0 : Int), ([], ()))) = d at hmem
      have hl : 1 ≤ d.2.2.1.length := of_decide_eq_true (hp d hmem)
      rw [cond_t (b0 hl)]
      have hok : ∀ v, okBPast past v = true := fun v => okB_iff.2 ⟨hs, hp⟩
      refine Eq.trans (w11_8 N _ m past a b c s e f (k : Int) (arg0 d) acc (by omega) N 0 false (by omega)) ?_
      have e0 : (((arg0 d).1, ((arg0 d).2.1, ((arg0 d).2.2.1, ()))) : Val) = arg0 d := rfl
      simp only [Bool.false_or, List.drop_zero, e0, hok, cond_true]
      rw [wi64 _ (by omega) (by omega), show ((k : Int) + 1) = ((k + 1 : Nat) : Int) by omega]
      have ih := fun acc' h => w11_3 N hN x1 m past hp hs a b c s e f n (k + 1) acc' (by omega) h
      have hbk : bagKeep past acc d = bif !(acc.any (· == arg0 d)) && bagHas past (arg0 d) then acc ++ [arg0 d] else acc := rfl
      rw [hbk]
      cases acc.any (· == arg0 d) with
      | true => exact ih acc (by omega)
      | false =>
        cases bagHas past (arg0 d) with
        | false => exact ih acc (by omega)
        | true =>
          simp only [Bool.not_false, Bool.and_self, cond_true]
          rw [cond_dec (by simp only [List.length_cons, List.length_nil]; omega)]
          exact ih _ (by simp only [List.length_append, List.length_cons, List.length_nil]; omega)
    · rw [cond_dec' (by omega), List.drop_eq_nil_of_le (by omega)]; rfl
theorem bagList_len (past : List Deed) : (bagList past).length ≤ past.length := by
  have := (bagKeep_spec past (l := past) (acc := []) List.nodup_nil).2.2
  simpa [bagList] using this
def fuel11 (m : Int) (past : List Deed) : Nat := 200
theorem plain11 (m : Int) (past : List Deed) (h : okBPast0 m past = true) : F11 (fuel11 m past) m past = some (bagState m past, ()) := by
  obtain ⟨h1, h2⟩ := okB_iff.1 h
  unfold F11
  refine Eq.trans (w11_3 (fuel11 m past) (by unfold fuel11; omega) _ m past h2 h1 0 0 0 ByteArray.empty 0 [] (fuel11 m past) 0 [] (by unfold fuel11; omega) (by simp)) ?_
  rw [List.drop_zero]
  have hs : okSort (past.foldl (bagKeep past) []) = true := decide_eq_true (by have := bagList_len past; unfold bagList at this; omega)
  rw [hs]; rfl
def fuel15 (m : Int) (past : List Deed) (d : Deed) : Nat := 0
theorem plain15 (m : Int) (past : List Deed) (d : Deed) (h : okBPast1 m past d = true) : F15 0 m past d = some (bagOut m past d, ()) := by
  simp only [okBPast1, Bool.and_eq_true] at h
  have hl : 1 ≤ d.2.2.1.length := of_decide_eq_true h.2
  unfold F15 bagOut
  cases (d.2.1 != 6) with
  | true => rfl
  | false =>
    simp only [cond_false]
    rw [cond_t (b0 hl)]
    have hok : okBPast past (d.2.2.1.getD (Int.toNat 0) ((0 : Int), ((0 : Int), (ByteArray.empty, ())))) = true := h.1
    rw [hok]; rfl
theorem ops_bag {m o : Int} {args : List Val} (hm : bagOwn m = true) (h : fits m o args = true) : (o = 4 ∨ o = 5 ∨ o = 6) ∧ args.length = 1 := by
  obtain ⟨r, hr, rfl, rfl, hl⟩ := fits_row' h
  have : (tbl.all fun r => !(bagOwn r.1) || ((r.2.1 == 4 || (r.2.1 == 5 || r.2.1 == 6)) && r.2.2.1.data.toList.length == 1)) = true := by decide +kernel
  have := List.all_eq_true.1 this r hr
  simp only [hm, Bool.not_true, Bool.false_or, Bool.or_eq_true, Bool.and_eq_true, beq_iff_eq] at this
  rw [hl]
  exact this
theorem fin_ins {l : List Val} {x : Val} (hl : l.length ≤ 100) :
    ((decide (l.length = l.length)) && ((decide ((0 : Int) ≤ (lbV x l : Int))) && ((decide ((lbV x l : Int) ≤ ((l.length : Nat) : Int))) && ((decide (0 < List.length [x])) && (decide ((l.length + List.length [x]) * 32 ≤ 140737488351232)))))) = true := by
  have := lb_le x l
  have e1 : decide ((0 : Int) ≤ (lbV x l : Int)) = true := decide_eq_true (by omega)
  have e2 : decide ((lbV x l : Int) ≤ ((l.length : Nat) : Int)) = true := decide_eq_true (by omega)
  have e3 : decide ((l.length + List.length [x]) * 32 ≤ 140737488351232) = true := decide_eq_true (by simp only [List.length_singleton]; omega)
  rw [e1, e2, e3, decide_eq_true rfl]; rfl
theorem fin_del {l : List Val} {x : Val} (hl : l.length ≤ 100) (hs : sortedV l = true) (hx : hasV l x = true) :
    ((decide (l.length = l.length)) && ((decide ((0 : Int) ≤ (lbV x l : Int))) && ((decide ((lbV x l : Int) < ((lbV x l + 1 : Nat) : Int))) && ((decide (((lbV x l + 1 : Nat) : Int) ≤ ((l.length : Nat) : Int))) && (decide (l.length * 32 ≤ 140737488351232)))))) = true := by
  rw [has_lb hs] at hx
  simp only [Bool.and_eq_true, decide_eq_true_eq] at hx
  obtain ⟨hx, _⟩ := hx
  have e1 : decide ((0 : Int) ≤ (lbV x l : Int)) = true := decide_eq_true (by omega)
  have e2 : decide ((lbV x l : Int) < ((lbV x l + 1 : Nat) : Int)) = true := decide_eq_true (by omega)
  have e3 : decide (((lbV x l + 1 : Nat) : Int) ≤ ((l.length : Nat) : Int)) = true := decide_eq_true (by omega)
  have e4 : decide (l.length * 32 ≤ 140737488351232) = true := decide_eq_true (by omega)
  rw [e1, e2, e3, e4, decide_eq_true rfl]; rfl
theorem bag_len {l : List Val} {x : Val} (hs : sortedV l = true) (hx : hasV l x = true) : lbV x l < l.length := by
  rw [has_lb hs] at hx
  simp only [Bool.and_eq_true, decide_eq_true_eq] at hx
  exact hx.1
def fuel12 (s : State) (c : Val) (o : Int) (args : List Val) : Nat := 0
theorem plain12 (s : State) (c : Val) (o : Int) (args : List Val) (h : okBStep s c o args = true) : F12 0 s c o args = some (bagStep s c o args) := by
  simp only [okBStep, Bool.and_eq_true, decide_eq_true_eq] at h
  obtain ⟨⟨h1, h2⟩, h3, h4⟩ := h
  have hT : okT 0 c = true := h3
  have hF : okF s.1 o args = true := h4
  unfold F12 bagStep stepOk
  have hne : (s.1 != 3) = !(bagOwn s.1) := rfl
  rw [hne]
  cases hq : bagOwn s.1 with
  | false => rfl
  | true =>
    simp only [Bool.not_true, cond_false, hT, cond_true, hF, Bool.true_and]
    cases takes 0 c with
    | false => rfl
    | true =>
      simp only [Bool.not_true, cond_false, Bool.true_and]
      cases hf : fits s.1 o args with
      | false => rfl
      | true =>
        obtain ⟨ho, hl⟩ := ops_bag hq hf
        simp only [Bool.not_true, cond_false, cond_true]
        have hx : List.getD args (Int.toNat (0 : Int)) ((0 : Int), ((0 : Int), (ByteArray.empty, ()))) = args.getD 0 none' := rfl
        rw [hx]
        obtain ⟨m, one, n, l, ⟨⟩⟩ := s
        have h1 : l.length ≤ 100 := h1
        have h2 : sortedV l = true := h2
        generalize args.getD 0 none' = x
        show (bif decide (l.length * 32 ≤ 140737488351232) then _ else none) = _
        rw [cond_dec (by omega), cond_t (b0 (by omega))]
        have hpl : okPlace l.length l = true := by simp only [okPlace, Bool.and_eq_true, decide_eq_true_eq]; exact ⟨trivial, by omega, h2⟩
        show (bif okPlace l.length l then _ else none) = _
        rw [hpl, cond_true]
        have hb := lb_le x l
        unfold placeX
        rcases ho with rfl | rfl | rfl
        · -- add
          show (bif (!(hasV l x)) then _ else _) = some (mkS m one n (insV l x), [], true, ())
          unfold insV
          cases hh : hasV l x with
          | true =>
            show (bif decide (l.length = l.length) then _ else none) = _
            rw [cond_dec rfl]; rfl
          | false =>
            show (bif (decide ((0 : Int) ≤ 0) && decide ((0 : Int) < ((args.length : Nat) : Int))) then _ else none) = _
            rw [cond_t (b0 (by omega))]
            refine (cond_t (fin_ins (x := x) h1) _ _).trans ?_
            refine (cond_dec ?_ _ _).trans rfl
            simp only [List.length_append, List.length_take, List.length_drop, List.length_singleton, Int.toNat_natCast]
            omega
        · -- del
          show (bif hasV l x then _ else _) = some (mkS m one n (delV l x), [], true, ())
          unfold delV
          cases hh : hasV l x with
          | false =>
            show (bif decide (l.length = l.length) then _ else none) = _
            rw [cond_dec rfl]; rfl
          | true =>
            have hb' := bag_len h2 hh
            have hw : IntKind.wrap .i64 ((lbV x l : Int) + 1) = ((lbV x l + 1 : Nat) : Int) := by rw [wi64 _ (by omega) (by omega)]; omega
            show (bif (decide (l.length = l.length) && (decide ((0 : Int) ≤ (lbV x l : Int)) && (decide ((lbV x l : Int) < IntKind.wrap .i64 ((lbV x l : Int) + 1)) && (decide (IntKind.wrap .i64 ((lbV x l : Int) + 1) ≤ ((l.length : Nat) : Int)) && decide (l.length * 32 ≤ 140737488351232))))) then
              (bif decide (l.length - (Int.toNat (IntKind.wrap .i64 ((lbV x l : Int) + 1)) - Int.toNat (lbV x l : Int)) = (l.take (Int.toNat (lbV x l : Int)) ++ l.drop (Int.toNat (IntKind.wrap .i64 ((lbV x l : Int) + 1)))).length) then
                some (mkS m one n (l.take (Int.toNat (lbV x l : Int)) ++ l.drop (Int.toNat (IntKind.wrap .i64 ((lbV x l : Int) + 1)))), [], true, ()) else none) else none) = _
            rw [hw, cond_t (fin_del h1 h2 hh), Int.toNat_natCast, Int.toNat_natCast, cond_dec (by simp only [List.length_append, List.length_take, List.length_drop]; omega)]
            rfl
        · -- has
          show (bif hasV l x then _ else _) = some ((m, (one, (n, (l, ())))), [yesV (hasV l x)], true, ())
          cases hh : hasV l x with
          | true =>
            show (bif decide (l.length = l.length) then _ else none) = _
            rw [cond_dec rfl]; rfl
          | false =>
            show (bif decide (l.length = l.length) then _ else none) = _
            rw [cond_dec rfl]; rfl

end Go.L14
