/- Own text of this session: a part of the proof; no condition of its own. -/
import Derived.Test.YtallccfhkhonbaaDoorY
set_option linter.unusedVariables false
set_option linter.unusedSimpArgs false
set_option maxRecDepth 100000
namespace Go.L17
open Go Go.Abs Go.Inc
theorem mid {i j : Nat} (h : i + j ≤ 2000000) : IntKind.wrap .i64 (Int.fdiv (IntKind.wrap .u64 (IntKind.wrap .i64 ((i : Int) + (j : Int)))) ((2 : Int) ^ (Min.min (Int.toNat (1 : Int)) (IntKind.bits .u64)))) = (((i + j) / 2 : Nat) : Int) := by
  have e1 : IntKind.wrap .i64 ((i : Int) + (j : Int)) = (i : Int) + (j : Int) := wi64 _ (by omega) (by omega)
  have e2 : IntKind.wrap .u64 ((i : Int) + (j : Int)) = (i : Int) + (j : Int) := wu64 _ (by omega) (by omega)
  rw [e1, e2, show ((2 : Int) ^ (Min.min (Int.toNat (1 : Int)) (IntKind.bits .u64))) = 2 from rfl, Int.fdiv_eq_ediv_of_nonneg _ (by omega), wi64 _ (by omega) (by omega)]
  omega
theorem w30_6 (N : Nat) {β : Type} (x3 : List Val → List Val → Int → Int → Option β) (l out : List Val) (i : Nat) (hi : i < l.length) (ho : out.length ≤ 1000) : ∀ (n k : Nat), k < n → k ≤ out.length →
    W30_6 N x3 n l out (i : Int) (k : Int) = x3 l out (i : Int) (upV out (l.getD i none') k : Int)
  | 0, k, h, _ => by omega
  | n + 1, 0, h, _ => by
    unfold W30_6
    rw [cond_dec' (by omega)]; rfl
  | n + 1, k + 1, h, hk => by
    unfold W30_6 upV
    rw [cond_dec (by omega), cond_t (in_dec hi), show (((k + 1 : Nat) : Int) - 1) = (k : Int) by omega, wi64 _ (by omega) (by omega), cond_t (in_dec (show k < out.length by omega)), Int.toNat_natCast, Int.toNat_natCast]
    have e : lessV (List.getD l i ((0 : Int), ((0 : Int), (ByteArray.empty, ())))) (List.getD out k ((0 : Int), ((0 : Int), (ByteArray.empty, ())))) = lessV (l.getD i none') (out.getD k none') := rfl
    rw [e]
    cases lessV (l.getD i none') (out.getD k none') with
    | true => exact w30_6 N x3 l out i hi ho n k (by omega) (by omega)
    | false => rfl
theorem up_le (out : List Val) (x : Val) : ∀ k, upV out x k ≤ k
  | 0 => Nat.le_refl _
  | k + 1 => by
    unfold upV
    cases lessV x (out.getD k none') with
    | true => exact Nat.le_succ_of_le (up_le out x k)
    | false => exact Nat.le_refl _
theorem put_len (out : List Val) (x : Val) : (putV out x).length = out.length + 1 := by
  have := up_le out x out.length
  unfold putV
  simp only [List.length_append, List.length_take, List.length_drop, List.length_singleton]; omega
theorem w30_3 (N : Nat) (hN : 2000 ≤ N) {β : Type} (x1 : List Val → Option β) (l : List Val) (hl : l.length ≤ 1000) : ∀ (n i : Nat) (out : List Val), l.length - i < n → out.length = i →
    W30_3 N x1 n l out (i : Int) = x1 ((l.drop i).foldl putV out)
  | 0, i, out, h, _ => by omega
  | n + 1, i, out, h, ho => by
    unfold W30_3
    by_cases hi : i < l.length
    · rw [cond_dec (by omega)]
      have hu := up_le out (l.getD i none') out.length
      refine Eq.trans (w30_6 N _ l out i hi (by omega) N out.length (by omega) (Nat.le_refl _)) ?_
      have s1 : Go.Abs.sub out (0 : Int) (upV out (l.getD i none') out.length : Int) = out.take (upV out (l.getD i none') out.length) := by simp [Go.Abs.sub]
      have s2 : Go.Abs.sub out (upV out (l.getD i none') out.length : Int) ((out.length : Nat) : Int) = out.drop (upV out (l.getD i none') out.length) := by simp [Go.Abs.sub]
      simp only [s1, s2, List.nil_append]
      rw [cond_t (by simp only [Bool.and_eq_true, decide_eq_true_eq]; omega), cond_dec (by simp only [List.length_nil, List.length_take]; omega), cond_t (in_dec hi), cond_dec (by simp only [List.length_cons, List.length_nil, List.length_take]; omega),
        cond_t (by simp only [Bool.and_eq_true, decide_eq_true_eq]; omega), cond_dec (by simp only [List.length_append, List.length_cons, List.length_nil, List.length_take, List.length_drop]; omega), Int.toNat_natCast, wi64 _ (by omega) (by omega), show ((i : Int) + 1) = ((i + 1 : Nat) : Int) by omega,
        drop_getD (d := none') hi, List.foldl_cons]
      have e : (out.take (upV out (l.getD i none') out.length) ++ ((l.getD i ((0 : Int), ((0 : Int), (ByteArray.empty, ())))) :: ([] : List (Int × (Int × (ByteArray × Unit)))))) ++ out.drop (upV out (l.getD i none') out.length) = putV out (l.getD i none') := by
        unfold putV; rw [List.append_assoc]; rfl
      rw [e]
      exact w30_3 N hN x1 l hl n (i + 1) _ (by omega) (by rw [put_len, ho])
    · rw [cond_dec' (by omega), List.drop_eq_nil_of_le (by omega)]; rfl
def fuel30 (l : List Val) : Nat := 2000
theorem plain30 (l : List Val) (h : okSort l = true) : F30 (fuel30 l) l = some (sortV l, ()) := by
  have hl : l.length ≤ 1000 := of_decide_eq_true h
  unfold F30
  have hw := w30_3 (β := List Val × Unit) (fuel30 l) (by unfold fuel30; omega) (fun t3 => some (t3, ())) l hl (fuel30 l) 0 [] (by unfold fuel30; omega) rfl
  rw [show ((0 : Nat) : Int) = 0 from rfl, List.drop_zero] at hw
  exact hw

def fuel7 (m : Int) : Nat := 0
theorem plain7 (m : Int) (_ : true = true) : F7 0 m = some (dictNew m) := by
  unfold F7 dictNew dictOwn
  have e4 : (m != 4) = !(m == 4) := rfl
  have e10 : (m != 10) = !(m == 10) := rfl
  rw [e4, e10]
  cases (m == 4) <;> cases (m == 10) <;> rfl
theorem dictNew_ok (m : Int) : (dictNew m).2.1 = dictOwn m := by
  unfold dictNew
  cases dictOwn m <;> rfl
theorem okD_parts {d : Deed} (h : okDDeed d = true) : (d.2.1 = 7 ∨ d.2.1 = 13 → 2 ≤ d.2.2.1.length) ∧ (d.2.1 = 5 ∨ d.2.1 = 8 → 1 ≤ d.2.2.1.length) := by
  simp only [okDDeed, Bool.and_eq_true, Bool.or_eq_true, Bool.not_eq_true', Bool.or_eq_false_iff, beq_eq_false_iff_ne, decide_eq_true_eq] at h
  obtain ⟨h1, h2⟩ := h
  refine ⟨fun h => ?_, fun h => ?_⟩
  · rcases h1 with h1 | h1
    · rcases h with h | h
      · exact absurd h h1.1
      · exact absurd h h1.2
    · exact h1
  · rcases h2 with h2 | h2
    · rcases h with h | h
      · exact absurd h h2.1
      · exact absurd h h2.2
    · exact h2
theorem w20 (N : Nat) {β : Type} (x0 x1 : Int → Int → ByteArray → Option β) (hx : ∀ a b c, x1 a b c = x0 0 0 ByteArray.empty) (past : List Deed) (hp : ∀ d ∈ past, okDDeed d = true) (hs : past.length ≤ 1000) (v : Val) (ra rb : Int) (rc : ByteArray) : ∀ (n k : Nat), k < n → k ≤ past.length →
    W20_2 N x0 x1 n past v.1 v.2.1 v.2.2.1 ra rb rc ((k : Int) - 1) = x0 (dictHas (past.take k) v).1 (dictHas (past.take k) v).2.1 (dictHas (past.take k) v).2.2.1
  | 0, k, h, _ => by omega
  | n + 1, 0, h, _ => by
    unfold W20_2
    rw [cond_dec' (by omega), hx]; rfl
  | n + 1, k + 1, h, hk => by
    unfold W20_2
    have hd : k < past.length := by omega
    have hmem := getD_mem (d := (((0 : Int), ((0 : Int), (ByteArray.empty, ()))), ((0 : Int), (([] : List Val), ())))) hd
    have ht : past.take (k + 1) = past.take k ++ [List.getD past k (((0 : Int), ((0 : Int), (ByteArray.empty, ()))), ((0 : Int), ([], ())))] := by
      rw [List.take_add_one, List.getD_eq_getElem?_getD, List.getElem?_eq_getElem hd]; rfl
    rw [show (((k + 1 : Nat) : Int) - 1) = (k : Int) by omega, cond_dec (by omega), cond_t (in_dec hd), Int.toNat_natCast, ht, dictHas_app]
    generalize List.getD past k (((0 : Int), ((0 : Int), (ByteArray.empty, ()))), ((0 : Int), ([], ()))) = d at hmem
    obtain ⟨l2, l1⟩ := okD_parts (hp d hmem)
    have ih := w20 N x0 x1 hx past hp hs v ra rb rc n k (by omega) (by omega)
    have e : (((d.2.2.1.getD (Int.toNat 0) ((0 : Int), ((0 : Int), (ByteArray.empty, ())))).1 == v.1) && (((d.2.2.1.getD (Int.toNat 0) ((0 : Int), ((0 : Int), (ByteArray.empty, ())))).2.1 == v.2.1) && (((d.2.2.1.getD (Int.toNat 0) ((0 : Int), ((0 : Int), (ByteArray.empty, ())))).2.2.1 == v.2.2.1) && true))) = (arg0 d == v) := veq _ v
    rw [e]
    unfold dictHas1
    cases h7 : (d.2.1 == 7) with
    | true =>
      have h7' : d.2.1 = 7 := eq_of_beq h7
      have hl := l2 (.inl h7')
      simp only [cond_true, Bool.true_or, Bool.true_and]
      rw [cond_t (b0 (by omega))]
      cases (arg0 d == v) with
      | true =>
        simp only [cond_true]
        rw [cond_t (b1 hl)]; rfl
      | false =>
        simp only [cond_false]
        rw [wi64 _ (by omega) (by omega)]; exact ih
    | false =>
      simp only [cond_false, Bool.false_or]
      cases h5 : (d.2.1 == 5) with
      | true =>
        have h5' : d.2.1 = 5 := eq_of_beq h5
        have hl := l1 (.inl h5')
        simp only [cond_true, Bool.true_and]
        rw [cond_t (b0 (by omega))]
        cases (arg0 d == v) with
        | true =>
          simp only [cond_true]
          rfl
        | false =>
          simp only [cond_false]
          rw [wi64 _ (by omega) (by omega)]; exact ih
      | false =>
        simp only [cond_false, Bool.false_and]
        rw [wi64 _ (by omega) (by omega)]; exact ih
theorem okDP_iff {past : List Deed} {v : Val} : okDPast past v = true ↔ past.length ≤ 100 ∧ ∀ d ∈ past, okDDeed d = true := by
  simp only [okDPast, Bool.and_eq_true, decide_eq_true_eq, List.all_eq_true]
def fuel20 (past : List Deed) (v : Val) : Nat := 200
theorem plain20 (past : List Deed) (v : Val) (h : okDPast past v = true) : F20 (fuel20 past v) past v = some (dictHas past v, ()) := by
  obtain ⟨h1, h2⟩ := okDP_iff.1 h
  unfold F20
  rw [wi64 _ (by omega) (by omega)]
  have hw := w20 (β := Val × Unit) (fuel20 past v) (fun a b c => some ((a, (b, (c, ()))), ())) (fun _ _ _ => some (((0 : Int), ((0 : Int), (ByteArray.empty, ()))), ())) (fun _ _ _ => rfl) past h2 (by omega) v 0 0 ByteArray.empty (fuel20 past v) past.length (by unfold fuel20; omega) (Nat.le_refl _)
  rw [List.take_of_length_le (Nat.le_refl _)] at hw
  exact hw
theorem w19_10 (N : Nat) {β : Type} (x3 : List Deed → Int → Int → ByteArray → List Val → Int → Int → Int → ByteArray → Bool → Option β) (past : List Deed) (a b : Int) (c : ByteArray) (t : Int) (v : Val) (q : List Val) (hq : q.length ≤ 1000) :
    ∀ (n k : Nat) (am : Bool), q.length - k < n →
    W19_10 N x3 n past a b c q t v.1 v.2.1 v.2.2.1 am (k : Int) = x3 past a b c q t v.1 v.2.1 v.2.2.1 (am || (q.drop k).any (· == v))
  | 0, k, am, h => by omega
  | n + 1, k, am, h => by
    have ih := fun am' => w19_10 N x3 past a b c t v q hq n (k + 1) am'
    unfold W19_10
    by_cases hd : k < q.length
    · rw [cond_dec (by omega), cond_t (in_dec hd), Int.toNat_natCast, drop_getD (d := ((0 : Int), ((0 : Int), (ByteArray.empty, ())))) hd, wi64 _ (by omega) (by omega), show ((k : Int) + 1) = ((k + 1 : Nat) : Int) by omega, ih _ (by omega), ih _ (by omega), List.any_cons]
      have e : ∀ w : Val, ((w.1 == v.1) && ((w.2.1 == v.2.1) && ((w.2.2.1 == v.2.2.1) && true))) = (w == v) := fun w => veq w v
      rw [e]
      cases am with
      | true => simp
      | false => simp
    · rw [cond_dec' (by omega), List.drop_eq_nil_of_le (by omega), List.any_nil, Bool.or_false]
theorem w19_4 (N : Nat) (hN : 200 ≤ N) {β : Type} (x1 : List Val → Option β) (past : List Deed) (hp : ∀ d ∈ past, okDDeed d = true) (hs : past.length ≤ 100) :
    ∀ (n k : Nat) (acc : List Val), past.length - k < n → acc.length ≤ k →
    W19_4 N x1 n past 0 0 ByteArray.empty acc (k : Int) = x1 ((past.drop k).foldl (dictKeep past) acc)
  | 0, k, acc, h, _ => by omega
  | n + 1, k, acc, h, hk => by
    unfold W19_4
    by_cases hd : k < past.length
    · have hmem := getD_mem (d := (((0 : Int), ((0 : Int), (ByteArray.empty, ()))), ((0 : Int), (([] : List Val), ())))) hd
      rw [cond_dec (by omega), cond_t (in_dec hd), Int.toNat_natCast, drop_getD (d := (((0 : Int), ((0 : Int), (ByteArray.empty, ()))), ((0 : Int), (([] : List Val), ())))) hd, List.foldl_cons]
      generalize List.getD past k (((0 : Int), ((0 : Int), (ByteArray.empty, ()))), ((0 : Int), ([], ()))) = d at hmem
      obtain ⟨l2, _⟩ := okD_parts (hp d hmem)
      have ih := fun acc' h => w19_4 N hN x1 past hp hs n (k + 1) acc' (by omega) h
      have hbk : dictKeep past acc d = bif d.2.1 == 7 && !(dictHas past (arg0 d) == none' || acc.any (· == arg0 d)) then acc ++ [arg0 d] else acc := rfl
      rw [hbk]
      have e7 : (d.2.1 != 7) = !(d.2.1 == 7) := rfl
      rw [e7]
      cases h7 : (d.2.1 == 7) with
      | false =>
        simp only [Bool.not_false, cond_true, Bool.false_and, cond_false]
        rw [wi64 _ (by omega) (by omega), show ((k : Int) + 1) = ((k + 1 : Nat) : Int) by omega]
        exact ih acc (by omega)
      | true =>
        have hl := l2 (.inl (eq_of_beq h7))
        have hok : ∀ v, okDPast past v = true := fun v => okDP_iff.2 ⟨hs, hp⟩
        simp only [Bool.not_true, cond_false, Bool.true_and]
        rw [cond_t (in_dec hd), cond_t (b0 (by omega)), hok, cond_true]
        refine Eq.trans (w19_10 N _ past 0 0 ByteArray.empty (k : Int) (arg0 d) acc (by omega) N 0 _ (by omega)) ?_
        have e0 : (((arg0 d).1, ((arg0 d).2.1, ((arg0 d).2.2.1, ()))) : Val) = arg0 d := rfl
        have ea : List.getD d.2.2.1 (Int.toNat 0) ((0 : Int), ((0 : Int), (ByteArray.empty, ()))) = arg0 d := rfl
        have eh : (((dictHas past (arg0 d)).1 == (0 : Int)) && (((dictHas past (arg0 d)).2.1 == (0 : Int)) && (((dictHas past (arg0 d)).2.2.1 == ByteArray.empty) && true))) = (dictHas past (arg0 d) == none') := veq _ none'
        simp only [List.drop_zero, e0, ea, eh]
        rw [wi64 _ (by omega) (by omega), show ((k : Int) + 1) = ((k + 1 : Nat) : Int) by omega]
        cases (dictHas past (arg0 d) == none' || acc.any (· == arg0 d)) with
        | true => exact ih acc (by omega)
        | false =>
          simp only [Bool.not_false, cond_true]
          rw [cond_dec (by simp only [List.length_cons, List.length_nil]; omega)]
          exact ih _ (by simp only [List.length_append, List.length_cons, List.length_nil]; omega)
    · rw [cond_dec' (by omega), List.drop_eq_nil_of_le (by omega)]; rfl
def fuel19 (past : List Deed) : Nat := 200
theorem plain19 (past : List Deed) (h : okDPastK past = true) : F19 (fuel19 past) past = some (dictKeys past, ()) := by
  obtain ⟨h1, h2⟩ := okDP_iff.1 h
  unfold F19
  refine Eq.trans (w19_4 (fuel19 past) (by unfold fuel19; omega) _ past h2 h1 (fuel19 past) 0 [] (by unfold fuel19; omega) (by simp)) ?_
  rw [List.drop_zero]
  have hl := (keep_spec past (l := past) (acc := []) List.nodup_nil).2.2
  have hs : okSort (past.foldl (dictKeep past) []) = true := decide_eq_true (by simp only [List.length_nil] at hl; omega)
  rw [hs]; rfl
theorem w11_4 (N : Nat) {β : Type} (x1 : Int → Int → Int → ByteArray → Int → List Val → Int → Int → Int → ByteArray → Int → List Val → Option β) (past : List Deed) (hp : ∀ v, okDPast past v = true) (a b c : Int) (s : ByteArray) (e : Int) (f : List Val) (a' b' c' : Int) (s' : ByteArray) (e' : Int) (ks : List Val) (hs : ks.length ≤ 100) :
    ∀ (n k : Nat) (acc : List Val), ks.length - k < n → acc.length ≤ 2 * k →
    W11_4 N x1 n past a b c s e f a' b' c' s' e' acc ks (k : Int) = x1 a b c s e f a' b' c' s' e' (acc ++ (ks.drop k).flatMap (dictRow past))
  | 0, k, acc, h, _ => by omega
  | n + 1, k, acc, h, hk => by
    unfold W11_4
    by_cases hd : k < ks.length
    · have ih := fun acc' h => w11_4 N x1 past hp a b c s e f a' b' c' s' e' ks hs n (k + 1) acc' (by omega) h
      rw [cond_dec (by omega), cond_t (in_dec hd), cond_t (in_dec hd), Int.toNat_natCast, drop_getD (d := ((0 : Int), ((0 : Int), (ByteArray.empty, ())))) hd, List.flatMap_cons, wi64 _ (by omega) (by omega), show ((k : Int) + 1) = ((k + 1 : Nat) : Int) by omega, hp, cond_true,
        cond_dec (by simp only [List.length_cons, List.length_nil]; omega)]
      refine (ih _ (by simp only [List.length_append, List.length_cons, List.length_nil]; omega)).trans ?_
      rw [List.append_assoc]; rfl
    · rw [cond_dec' (by omega), List.drop_eq_nil_of_le (by omega), List.flatMap_nil, List.append_nil]
def fuel11 (m : Int) (past : List Deed) : Nat := 200
theorem plain11 (m : Int) (past : List Deed) (h : okDPast0 m past = true) : F11 (fuel11 m past) m past = some (dictState m past, ()) := by
  obtain ⟨h1, h2⟩ := okDP_iff.1 h
  have hk : okDPastK past = true := h
  unfold F11
  rw [hk, cond_true]
  have := (dict_spec past).2.2
  refine Eq.trans (w11_4 (fuel11 m past) _ past (fun v => okDP_iff.2 ⟨h1, h2⟩) 0 0 0 ByteArray.empty 0 [] m 0 0 ByteArray.empty 0 (dictKeys past) (by omega) (fuel11 m past) 0 [] (by unfold fuel11; omega) (by simp)) ?_
  rw [List.drop_zero, List.nil_append]; rfl
theorem w15_8 (N : Nat) {β : Type} (x1 : List Val → Option β) (past : List Deed) (hp : ∀ v, okDPast past v = true) (a b : Int) (c : ByteArray) (o : Int) (args : List Val) (hl : 2 ≤ args.length) (ks : List Val) (hs : ks.length ≤ 100) :
    ∀ (n k : Nat) (acc : List Val), ks.length - k < n → acc.length ≤ 2 * k →
    W15_8 N x1 n past a b c o args acc ks (k : Int) = x1 (acc ++ ((ks.drop k).filter (betw (args.getD 0 none') (args.getD 1 none'))).flatMap (dictRow past))
  | 0, k, acc, h, _ => by omega
  | n + 1, k, acc, h, hk => by
    unfold W15_8
    by_cases hd : k < ks.length
    · have ih := fun acc' h => w15_8 N x1 past hp a b c o args hl ks hs n (k + 1) acc' (by omega) h
      rw [cond_dec (by omega), cond_t (in_dec hd), cond_t (b0 (by omega)), Int.toNat_natCast, drop_getD (d := ((0 : Int), ((0 : Int), (ByteArray.empty, ())))) hd, wi64 _ (by omega) (by omega), show ((k : Int) + 1) = ((k + 1 : Nat) : Int) by omega, List.filter_cons]
      generalize List.getD ks k ((0 : Int), ((0 : Int), (ByteArray.empty, ()))) = y
      have hb : betw (args.getD 0 none') (args.getD 1 none') y = ((!(lessV y (args.getD (Int.toNat 0) ((0 : Int), ((0 : Int), (ByteArray.empty, ())))))) && (!(lessV (args.getD (Int.toNat 1) ((0 : Int), ((0 : Int), (ByteArray.empty, ())))) y))) := rfl
      rw [hb]
      cases (!(lessV y (args.getD (Int.toNat 0) ((0 : Int), ((0 : Int), (ByteArray.empty, ())))))) with
      | false =>
        simp only [cond_false, Bool.false_and, Bool.false_eq_true, if_false]
        exact ih acc (by omega)
      | true =>
        simp only [cond_true, Bool.true_and]
        rw [cond_t (b1 hl), cond_t (in_dec hd)]
        cases (!(lessV (args.getD (Int.toNat 1) ((0 : Int), ((0 : Int), (ByteArray.empty, ())))) y)) with
        | false =>
          simp only [cond_false, Bool.false_eq_true, if_false]
          exact ih acc (by omega)
        | true =>
          simp only [cond_true, if_true]
          rw [cond_t (in_dec hd), cond_t (in_dec hd), hp, cond_true, cond_dec (by simp only [List.length_cons, List.length_nil]; omega)]
          refine (ih _ (by simp only [List.length_append, List.length_cons, List.length_nil]; omega)).trans ?_
          rw [List.append_assoc, List.flatMap_cons]; rfl
    · rw [cond_dec' (by omega), List.drop_eq_nil_of_le (by omega), List.filter_nil, List.flatMap_nil, List.append_nil]
def fuel15 (m : Int) (past : List Deed) (d : Deed) : Nat := 200
theorem plain15 (m : Int) (past : List Deed) (d : Deed) (h : okDPast1 m past d = true) : F15 (fuel15 m past d) m past d = some (dictOut m past d, ()) := by
  simp only [okDPast1, Bool.and_eq_true] at h
  obtain ⟨hp, hd⟩ := h
  obtain ⟨h1, h2⟩ := okDP_iff.1 hp
  obtain ⟨l2, l1⟩ := okD_parts hd
  have hk : okDPastK past = true := hp
  have hok : ∀ v, okDPast past v = true := fun v => okDP_iff.2 ⟨h1, h2⟩
  unfold F15 dictOut
  cases h8 : (d.2.1 == 8) with
  | true =>
    have := l1 (.inr (eq_of_beq h8))
    simp only [cond_true]
    rw [cond_t (b0 (by omega)), hok]; rfl
  | false =>
    simp only [cond_false]
    have e : (d.2.1 != 13) = !(d.2.1 == 13) := rfl
    rw [e]
    cases h13 : (d.2.1 == 13) with
    | false => rfl
    | true =>
      have hl := l2 (.inr (eq_of_beq h13))
      have := (dict_spec past).2.2
      simp only [Bool.not_true, cond_false]
      rw [hk, cond_true]
      refine Eq.trans (w15_8 (fuel15 m past d) _ past hok _ _ _ _ d.2.2.1 hl (dictKeys past) (by omega) (fuel15 m past d) 0 [] (by unfold fuel15; omega) (by simp)) ?_
      rw [List.drop_zero, List.nil_append]; rfl
theorem ops_dict {m o : Int} {args : List Val} (hm : dictOwn m = true) (h : fits m o args = true) : (o = 7 ∧ args.length = 2) ∨ (o = 13 ∧ args.length = 2) ∨ (o = 8 ∧ args.length = 1) ∨ (o = 5 ∧ args.length = 1) := by
  obtain ⟨r, hr, rfl, rfl, hl⟩ := fits_row' h
  have : (tbl.all fun r => !(dictOwn r.1) || ((r.2.1 == 7 && r.2.2.1.data.toList.length == 2) || ((r.2.1 == 13 && r.2.2.1.data.toList.length == 2) || ((r.2.1 == 8 && r.2.2.1.data.toList.length == 1) || (r.2.1 == 5 && r.2.2.1.data.toList.length == 1))))) = true := by decide +kernel
  have := List.all_eq_true.1 this r hr
  simp only [hm, Bool.not_true, Bool.false_or, Bool.or_eq_true, Bool.and_eq_true, beq_iff_eq] at this
  rw [hl]
  exact this
theorem findK_in {x : Val} {n : Nat} {l : List Val} {ps : List (Nat × Val)} (h : ∀ p ∈ ps, p.1 + 1 < l.length) (hn : n = l.length) : (findK x n ps).1 ≤ l.length ∧ ((findK x n ps).2 = true → (findK x n ps).1 + 1 < l.length) := by
  induction ps with
  | nil => subst hn; exact ⟨Nat.le_refl _, nofun⟩
  | cons p ps ih =>
    unfold findK
    cases decide (cmpV p.2 x < 0) with
    | true => exact ih fun q hq => h q (List.mem_cons_of_mem _ hq)
    | false =>
      have := h p List.mem_cons_self
      simp only [cond_false]
      exact ⟨by omega, fun _ => this⟩
theorem findL_in (x : Val) (l : List Val) : (findL x l).1 ≤ l.length ∧ ((findL x l).2 = true → (findL x l).1 + 1 < l.length) :=
  findK_in (fun p hp => (kpairs_mem l.length 0 (by omega) p (by simpa using hp)).1) rfl
def fuel12 (s : State) (c : Val) (o : Int) (args : List Val) : Nat := 0
theorem dn_ok (m : Int) : (dictNew m).2.1 = dictOwn m := by
  unfold dictNew
  cases dictOwn m <;> rfl
theorem plain12 (s : State) (c : Val) (o : Int) (args : List Val) (h : okDStep s c o args = true) : F12 0 s c o args = some (dictStep s c o args) := by
  simp only [okDStep, Bool.and_eq_true, decide_eq_true_eq] at h
  obtain ⟨h1, h3, h4⟩ := h
  have hT : okT 0 c = true := h3
  have hF : okF s.1 o args = true := h4
  unfold F12 dictStep stepOk
  rw [dn_ok]
  cases hq : dictOwn s.1 with
  | false => rfl
  | true =>
    simp only [Bool.not_true, cond_false, hT, cond_true, hF, Bool.true_and]
    cases takes 0 c with
    | false => rfl
    | true =>
      simp only [Bool.not_true, cond_false, Bool.true_and]
      cases hf : fits s.1 o args with
      | false => rfl
      | true =>
        have ho := ops_dict hq hf
        have hl1 : 1 ≤ args.length := by omega
        simp only [Bool.not_true, cond_false, cond_true]
        obtain ⟨m, one, n, l, ⟨⟩⟩ := s
        have h1 : l.length ≤ 1000 := h1
        have hx : List.getD args (Int.toNat (0 : Int)) ((0 : Int), ((0 : Int), (ByteArray.empty, ()))) = args.getD 0 none' := rfl
        have hy : List.getD args (Int.toNat (1 : Int)) ((0 : Int), ((0 : Int), (ByteArray.empty, ()))) = args.getD 1 none' := rfl
        rw [hx, hy]
        generalize args.getD 0 none' = x
        generalize args.getD 1 none' = v
        obtain ⟨f1, f2⟩ := findL_in x l
        have hfx : findX x l = (((findL x l).1 : Int), ((findL x l).2, (l, ()))) := rfl
        have hpu : putL l x v = bif (findL x l).2 then l.set ((findL x l).1 + 1) v else l.take (findL x l).1 ++ ([x, v] ++ l.drop (findL x l).1) := rfl
        have hde : delL l x = bif (findL x l).2 then l.take (findL x l).1 ++ l.drop ((findL x l).1 + 2) else l := rfl
        have hge : getL l x = bif (findL x l).2 then l.getD ((findL x l).1 + 1) none' else none' := rfl
        rw [hfx, hpu, hde, hge]
        generalize (findL x l).1 = i at f1 f2
        generalize (findL x l).2 = b at f2
        have w1 : b = true → IntKind.wrap .i64 ((i : Int) + 1) = ((i + 1 : Nat) : Int) := fun hb => by have := f2 hb; rw [wi64 _ (by omega) (by omega)]; omega
        have w2 : b = true → IntKind.wrap .i64 ((i : Int) + 2) = ((i + 2 : Nat) : Int) := fun hb => by have := f2 hb; rw [wi64 _ (by omega) (by omega)]; omega
        have hpl : okFind l.length l = true := by simp only [okFind, Bool.and_eq_true, decide_eq_true_eq]; exact ⟨trivial, by omega⟩
        show (bif decide (l.length * 32 ≤ 140737488351232) then _ else none) = _
        rw [cond_dec (by omega), cond_t (b0 hl1)]
        show (bif okFind l.length l then _ else none) = _
        rw [hpl, cond_true]
        rcases ho with ⟨rfl, hl⟩ | ⟨rfl, hl⟩ | ⟨rfl, hl⟩ | ⟨rfl, hl⟩
        · -- put
          cases b with
          | true =>
            have hw := w1 rfl
            have hi := f2 rfl
            show (bif (decide ((0 : Int) ≤ 1) && decide ((1 : Int) < ((args.length : Nat) : Int))) then (bif (decide ((0 : Int) ≤ IntKind.wrap .i64 ((i : Int) + 1)) && decide (IntKind.wrap .i64 ((i : Int) + 1) < ((l.length : Nat) : Int))) then
              (bif decide (Int.toNat (IntKind.wrap .i64 ((i : Int) + 1)) < l.length) then (bif decide (l.length = (l.set (Int.toNat (IntKind.wrap .i64 ((i : Int) + 1))) v).length) then some ((m, (one, (n, (l.set (Int.toNat (IntKind.wrap .i64 ((i : Int) + 1))) v, ())))), ([], (true, ()))) else none) else none) else none) else none) = _
            rw [cond_t (b1 (by omega)), hw, cond_t (in_dec hi), Int.toNat_natCast, cond_dec hi, cond_dec (by rw [List.length_set])]
            rfl
          | false =>
            show (bif (decide ((0 : Int) ≤ 0) && decide ((0 : Int) < ((args.length : Nat) : Int))) then _ else none) = _
            rw [cond_t (b0 hl1)]
            show (bif (decide ((0 : Int) ≤ 1) && decide ((1 : Int) < ((args.length : Nat) : Int))) then _ else none) = _
            rw [cond_t (b1 (by omega))]
            have e1 : decide ((0 : Int) ≤ (i : Int)) = true := decide_eq_true (by omega)
            have e2 : decide ((i : Int) ≤ ((l.length : Nat) : Int)) = true := decide_eq_true (by omega)
            have e3 : decide ((l.length + List.length [x, v]) * 32 ≤ 140737488351232) = true := decide_eq_true (by simp only [List.length_cons, List.length_nil]; omega)
            show (bif (decide (l.length = l.length) && (decide ((0 : Int) ≤ (i : Int)) && (decide ((i : Int) ≤ ((l.length : Nat) : Int)) && (decide (0 < List.length [x, v]) && decide ((l.length + List.length [x, v]) * 32 ≤ 140737488351232))))) then
              (bif decide (l.length + List.length [x, v] = (l.take (Int.toNat (i : Int)) ++ ([x, v] ++ l.drop (Int.toNat (i : Int)))).length) then
                some ((m, (one, (n, (l.take (Int.toNat (i : Int)) ++ ([x, v] ++ l.drop (Int.toNat (i : Int))), ())))), ([], (true, ()))) else none) else none) = _
            rw [e1, e2, e3, decide_eq_true rfl, show decide (0 < List.length [x, v]) = true from rfl]
            simp only [Bool.true_and, cond_true, Int.toNat_natCast]
            rw [cond_dec (by simp only [List.length_append, List.length_take, List.length_drop, List.length_cons, List.length_nil]; omega)]
            rfl
        · -- scan
          show (bif (decide ((0 : Int) ≤ 0) && decide ((0 : Int) < ((args.length : Nat) : Int))) then _ else none) = _
          rw [cond_t (b0 hl1)]
          show (bif (decide ((0 : Int) ≤ 1) && decide ((1 : Int) < ((args.length : Nat) : Int))) then _ else none) = _
          rw [cond_t (b1 (by omega))]
          show (bif decide (l.length = l.length) then some ((m, (one, (n, (l, ())))), (scanL x v l, (true, ()))) else none) = _
          rw [cond_dec rfl]
          rfl
        · -- get
          cases b with
          | true =>
            have hw := w1 rfl
            have hi := f2 rfl
            show (bif (decide ((0 : Int) ≤ IntKind.wrap .i64 ((i : Int) + 1)) && decide (IntKind.wrap .i64 ((i : Int) + 1) < ((l.length : Nat) : Int))) then
              (bif decide (Int.toNat (IntKind.wrap .i64 ((i : Int) + 1)) < l.length) then (bif decide (l.length = l.length) then some ((m, (one, (n, (l, ())))), ([l.getD (Int.toNat (IntKind.wrap .i64 ((i : Int) + 1))) none'], (true, ()))) else none) else none) else none) = _
            rw [hw, cond_t (in_dec hi), Int.toNat_natCast, cond_dec hi, cond_dec rfl]
            rfl
          | false =>
            show (bif decide (l.length = l.length) then some ((m, (one, (n, (l, ())))), ([none'], (true, ()))) else none) = _
            rw [cond_dec rfl]
            rfl
        · -- del
          cases b with
          | true =>
            have hw := w2 rfl
            have hi := f2 rfl
            have e1 : decide ((0 : Int) ≤ (i : Int)) = true := decide_eq_true (by omega)
            have e2 : decide ((i : Int) < ((i + 2 : Nat) : Int)) = true := decide_eq_true (by omega)
            have e3 : decide (((i + 2 : Nat) : Int) ≤ ((l.length : Nat) : Int)) = true := decide_eq_true (by omega)
            have e4 : decide (l.length * 32 ≤ 140737488351232) = true := decide_eq_true (by omega)
            show (bif (decide (l.length = l.length) && (decide ((0 : Int) ≤ (i : Int)) && (decide ((i : Int) < IntKind.wrap .i64 ((i : Int) + 2)) && (decide (IntKind.wrap .i64 ((i : Int) + 2) ≤ ((l.length : Nat) : Int)) && decide (l.length * 32 ≤ 140737488351232))))) then
              (bif decide (l.length - (Int.toNat (IntKind.wrap .i64 ((i : Int) + 2)) - Int.toNat (i : Int)) = (l.take (Int.toNat (i : Int)) ++ l.drop (Int.toNat (IntKind.wrap .i64 ((i : Int) + 2)))).length) then
                some ((m, (one, (n, (l.take (Int.toNat (i : Int)) ++ l.drop (Int.toNat (IntKind.wrap .i64 ((i : Int) + 2))), ())))), ([], (true, ()))) else none) else none) = _
            rw [hw, e1, e2, e3, e4, decide_eq_true rfl]
            simp only [Bool.true_and, cond_true, Int.toNat_natCast]
            rw [cond_dec (by simp only [List.length_append, List.length_take, List.length_drop]; omega)]
            rfl
          | false =>
            show (bif decide (l.length = l.length) then some ((m, (one, (n, (l, ())))), ([], (true, ()))) else none) = _
            rw [cond_dec rfl]
            rfl

end Go.L17
