/- Own text of this session: a part of the proof; no condition of its own. -/
import Derived.Test.YtifkhlnojdjjcaaDoorR
set_option linter.unusedVariables false
set_option linter.unusedSimpArgs false
set_option maxRecDepth 100000
namespace Go.L15
open Go Go.Abs Go.Inc
/-! Queues and stacks -/
theorem etaS (s : State) : (s.1, ((s.2.1.1, (s.2.1.2.1, (s.2.1.2.2.1, ()))), (s.2.2.1, (s.2.2.2.1, ())))) = s := rfl
theorem sub_all {α : Type} (l : List α) : Go.Abs.sub l 0 ((l.length : Nat) : Int) = l := by simp [Go.Abs.sub]
theorem sub_tail {α : Type} (v : α) (l : List α) : Go.Abs.sub (v :: l) 1 (((v :: l).length : Nat) : Int) = l := by simp [Go.Abs.sub]
theorem sub_init {α : Type} (l : List α) : Go.Abs.sub l 0 ((l.length : Nat) - 1 : Int) = l.dropLast := by
  unfold Go.Abs.sub
  rw [List.dropLast_eq_take]
  simp
theorem getD_last {α : Type} (v : α) (l : List α) (d : α) : (v :: l).getD ((v :: l).length - 1) d = (v :: l).getLastD d := by
  rw [List.getD_eq_getElem?_getD, ← List.getLast?_eq_getElem?]
  simp [List.getLastD_eq_getLast?]
def fuel7 (m : Int) : Nat := 0
theorem plain7 (m : Int) (_ : true = true) : F7 0 m = some (queueNew m) := by
  unfold F7 queueNew qOwn
  show (bif (!(m == 5)) then bif (!(m == 6)) then _ else _ else _) = _
  cases (m == 5) <;> cases (m == 6) <;> rfl
def fuel24 (s : State) : Nat := 0
theorem plain24 (s : State) (h : okPop s = true) : F24 0 s = some (queuePop s) := by
  obtain ⟨m, one, n, l, ⟨⟩⟩ := s
  have hs : l.length ≤ 1000000 := of_decide_eq_true h
  unfold F24 queuePop popL
  cases l with
  | nil => rfl
  | cons v r =>
    have e0 : ((((v :: r).length : Nat) : Int) == 0) = false := beq_false_of_ne (by simp only [List.length_cons]; omega)
    have e1 : IntKind.wrap .i64 ((((v :: r).length : Nat) : Int) - 1) = (((v :: r).length : Nat) : Int) - 1 := wi64 _ (by omega) (by omega)
    have e2 : ((((v :: r).length : Nat) : Int) - 1) = (((v :: r).length - 1 : Nat) : Int) := by simp only [List.length_cons]; omega
    simp only [e0, e1, cond_false, sub_tail, sub_init]
    cases (m == 5) with
    | true =>
      simp only [cond_true]
      rw [cond_t (by simp only [List.length_cons, Bool.and_eq_true, decide_eq_true_eq]; omega), cond_dec (by simp only [List.length_cons] at hs; omega), cond_t (by simp only [List.length_cons, Bool.and_eq_true, decide_eq_true_eq]; omega), cond_dec trivial]
      rfl
    | false =>
      simp only [cond_false]
      rw [cond_t (by simp only [List.length_cons, Bool.and_eq_true, decide_eq_true_eq]; omega), cond_dec (by rw [List.length_dropLast]; omega), cond_t (by simp only [List.length_cons, Bool.and_eq_true, decide_eq_true_eq]; omega), cond_dec trivial, e2, Int.toNat_natCast, getD_last]
      rfl
theorem queueNew_ok (m : Int) : (queueNew m).2.1 = qOwn m := by
  unfold queueNew
  cases qOwn m <;> rfl
theorem qOwn_cases {m : Int} (h : qOwn m = true) : m = 5 ∨ m = 6 := by
  simpa [qOwn] using h
theorem fits_push {m : Int} {args : List Val} (h : qOwn m = true) (hf : fits m 9 args = true) : ∃ v, args = [v] ∧ takes 2 v = true := by
  have e : sin m 9 = some [2] := by rcases qOwn_cases h with rfl | rfl <;> decide +kernel
  unfold fits at hf
  rw [e] at hf
  match args, hf with
  | [v], hf => exact ⟨v, rfl, by simpa [takesAll] using hf⟩
  | [], hf => simp [takesAll] at hf
  | _ :: _ :: _, hf => simp [takesAll] at hf
def fuel12 (s : State) (c : Val) (o : Int) (args : List Val) : Nat := 0
theorem plain12 (s : State) (c : Val) (o : Int) (args : List Val) (h : okQStep s c o args = true) : F12 0 s c o args = some (queueStep s c o args) := by
  simp only [okQStep, Bool.and_eq_true] at h
  obtain ⟨h1, h2, h3⟩ := h
  have hp : (∀ n : Int, okPop (s.1, s.2.1, s.2.2) = true) := fun _ => h1
  have hT : okT 0 c = true := h2
  have hF : okF s.1 o args = true := h3
  have hs : s.2.2.2.1.length ≤ 1000000 := of_decide_eq_true h1
  unfold F12 queueStep stepOk
  rw [queueNew_ok]
  cases hq : qOwn s.1 with
  | false => rfl
  | true =>
    simp only [Bool.not_true, cond_false, hT, cond_true, hF, Bool.true_and]
    cases takes 0 c with
    | false => rfl
    | true =>
      simp only [Bool.not_true, cond_false, Bool.true_and]
      cases hf : fits s.1 o args with
      | false => rfl
      | true =>
        simp only [Bool.not_true, cond_false, cond_true]
        cases ho : (o == 9) with
        | true =>
          rw [beq_iff_eq] at ho; subst ho
          obtain ⟨v, rfl, _⟩ := fits_push hq hf
          simp only [cond_true, sub_all]
          rw [cond_t (by simp), cond_t (by simp), cond_t (by simp), cond_dec (by simp only [List.length_cons, List.length_nil]; omega)]
          rfl
        | false =>
          simp only [cond_false]
          rw [cond_t h1]; rfl
def fuel20 (m : Int) : Nat := 0
theorem plain20 (m : Int) (h : okTwo m = true) : F20 0 m = some (twoV m, ()) := by
  rcases qOwn_cases h with rfl | rfl <;> kernel_rfl
def fuel6 : Nat := 0
theorem plain6 (_ : true = true) : F6 0 = some (true, ()) := by kernel_rfl
def fuel8 (m : Int) : Nat := 0
theorem plain8 (m : Int) (_ : true = true) : F8 0 m = some (qOwn m, ()) := by
  unfold F8 qOwn
  cases (m == 5) <;> rfl
def fuel17 (m : Int) : Nat := 0
theorem plain17 (m : Int) (_ : true = true) : F17 0 m = some (num' m, ()) := rfl
def bigV (v : Val) : Bool := decide (100 < v.2.2.1.size)
theorem big_dec (n : Nat) (c : Nat) : decide (((n : Nat) : Int) > (c : Int)) = decide (c < n) := decide_eq_decide.2 (by omega)
theorem w9_7 (N : Nat) {β : Type} (x0 : Bool → Option β) (x3 : List Deed → List Deed → Int → Int → Option β) (a b : List Deed) (c d : Int) (l : List Val) (hs : l.length ≤ 1000) : ∀ (n k : Nat), l.length - k < n →
    W9_7 N x0 x3 n a b c d l (l.length : Int) (k : Int) = bif (l.drop k).any bigV then x0 true else x3 a b c d
  | 0, k, h => by omega
  | n + 1, k, h => by
    unfold W9_7
    by_cases hd : k < l.length
    · rw [cond_dec (by omega), cond_t (in_dec hd), Int.toNat_natCast, drop_getD (d := ((0 : Int), ((0 : Int), (ByteArray.empty, ())))) hd, wi64 _ (by omega) (by omega), show ((k : Int) + 1) = ((k + 1 : Nat) : Int) by omega,
        w9_7 N x0 x3 a b c d l hs n (k + 1) (by omega), List.any_cons]
      generalize List.getD l k ((0 : Int), ((0 : Int), (ByteArray.empty, ()))) = v
      rw [show decide (((v.2.2.1.size : Nat) : Int) > (100 : Int)) = bigV v from big_dec _ 100]
      cases bigV v <;> rfl
    · rw [cond_dec' (by omega), List.drop_eq_nil_of_le (by omega)]; rfl
def bigD (d : Deed) : Bool := decide (10 < d.2.2.1.length) || (decide (100 < d.1.2.2.1.size) || d.2.2.1.any bigV)
theorem w9_2 (N : Nat) (hN : 20 ≤ N) {β : Type} (x0 : Bool → Option β) (x1 : List Deed → Option β) (a : List Deed) (l : List Deed) (hs : l.length ≤ 9223372036854775807) : ∀ (n k : Nat), l.length - k < n →
    W9_2 N x0 x1 n a l (l.length : Int) (k : Int) = bif (l.drop k).any bigD then x0 true else x1 a
  | 0, k, h => by omega
  | n + 1, k, h => by
    unfold W9_2
    by_cases hd : k < l.length
    · rw [cond_dec (by omega), cond_t (in_dec hd), Int.toNat_natCast, drop_getD (d := (((0 : Int), ((0 : Int), (ByteArray.empty, ()))), ((0 : Int), ([], ())))) hd, List.any_cons]
      generalize List.getD l k (((0 : Int), ((0 : Int), (ByteArray.empty, ()))), ((0 : Int), ([], ()))) = v
      rw [show decide (((v.2.2.1.length : Nat) : Int) > (10 : Int)) = decide (10 < v.2.2.1.length) from big_dec _ 10, show decide (((v.1.2.2.1.size : Nat) : Int) > (100 : Int)) = decide (100 < v.1.2.2.1.size) from big_dec _ 100]
      unfold bigD
      by_cases h10 : 10 < v.2.2.1.length
      · rw [decide_eq_true h10]; rfl
      · rw [decide_eq_false h10]
        have hw := fun x3 => w9_7 (β := β) N (fun t2 => x0 t2) x3 a l (l.length : Int) (k : Int) v.2.2.1 (by omega) N 0 (by omega)
        rw [show ((0 : Nat) : Int) = 0 from rfl] at hw
        rw [hw, List.drop_zero, wi64 _ (by omega) (by omega), show ((k : Int) + 1) = ((k + 1 : Nat) : Int) by omega, w9_2 N hN x0 x1 a l hs n (k + 1) (by omega)]
        cases decide (100 < v.1.2.2.1.size) <;> cases v.2.2.1.any bigV <;> rfl
    · rw [cond_dec' (by omega), List.drop_eq_nil_of_le (by omega)]; rfl
theorem greatD_eq (l : List Deed) : greatD l = (l.any bigD || decide (40 < l.length)) := rfl
def fuel9 (l : List Deed) : Nat := l.length + 20
theorem okDs_len {l : List Deed} (h : okDs l = true) : l.length ≤ 9223372036854775807 := Nat.le_trans (wfD_sl h).1 maxLen_le
theorem plain9 (l : List Deed) (h : okDs l = true) : F9 (fuel9 l) l = some (greatD l, ()) := by
  unfold F9
  have hw := fun x0 x1 => w9_2 (fuel9 l) (by unfold fuel9; omega) (β := Bool × Unit) x0 x1 l l (by have := okDs_len h; omega) (fuel9 l) 0 (by unfold fuel9; omega)
  rw [show ((0 : Nat) : Int) = 0 from rfl] at hw
  rw [hw, List.drop_zero, greatD_eq, show decide (((l.length : Nat) : Int) > (40 : Int)) = decide (40 < l.length) from big_dec _ 40]
  cases l.any bigD <;> rfl
def argD (d : Deed) : Val := d.2.2.1.getD 0 none'
/-- What was pushed, of that which bears no mark. -/
def keepL : List Bool → List Deed → List Val
  | g :: gs, d :: ds => (bif d.2.1 == 9 && !g then [argD d] else []) ++ keepL gs ds
  | _, _ => []
theorem keepL_cons (g : Bool) (gs : List Bool) (d : Deed) (ds : List Deed) : keepL (g :: gs) (d :: ds) = (bif d.2.1 == 9 && !g then [argD d] else []) ++ keepL gs ds := rfl
theorem keepL_app : ∀ {gs : List Bool} {ds : List Deed} {hs : List Bool} {es : List Deed}, gs.length = ds.length → keepL (gs ++ hs) (ds ++ es) = keepL gs ds ++ keepL hs es
  | [], [], _, _, _ => rfl
  | g :: gs, d :: ds, hs, es, h => by
    simp only [List.cons_append, keepL, List.append_assoc]
    rw [keepL_app (by simpa using h)]
  | [], _ :: _, _, _, h => by simp at h
  | _ :: _, [], _, _, h => by simp at h
/-- Which push is next to go. -/
def scan (m : Int) : List Bool → List Deed → Nat → Int → Int
  | g :: gs, d :: ds, k, at' => scan m gs ds (k + 1) (bif d.2.1 == 9 && !g && (m == 6 || decide (at' < 0)) then (k : Int) else at')
  | _, _, _, at' => at'
theorem scan_first : ∀ {gs : List Bool} {ds : List Deed} {k : Nat} {a : Int}, 0 ≤ a → scan 5 gs ds k a = a
  | [], _, _, _, _ => rfl
  | _ :: _, [], _, _, _ => rfl
  | g :: gs, d :: ds, k, a, h => by
    unfold scan
    rw [show ((5 : Int) == 6) = false from rfl, decide_eq_false (by omega), Bool.or_false, Bool.and_false, cond_false]
    exact scan_first h
/-- A queue: the first one. -/
theorem scan5 : ∀ {gs : List Bool} {ds : List Deed} {k : Nat}, gs.length = ds.length →
    (keepL gs ds = [] ∧ scan 5 gs ds k (-1) = -1) ∨ ∃ j v r, j < gs.length ∧ scan 5 gs ds k (-1) = ((k + j : Nat) : Int) ∧ keepL gs ds = v :: r ∧ keepL (gs.set j true) ds = r
  | [], [], k, _ => .inl ⟨rfl, rfl⟩
  | [], _ :: _, _, h => by simp at h
  | _ :: _, [], _, h => by simp at h
  | g :: gs, d :: ds, k, h => by
    have h' : gs.length = ds.length := by simpa using h
    rw [keepL_cons]
    unfold scan
    cases hc : (d.2.1 == 9 && !g) with
    | true =>
      refine .inr ⟨0, argD d, keepL gs ds, by simp, ?_, rfl, ?_⟩
      · simp only [Bool.true_and, show ((5 : Int) == 6) = false from rfl, Bool.false_or, show decide ((-1 : Int) < 0) = true from rfl, cond_true]
        exact scan_first (by omega)
      · simp only [List.set_cons_zero, keepL, Bool.not_true, Bool.and_false, cond_false, List.nil_append]
    | false =>
      simp only [Bool.false_and, cond_false, List.nil_append]
      rcases scan5 (k := k + 1) h' with ⟨h1, h2⟩ | ⟨j, v, r, h1, h2, h3, h4⟩
      · exact .inl ⟨h1, h2⟩
      · refine .inr ⟨j + 1, v, r, by simpa using h1, by rw [h2]; congr 1; omega, h3, ?_⟩
        rw [List.set_cons_succ, keepL_cons, hc, h4]; rfl
/-- A stack: the last one. -/
theorem scan6 : ∀ {gs : List Bool} {ds : List Deed} {k : Nat} {a : Int}, gs.length = ds.length →
    (keepL gs ds = [] ∧ scan 6 gs ds k a = a) ∨ ∃ j v r, j < gs.length ∧ scan 6 gs ds k a = ((k + j : Nat) : Int) ∧ keepL gs ds = v :: r ∧ keepL (gs.set j true) ds = (v :: r).dropLast
  | [], [], k, a, _ => .inl ⟨rfl, rfl⟩
  | [], _ :: _, _, _, h => by simp at h
  | _ :: _, [], _, _, h => by simp at h
  | g :: gs, d :: ds, k, a, h => by
    have h' : gs.length = ds.length := by simpa using h
    rw [keepL_cons]
    unfold scan
    cases hc : (d.2.1 == 9 && !g) with
    | true =>
      simp only [Bool.true_and, show ((6 : Int) == 6) = true from rfl, Bool.true_or, cond_true, List.cons_append, List.nil_append]
      rcases scan6 (k := k + 1) (a := (k : Int)) h' with ⟨h1, h2⟩ | ⟨j, v, r, h1, h2, h3, h4⟩
      · refine .inr ⟨0, argD d, [], by simp, by rw [h2]; rfl, by rw [h1], ?_⟩
        simp only [List.set_cons_zero, keepL, Bool.not_true, Bool.and_false, cond_false, List.nil_append, h1, List.dropLast]
      · refine .inr ⟨j + 1, argD d, v :: r, by simpa using h1, by rw [h2]; congr 1; omega, by rw [h3], ?_⟩
        rw [List.set_cons_succ, keepL_cons, hc, h4]; rfl
    | false =>
      simp only [Bool.false_and, cond_false, List.nil_append]
      rcases scan6 (k := k + 1) (a := a) h' with ⟨h1, h2⟩ | ⟨j, v, r, h1, h2, h3, h4⟩
      · exact .inl ⟨h1, h2⟩
      · refine .inr ⟨j + 1, v, r, by simpa using h1, by rw [h2]; congr 1; omega, h3, ?_⟩
        rw [List.set_cons_succ, keepL_cons, hc, h4]; rfl
theorem scan_ok {m : Int} (hm : qOwn m = true) {gs : List Bool} {ds : List Deed} (h : gs.length = ds.length) :
    ((popL m (keepL gs ds)).1 = keepL gs ds ∧ scan m gs ds 0 (-1) = -1) ∨ ∃ j : Nat, j < gs.length ∧ scan m gs ds 0 (-1) = (j : Int) ∧ keepL (gs.set j true) ds = (popL m (keepL gs ds)).1 := by
  rcases qOwn_cases hm with rfl | rfl
  · rcases scan5 (k := 0) h with ⟨h1, h2⟩ | ⟨j, v, r, h1, h2, h3, h4⟩
    · exact .inl ⟨by rw [h1]; rfl, h2⟩
    · exact .inr ⟨j, h1, by rw [h2, Nat.zero_add], by rw [h3, h4]; rfl⟩
  · rcases scan6 (k := 0) (a := -1) h with ⟨h1, h2⟩ | ⟨j, v, r, h1, h2, h3, h4⟩
    · exact .inl ⟨by rw [h1]; rfl, h2⟩
    · exact .inr ⟨j, h1, by rw [h2, Nat.zero_add], by rw [h3, h4]; rfl⟩
theorem getD_at {α : Type} {a : List α} {x d : α} {b : List α} : (a ++ x :: b).getD a.length d = x := by
  rw [List.getD_eq_getElem?_getD, List.getElem?_append_right (Nat.le_refl _)]; simp
theorem w21_8 (N : Nat) {β : Type} (x3 : Int → List Deed → Nat → Int → Int → List Bool → Option β) (m : Int) (T : Nat) : ∀ (n : Nat) (G2 : List Bool) (A2 : List Deed) (G1 : List Bool) (A1 : List Deed) (H : List Bool) (B : List Deed) (a : Int),
    G1.length = A1.length → G2.length = A2.length → A1.length + A2.length < T → T ≤ 1000 → A2.length < n → (A1 ++ (A2 ++ B)).length = T → (G1 ++ (G2 ++ H)).length = T →
    W21_8 N x3 n m (A1 ++ (A2 ++ B)) T ((A1.length + A2.length : Nat) : Int) a (A1.length : Int) (G1 ++ (G2 ++ H)) = x3 m (A1 ++ (A2 ++ B)) T ((A1.length + A2.length : Nat) : Int) (scan m G2 A2 A1.length a) (G1 ++ (G2 ++ H))
  | 0, _, _, _, _, _, _, _, _, _, _, _, h, _, _ => by omega
  | n + 1, [], [], G1, A1, H, B, a, h1, h2, h3, h4, h5, h6, h7 => by
    unfold W21_8
    rw [cond_dec' (by simp)]; rfl
  | n + 1, [], _ :: _, G1, A1, H, B, a, h1, h2, h3, h4, h5, h6, h7 => by simp at h2
  | n + 1, _ :: _, [], G1, A1, H, B, a, h1, h2, h3, h4, h5, h6, h7 => by simp at h2
  | n + 1, g :: G2, d :: A2, G1, A1, H, B, a, h1, h2, h3, h4, h5, h6, h7 => by
    have ih := fun a' => w21_8 N x3 m T n G2 A2 (G1 ++ [g]) (A1 ++ [d]) H B a' (by simp [h1]) (by simpa using h2) (by simp only [List.length_append, List.length_cons, List.length_nil] at h3 ⊢; omega) h4 (by simp only [List.length_cons] at h5; omega) (by rw [← h6]; simp) (by rw [← h7]; simp)
    have e1 : A1 ++ [d] ++ (A2 ++ B) = A1 ++ (d :: A2 ++ B) := by simp
    have e2 : G1 ++ [g] ++ (G2 ++ H) = G1 ++ (g :: G2 ++ H) := by simp
    have e3 : ((A1 ++ [d]).length + A2.length : Nat) = A1.length + (d :: A2).length := by simp only [List.length_append, List.length_cons, List.length_nil]; omega
    have e4 : (((A1 ++ [d]).length : Nat) : Int) = (A1.length : Int) + 1 := by simp
    rw [e1, e2, e3, e4] at ih
    have hl : A1.length < (A1 ++ (d :: A2 ++ B)).length := by simp
    have hg : A1.length < (G1 ++ (g :: G2 ++ H)).length := by rw [h7, ← h6]; exact hl
    unfold W21_8
    rw [cond_dec (by simp only [List.length_cons]; omega), cond_t (in_dec hl), Int.toNat_natCast, cond_t (in_dec (by simp only [List.length_cons] at h3; omega)), cond_dec hg, wi64 _ (by omega) (by omega)]
    have g1 : (A1 ++ (d :: A2 ++ B)).getD A1.length (((0 : Int), ((0 : Int), (ByteArray.empty, ()))), ((0 : Int), ([], ()))) = d := getD_at
    have g2 : (G1 ++ (g :: G2 ++ H)).getD A1.length false = g := by rw [← h1]; exact getD_at
    rw [g1, g2]
    have e5 : (A1 ++ [d]).length = A1.length + 1 := by simp
    rw [e5] at ih
    unfold scan
    cases (d.2.1 == 9) with
    | false => simp only [cond_false, Bool.false_and]; exact ih a
    | true =>
      cases g with
      | true => simp only [cond_true, Bool.not_true, cond_false, Bool.and_false, Bool.false_and]; exact ih a
      | false =>
        simp only [cond_true, Bool.not_false, Bool.and_true, Bool.true_and]
        cases (m == 6) with
        | true => simp only [cond_true, Bool.true_or]; exact ih _
        | false =>
          simp only [cond_false, Bool.false_or]
          cases decide (a < 0) with
          | true => simp only [cond_true]; exact ih _
          | false => simp only [cond_false]; exact ih _
theorem keepL_len : ∀ {gs : List Bool} {ds : List Deed}, (keepL gs ds).length ≤ ds.length
  | [], _ => by simp [keepL]
  | _ :: _, [] => by simp [keepL]
  | g :: gs, d :: ds => by
    rw [keepL_cons, List.length_append, List.length_cons]
    have := keepL_len (gs := gs) (ds := ds)
    cases (d.2.1 == 9 && !g) <;> simp only [cond_true, cond_false, List.length_cons, List.length_nil] <;> omega
theorem w21_3 (N : Nat) {β : Type} (x1 : List Deed → Nat → List Bool → Option β) (m : Int) (hm : qOwn m = true) (T : Nat) (hT : T ≤ 1000) (hN : T < N) : ∀ (n : Nat) (B A : List Deed) (G : List Bool) (H : List Bool),
    G.length = A.length → H = List.replicate B.length false → (A ++ B).length = T → B.length < n → keepL G A = A.foldl (qStep m) [] →
    ∃ G' : List Bool, G'.length = T ∧ keepL G' (A ++ B) = (A ++ B).foldl (qStep m) [] ∧ W21_3 N x1 n m (A ++ B) T (A.length : Int) (G ++ H) = x1 (A ++ B) T G'
  | 0, _, _, _, _, _, _, _, h, _ => by omega
  | n + 1, [], A, G, H, h1, h2, h3, h4, h5 => by
    subst h2
    refine ⟨G, by simpa [h1] using h3, by simpa using h5, ?_⟩
    unfold W21_3
    rw [cond_dec' (by simp)]
    simp
  | n + 1, d :: B, A, G, H, h1, h2, h3, h4, h5 => by
    have ih := w21_3 N x1 m hm T hT hN n B (A ++ [d])
    have e1 : A ++ [d] ++ B = A ++ d :: B := by simp
    have e4 : (((A ++ [d]).length : Nat) : Int) = (A.length : Int) + 1 := by simp
    rw [e1, e4] at ih
    have hH : H = false :: List.replicate B.length false := h2
    have hAT : A.length < T := by rw [← h3]; simp
    unfold W21_3
    rw [cond_dec (by simp only [List.length_append, List.length_cons]; omega), cond_t (in_dec (by simp)), Int.toNat_natCast, wi64 _ (by omega) (by omega)]
    have g1 : (A ++ d :: B).getD A.length (((0 : Int), ((0 : Int), (ByteArray.empty, ()))), ((0 : Int), ([], ()))) = d := getD_at
    rw [g1]
    have hfold : (A ++ [d]).foldl (qStep m) [] = qStep m (keepL G A) d := by rw [List.foldl_append, h5]; rfl
    have hk : ∀ G2 : List Bool, G2.length = A.length → keepL (G2 ++ [false]) (A ++ [d]) = keepL G2 A ++ (bif d.2.1 == 9 then [argD d] else []) := by
      intro G2 hl
      rw [keepL_app hl, keepL_cons]
      simp [keepL]
    cases ho : (d.2.1 == 10) with
    | false =>
      have hb : (d.2.1 != 10) = true := by rw [bne, ho]; rfl
      rw [hb, cond_true]
      have := ih (G ++ [false]) (List.replicate B.length false) (by simp [h1]) rfl h3 (by simp only [List.length_cons] at h4; omega) (by
        rw [hk G h1, hfold]
        unfold qStep
        rw [ho, cond_false]
        cases (d.2.1 == 9) with
        | true => rfl
        | false => simp)
      rw [List.append_assoc, List.singleton_append, ← hH] at this
      exact this
    | true =>
      have hb : (d.2.1 != 10) = false := by rw [bne, ho]; rfl
      have h9 : (d.2.1 == 9) = false := by rw [beq_iff_eq] at ho; rw [ho]; rfl
      rw [hb, cond_false]
      have hw := fun x3 => w21_8 (β := β) N x3 m T N G A [] [] H (d :: B) (-1) rfl h1 (by simpa using hAT) hT (by omega) h3 (by rw [hH]; simp only [List.nil_append, List.length_append, List.length_cons, List.length_replicate, h1]; rw [← h3]; simp)
      simp only [List.nil_append, List.length_nil, Nat.zero_add] at hw
      rw [show ((0 : Nat) : Int) = 0 from rfl] at hw
      rw [hw]
      rcases scan_ok hm (gs := G) (ds := A) h1 with ⟨s1, s2⟩ | ⟨j, s1, s2, s3⟩
      · rw [s2, show decide ((-1 : Int) ≥ 0) = false from rfl, cond_false]
        have := ih (G ++ [false]) (List.replicate B.length false) (by simp [h1]) rfl h3 (by simp only [List.length_cons] at h4; omega) (by
          rw [hk G h1, hfold, h9]
          unfold qStep
          rw [ho, cond_true, s1]
          simp)
        rw [List.append_assoc, List.singleton_append, ← hH] at this
        rw [wi64 _ (by omega) (by omega)]
        exact this
      · rw [s2, cond_dec (by omega), cond_t (in_dec (by omega)), Int.toNat_natCast, cond_dec (by rw [List.length_append]; omega), List.set_append_left _ _ s1]
        have := ih (G.set j true ++ [false]) (List.replicate B.length false) (by simp [h1]) rfl h3 (by simp only [List.length_cons] at h4; omega) (by
          rw [hk _ (by simpa using h1), hfold, h9, s3]
          unfold qStep
          rw [ho, cond_true]
          simp)
        rw [List.append_assoc, List.singleton_append, ← hH] at this
        rw [wi64 _ (by omega) (by omega)]
        exact this
theorem w21_16 (N : Nat) {β : Type} (x5 : List Val → Option β) (T : Nat) (hT : T ≤ 1000) : ∀ (n : Nat) (B A : List Deed) (G H : List Bool) (acc : List Val),
    G.length = A.length → H.length = B.length → (A ++ B).length = T → B.length < n → acc.length ≤ A.length → (∀ d ∈ B, d.2.1 = 9 → d.2.2.1 ≠ []) →
    W21_16 N x5 n (A ++ B) T acc (A.length : Int) (G ++ H) = x5 (acc ++ keepL H B)
  | 0, _, _, _, _, _, _, _, _, h, _, _ => by omega
  | n + 1, [], A, G, H, acc, h1, h2, h3, h4, h5, h6 => by
    obtain rfl : H = [] := List.eq_nil_of_length_eq_zero h2
    unfold W21_16
    rw [cond_dec' (by simp)]
    simp [keepL]
  | n + 1, d :: B, A, G, [], acc, h1, h2, h3, h4, h5, h6 => by simp at h2
  | n + 1, d :: B, A, G, g :: H, acc, h1, h2, h3, h4, h5, h6 => by
    have ih := fun acc' h => w21_16 N x5 T hT n B (A ++ [d]) (G ++ [g]) H acc' (by simp [h1]) (by simpa using h2) (by rw [← h3]; simp) (by simp only [List.length_cons] at h4; omega) h (fun d hd => h6 d (List.mem_cons_of_mem _ hd))
    have e1 : A ++ [d] ++ B = A ++ d :: B := by simp
    have e2 : G ++ [g] ++ H = G ++ g :: H := by simp
    have e4 : (((A ++ [d]).length : Nat) : Int) = (A.length : Int) + 1 := by simp
    rw [e1, e2, e4] at ih
    have hAT : A.length < T := by rw [← h3]; simp
    have hg : A.length < (G ++ g :: H).length := by simp only [List.length_append, List.length_cons, h1]; omega
    have g1 : (A ++ d :: B).getD A.length (((0 : Int), ((0 : Int), (ByteArray.empty, ()))), ((0 : Int), ([], ()))) = d := getD_at
    have g2 : (G ++ g :: H).getD A.length false = g := by rw [← h1]; exact getD_at
    have e5 : (A ++ [d]).length = A.length + 1 := by simp
    unfold W21_16
    rw [keepL_cons, cond_dec (by simp only [List.length_append, List.length_cons]; omega), cond_t (in_dec (by simp)), Int.toNat_natCast, wi64 _ (by omega) (by omega), g1, g2, cond_t (in_dec hAT), cond_dec hg]
    cases ho : (d.2.1 == 9) with
    | false =>
      simp only [cond_false, Bool.false_and, List.nil_append]
      exact ih acc (by omega)
    | true =>
      have hne := h6 d List.mem_cons_self (by simpa using ho)
      have hpos : 0 < d.2.2.1.length := List.length_pos_iff.2 hne
      cases g with
      | true =>
        simp only [cond_true, Bool.not_true, cond_false, Bool.and_false, List.nil_append]
        exact ih acc (by omega)
      | false =>
        simp only [cond_true, Bool.not_false, Bool.and_true]
        rw [cond_t (in_dec (by simp)), cond_t (show (decide ((0 : Int) ≤ 0) && decide ((0 : Int) < ((d.2.2.1.length : Nat) : Int))) = true from in_dec (i := 0) hpos), cond_dec (by simp only [List.length_cons, List.length_nil]; omega)]
        have := ih (acc ++ [argD d]) (by simp only [List.length_append, List.length_cons, List.length_nil]; omega)
        rw [List.append_assoc] at this
        exact this
def fuel21 (m : Int) (past : List Deed) : Nat := past.length + 1
theorem okPast_iff {m : Int} {past : List Deed} : okPast m past = true ↔ qOwn m = true ∧ past.length ≤ 1000 ∧ ∀ d ∈ past, d.2.1 = 9 → d.2.2.1 ≠ [] := by
  simp only [okPast, Bool.and_eq_true, decide_eq_true_eq, List.all_eq_true, Bool.or_eq_true, Bool.not_eq_true', beq_eq_false_iff_ne, List.isEmpty_eq_false_iff]
  constructor
  · rintro ⟨a, b, c⟩
    refine ⟨a, b, fun d hd h9 => ?_⟩
    rcases c d hd with h | h
    · exact absurd h9 h
    · exact h
  · rintro ⟨a, b, c⟩
    refine ⟨a, b, fun d hd => ?_⟩
    by_cases h9 : d.2.1 = 9
    · exact .inr (c d hd h9)
    · exact .inl h9
theorem plain21 (m : Int) (past : List Deed) (h : okPast m past = true) : F21 (fuel21 m past) m past = some (queueLeft m past, ()) := by
  obtain ⟨hm, hl, hp⟩ := okPast_iff.1 h
  unfold F21
  rw [cond_t (by simp; omega), Int.toNat_natCast]
  obtain ⟨G, hG, hk, he⟩ := w21_3 (β := List Val × Unit) (fuel21 m past) (fun t1 t5 b13 => W21_16 (fuel21 m past) (fun t9 => some (t9, ())) (fuel21 m past) t1 t5 [] 0 b13) m hm past.length hl (by unfold fuel21; omega) (fuel21 m past) past [] [] (List.replicate past.length false) rfl rfl rfl (by unfold fuel21; omega) rfl
  simp only [List.nil_append, List.length_nil] at hk he
  rw [show ((0 : Nat) : Int) = 0 from rfl] at he
  refine Eq.trans he ?_
  have hw := w21_16 (β := List Val × Unit) (fuel21 m past) (fun t9 => some (t9, ())) past.length hl (fuel21 m past) past [] [] G [] rfl hG rfl (by unfold fuel21; omega) (by simp) hp
  simp only [List.nil_append, List.length_nil] at hw
  rw [show ((0 : Nat) : Int) = 0 from rfl] at hw
  rw [hw, hk]; rfl
def fuel11 (m : Int) (past : List Deed) : Nat := 0
theorem plain11 (m : Int) (past : List Deed) (h : okPast m past = true) : F11 0 m past = some (queueState m past, ()) := by
  unfold F11
  rw [h]; rfl
theorem qStep_len (m : Int) (l : List Val) (d : Deed) : (qStep m l d).length ≤ l.length + 1 := by
  unfold qStep
  cases (d.2.1 == 10) with
  | true =>
    rw [cond_true]; unfold popL
    cases l with
    | nil => simp
    | cons v r => cases (m == 5) <;> simp [cond_true, cond_false] <;> omega
  | false => cases (d.2.1 == 9) <;> simp
theorem fold_len (m : Int) : ∀ (past : List Deed) (l : List Val), (past.foldl (qStep m) l).length ≤ l.length + past.length
  | [], l => by simp
  | d :: p, l => by
    rw [List.foldl_cons, List.length_cons]
    have h1 := fold_len m p (qStep m l d)
    have h2 := qStep_len m l d
    omega
theorem left_len (m : Int) (past : List Deed) : (queueLeft m past).length ≤ past.length := by
  have := fold_len m past []
  simpa [queueLeft] using this
def fuel15 (m : Int) (past : List Deed) (d : Deed) : Nat := 0
theorem plain15 (m : Int) (past : List Deed) (d : Deed) (h : okPast1 m past d = true) : F15 0 m past d = some (queueOut m past d, ()) := by
  obtain ⟨hm, hl, hp⟩ := okPast_iff.1 h
  have h' : okPast m past = true := h
  unfold F15 queueOut
  rw [h', bne]
  cases (d.2.1 == 10) with
  | false => rfl
  | true =>
    simp only [Bool.not_true, cond_false, cond_true]
    have hll := left_len m past
    generalize queueLeft m past = l at hll
    cases l with
    | nil => rfl
    | cons v r =>
      have e0 : ((((v :: r).length : Nat) : Int) == 0) = false := beq_false_of_ne (by simp only [List.length_cons]; omega)
      have e1 : IntKind.wrap .i64 ((((v :: r).length : Nat) : Int) - 1) = (((v :: r).length - 1 : Nat) : Int) := by rw [wi64 _ (by omega) (by omega)]; simp only [List.length_cons]; omega
      simp only [e0, e1, cond_false]
      rw [cond_t (in_dec (by simp)), cond_t (show (decide ((0 : Int) ≤ 0) && decide ((0 : Int) < (((v :: r).length : Nat) : Int))) = true from in_dec (i := 0) (by simp)), Int.toNat_natCast, getD_last]
      rcases qOwn_cases hm with rfl | rfl <;> rfl
instance : LawfulBEq ByteArray where
  eq_of_beq h := ba_ext (by rw [ba_beq] at h; exact eq_of_beq h)
  rfl {a} := by rw [ba_beq]; exact beq_self_eq_true _
theorem veq (a b : Val) : ((a.1 == b.1) && ((a.2.1 == b.2.1) && ((a.2.2.1 == b.2.2.1) && true))) = (a == b) := by
  obtain ⟨k, n, s, ⟨⟩⟩ := a
  obtain ⟨k', n', s', ⟨⟩⟩ := b
  rfl
theorem w14 (N : Nat) {β : Type} (x0 : Bool → Option β) (x1 : Unit → Option β) (a b : List Val) (hl : a.length = b.length) (hs : a.length ≤ 1000000) : ∀ (n k : Nat), a.length - k < n →
    W14_4 N x0 x1 n a b (k : Int) = bif (a.drop k == b.drop k) then x1 () else x0 false
  | 0, k, h => by omega
  | n + 1, k, h => by
    unfold W14_4
    by_cases hd : k < a.length
    · rw [cond_dec (by omega), cond_t (in_dec hd), cond_t (in_dec (by omega)), Int.toNat_natCast, drop_getD (d := ((0 : Int), ((0 : Int), (ByteArray.empty, ())))) hd, drop_getD (l := b) (d := ((0 : Int), ((0 : Int), (ByteArray.empty, ())))) (by omega), wi64 _ (by omega) (by omega), show ((k : Int) + 1) = ((k + 1 : Nat) : Int) by omega,
        w14 N x0 x1 a b hl hs n (k + 1) (by omega), List.cons_beq_cons, veq]
      cases (a.getD k ((0 : Int), ((0 : Int), (ByteArray.empty, ()))) == b.getD k ((0 : Int), ((0 : Int), (ByteArray.empty, ())))) <;> rfl
    · rw [cond_dec' (by omega), List.drop_eq_nil_of_le (by omega), List.drop_eq_nil_of_le (by omega)]; rfl
def fuel14 (a b : List Val) : Nat := a.length + 1
theorem plain14 (a b : List Val) (h : okSame2 a b = true) : F14 (fuel14 a b) a b = some (sameV a b, ()) := by
  simp only [okSame2, Bool.and_eq_true, decide_eq_true_eq] at h
  unfold F14 sameV
  by_cases hl : a.length = b.length
  · have hw := fun x0 x1 => w14 (β := Bool × Unit) (fuel14 a b) x0 x1 a b hl h.1 (fuel14 a b) 0 (by unfold fuel14; omega)
    rw [show ((0 : Nat) : Int) = 0 from rfl] at hw
    rw [hw, List.drop_zero, List.drop_zero, hl, bne_self_eq_false, cond_false]
    cases (a == b) <;> rfl
  · have e1 : (((a.length : Nat) : Int) != ((b.length : Nat) : Int)) = true := bne_iff_ne.2 (by omega)
    have e2 : (a == b) = false := beq_false_of_ne (fun e => hl (by rw [e]))
    rw [e1, e2]; rfl
def fuel10 (a b : State) : Nat := 0
theorem plain10 (a b : State) (h : okSS a b = true) : F10 0 a b = some (sameS a b, ()) := by
  have h' : okSame2 a.2.2.2.1 b.2.2.2.1 = true := h
  unfold F10 sameS
  rw [h', veq]
  cases (a.1 == b.1) <;> cases (a.2.1 == b.2.1) <;> cases (a.2.2.1 == b.2.2.1) <;> rfl
def fuel13 (m : Int) (d : Deed) : Nat := 0
theorem plain13 (m : Int) (d : Deed) (h : okMay m d = true) : F13 0 m d = some (mayD m d, ()) := by
  simp only [okMay, Bool.and_eq_true, decide_eq_true_eq] at h
  obtain ⟨h1, h2⟩ := h
  have h1' := h1
  simp only [okDeed, wfD, Bool.and_eq_true] at h1
  have hv : okV d.1 = true := by simp only [okV, wfD, Bool.and_eq_true]; exact h1.1
  have hf : okF m d.2.1 d.2.2.1 = true := by
    simp only [okF, okL, okVs, wfD, Bool.and_eq_true, decide_eq_true_eq]
    have := h1.2.2.1
    simp only [decide_eq_true_eq] at this
    exact ⟨this, h2⟩
  unfold F13 mayD
  rw [hv, hf]
  cases name d.1 <;> rfl
theorem takes0 (v : Val) : takes 0 v = name v := by unfold takes name; cases right v <;> cases named v <;> rfl
theorem takes2 (v : Val) : takes 2 v = name v := by unfold takes name; cases right v <;> cases named v <;> rfl
theorem fits_row {m o : Int} {args : List Val} (h : fits m o args = true) : ∃ r ∈ tbl, r.1 = m ∧ r.2.1 = o := by
  unfold fits sin at h
  cases hf : sfind m o with
  | none => rw [hf] at h; simp at h
  | some r =>
    have hh := List.find?_some hf
    simp only [hit, Bool.and_eq_true, beq_iff_eq] at hh
    exact ⟨r, tbl_in hf, hh.1, hh.2⟩
theorem ops_queue {m o : Int} {args : List Val} (hm : qOwn m = true) (h : fits m o args = true) : o = 9 ∨ o = 10 := by
  obtain ⟨r, hr, rfl, rfl⟩ := fits_row h
  have : (tbl.all fun r => !(qOwn r.1) || (r.2.1 == 9 || r.2.1 == 10)) = true := by decide +kernel
  have := List.all_eq_true.1 this r hr
  simpa [hm] using this
theorem step_may {m : Int} (hm : qOwn m = true) (past : List Deed) (d : Deed) :
    queueStep (queueState m past) d.1 d.2.1 d.2.2.1 = bif mayD m d then (queueState m (past ++ [d]), queueOut m past d, true, ()) else (noS, [], false, ()) := by
  unfold queueStep stepOk
  show (bif (qOwn m && (takes 0 d.1 && fits m d.2.1 d.2.2.1)) then _ else _) = _
  rw [hm, takes0, Bool.true_and]
  unfold mayD
  cases hc : (name d.1 && fits m d.2.1 d.2.2.1) with
  | false => rfl
  | true =>
    have hf : fits m d.2.1 d.2.2.1 = true := by rw [Bool.and_eq_true] at hc; exact hc.2
    have hq : queueLeft m (past ++ [d]) = qStep m (queueLeft m past) d := by simp [queueLeft, List.foldl_append]
    simp only [cond_true]
    unfold queueState queueOut
    rw [hq]
    unfold qStep
    rcases ops_queue hm hf with ho | ho <;> rw [ho] <;> rfl
theorem okPast_step {m : Int} {past : List Deed} {d : Deed} (h : okPast m past = true) (hl : past.length < 1000) (hd : mayD m d = true) : okPast m (past ++ [d]) = true := by
  obtain ⟨h1, h2, h3⟩ := okPast_iff.1 h
  refine okPast_iff.2 ⟨h1, by simp only [List.length_append, List.length_cons, List.length_nil]; omega, fun e he h9 => ?_⟩
  rcases List.mem_append.1 he with he | he
  · exact h3 e he h9
  · obtain rfl := List.mem_singleton.1 he
    simp only [mayD, Bool.and_eq_true] at hd
    rw [h9] at hd
    obtain ⟨v, e1, _⟩ := fits_push h1 hd.2
    rw [e1]; simp
theorem sameV_self (l : List Val) : sameV l l = true := by unfold sameV; exact beq_self_eq_true _
theorem sameS_self (s : State) : sameS s s = true := by unfold sameS; rw [sameV_self]; simp
theorem okDs_mem {l : List Deed} (h : okDs l = true) {d : Deed} (hd : d ∈ l) : okDeed d = true := (wfD_sl h).2 d hd
theorem okDeed_parts {d : Deed} (h : okDeed d = true) : okV d.1 = true ∧ okVs d.2.2.1 = true := by
  simp only [okDeed, wfD, Bool.and_eq_true] at h
  exact ⟨by simp only [okV, wfD, Bool.and_eq_true]; exact h.1, by simp only [okVs, wfD, Bool.and_eq_true]; exact h.2.2.1⟩
theorem w3 (N : Nat) {β : Type} (x0 : Bool → Option β) (x1 : Unit → Option β) (m : Int) (hm : qOwn m = true) (l : List Deed) (hok : ∀ d ∈ l, okDeed d = true ∧ d.2.2.1.length ≤ 10) (hl : l.length ≤ 40) :
    ∀ (n k : Nat) (past : List Deed), l.length - k < n → past.length ≤ k → okPast m past = true →
    W3_12 N x0 x1 n m m 0 0 ByteArray.empty 0 (queueLeft m past) past l (l.length : Int) (k : Int) = x1 ()
  | 0, k, _, h, _, _ => by omega
  | n + 1, k, past, h, hk, hp => by
    unfold W3_12
    by_cases hd : k < l.length
    · have hmem := getD_mem (d := (((0 : Int), ((0 : Int), (ByteArray.empty, ()))), ((0 : Int), (([] : List Val), ())))) hd
      rw [cond_dec (by omega), cond_t (in_dec hd), Int.toNat_natCast, wi64 _ (by omega) (by omega), show ((k : Int) + 1) = ((k + 1 : Nat) : Int) by omega,
        show ((m, (((0 : Int), ((0 : Int), (ByteArray.empty, ()))), ((0 : Int), (queueLeft m past, ())))) : State) = queueState m past from rfl]
      generalize List.getD l k (((0 : Int), ((0 : Int), (ByteArray.empty, ()))), ((0 : Int), ([], ()))) = d at hmem
      obtain ⟨ho, h10⟩ := hok d hmem
      obtain ⟨hv, hvs⟩ := okDeed_parts ho
      have hll := left_len m past
      have q1 : okQStep (queueState m past) d.1 d.2.1 d.2.2.1 = true := by
        simp only [okQStep, okPop, okL, Bool.and_eq_true, decide_eq_true_eq]
        exact ⟨by show (queueLeft m past).length ≤ 1000000; omega, hv, hvs, by omega⟩
      have q2 : okMay m d = true := by simp only [okMay, Bool.and_eq_true, decide_eq_true_eq]; exact ⟨ho, by omega⟩
      have q3 : okPast1 m past d = true := hp
      rw [q1, q2, step_may hm]
      cases hmay : mayD m d with
      | false =>
        simp only [cond_true, cond_false]
        exact w3 N x0 x1 m hm l hok hl n (k + 1) past (by omega) (by omega) hp
      | true =>
        have hp' := okPast_step hp (by omega) hmay
        have hll' := left_len m (past ++ [d])
        rw [List.length_append, List.length_singleton] at hll'
        have q4 : ∀ o : List Val, o.length ≤ 1000000 → okSame2 o o = true := fun o h => by simp only [okSame2, Bool.and_eq_true, decide_eq_true_eq]; exact ⟨h, h⟩
        have q5 : (queueOut m past d).length ≤ 1000000 := by
          unfold queueOut
          cases (d.2.1 == 10) <;> simp
        have q6 : okSS (queueState m (past ++ [d])) (queueState m (past ++ [d])) = true := q4 _ (by show (queueLeft m (past ++ [d])).length ≤ 1000000; omega)
        simp only [cond_true, cond_false, q3, q4 _ q5, sameV_self, sameS_self, hp', q6, Bool.not_true, beq_self_eq_true]
        rw [cond_dec (by simp only [List.length_cons, List.length_nil]; omega)]
        exact w3 N x0 x1 m hm l hok hl n (k + 1) (past ++ [d]) (by omega) (by simp only [List.length_append, List.length_cons, List.length_nil]; omega) hp'
    · rw [cond_dec' (by omega)]
def fuel3 (m : Int) (l : List Deed) : Nat := 50
theorem plain3 (m : Int) (l : List Deed) (h : okPlays m l = true) : F3 (fuel3 m l) m l = some (true, ()) := by
  have h' : okDs l = true := h
  unfold F3
  rw [queueNew_ok, h']
  unfold queueNew
  cases hm : qOwn m with
  | false => rfl
  | true =>
    have hp0 : okPast m [] = true := okPast_iff.2 ⟨hm, by simp, by simp⟩
    have e1 : okSS (mkS m none' 0 []) noS = true := rfl
    have e2 : okSS (mkS m none' 0 []) (queueState m []) = true := rfl
    have e3 : sameS (mkS m none' 0 []) (queueState m []) = true := sameS_self _
    have e4 : ((0 : Int), (((0 : Int), ((0 : Int), (ByteArray.empty, ()))), ((0 : Int), (([] : List Val), ())))) = noS := rfl
    simp only [cond_true, cond_false, beq_self_eq_true, Bool.not_true, hp0]
    rw [e2, e3]
    cases hg : greatD l with
    | true =>
      simp only [cond_true]
      rw [e4, e1]
      cases sameS (mkS m none' 0 []) noS <;> rfl
    | false =>
      simp only [cond_true, cond_false, Bool.not_true]
      rw [greatD_eq, Bool.or_eq_false_iff, decide_eq_false_iff_not, List.any_eq_false] at hg
      refine w3 _ _ _ m hm l (fun d hd => ⟨okDs_mem h' hd, ?_⟩) (by omega) 50 0 [] (by omega) (by simp) hp0
      have := hg.1 d hd
      simp only [bigD, Bool.or_eq_true, decide_eq_true_eq, not_or] at this
      omega
theorem step_push {m : Int} (hm : qOwn m = true) (t : List Val) (v : Val) (hv : name v = true) : queueStep (mkS m none' 0 t) (num' 1) 9 [v] = (mkS m none' 0 (t ++ [v]), [], true, ()) := by
  have e : sin m 9 = some [2] := by rcases qOwn_cases hm with rfl | rfl <;> decide +kernel
  have hf : fits m 9 [v] = true := by unfold fits; rw [e]; simp [takesAll, takes2, hv]
  have ht : takes 0 (num' 1) = true := by decide +kernel
  unfold queueStep stepOk
  show (bif (qOwn m && (takes 0 (num' 1) && fits m 9 [v])) then _ else _) = _
  rw [hm, ht, hf]; rfl
theorem step_pop {m : Int} (hm : qOwn m = true) (t : List Val) : queueStep (mkS m none' 0 t) (num' 1) 10 [] = (mkS m none' 0 (popL m t).1, [(popL m t).2], true, ()) := by
  have e : sin m 10 = some [] := by rcases qOwn_cases hm with rfl | rfl <;> decide +kernel
  have hf : fits m 10 [] = true := by unfold fits; rw [e]; rfl
  have ht : takes 0 (num' 1) = true := by decide +kernel
  unfold queueStep stepOk
  show (bif (qOwn m && (takes 0 (num' 1) && fits m 10 [])) then _ else _) = _
  rw [hm, ht, hf]; rfl
theorem okQ {m : Int} {t : List Val} {o : Int} {args : List Val} (h1 : t.length ≤ 1000000) (h2 : okVs args = true) (h3 : args.length ≤ 1000) : okQStep (mkS m none' 0 t) (num' 1) o args = true := by
  simp only [okQStep, okPop, okL, Bool.and_eq_true, decide_eq_true_eq]
  exact ⟨h1, by decide +kernel, h2, h3⟩
theorem okVs_one {v : Val} (h : okV v = true) : okVs [v] = true := okVs_iff.2 ⟨by simp [maxLen], by simpa using h⟩
theorem take_at {α : Type} {l : List α} {d : α} {i : Nat} (h : i < l.length) : l.take (i + 1) = l.take i ++ [l.getD i d] := by
  rw [List.getD_eq_getElem?_getD, List.getElem?_eq_getElem h, Option.getD_some, List.take_append_getElem]
theorem w4_8 (N : Nat) {β : Type} (x0 : Bool → Option β) (x1 : List Val → Int → Int → Int → ByteArray → Int → List Val → Int → Int → Int → ByteArray → Int → List Val → Option β) (a l : List Val) (hok : okVs l = true) (hl : l.length ≤ 40) :
    ∀ (n k : Nat), l.length - k < n → k ≤ l.length →
    W4_8 N x0 x1 n a 5 0 0 ByteArray.empty 0 (l.take k) 6 0 0 ByteArray.empty 0 (l.take k) l (l.length : Int) (k : Int) = x0 true ∨
    W4_8 N x0 x1 n a 5 0 0 ByteArray.empty 0 (l.take k) 6 0 0 ByteArray.empty 0 (l.take k) l (l.length : Int) (k : Int) = x1 a 5 0 0 ByteArray.empty 0 l 6 0 0 ByteArray.empty 0 l
  | 0, k, h, _ => by omega
  | n + 1, k, h, hk => by
    unfold W4_8
    by_cases hd : k < l.length
    · have hv := (okVs_iff.1 hok).2 _ (getD_mem (d := ((0 : Int), ((0 : Int), (ByteArray.empty, ())))) hd)
      have ih := w4_8 N x0 x1 a l hok hl n (k + 1) (by omega) (by omega)
      rw [take_at (d := ((0 : Int), ((0 : Int), (ByteArray.empty, ())))) hd] at ih
      rw [cond_dec (by omega), cond_t (in_dec hd), Int.toNat_natCast, wi64 _ (by omega) (by omega), show ((k : Int) + 1) = ((k + 1 : Nat) : Int) by omega]
      generalize List.getD l k ((0 : Int), ((0 : Int), (ByteArray.empty, ()))) = v at hv ih
      generalize hc : decide (((v.2.2.1.size : Nat) : Int) > (100 : Int)) = c
      cases c with
      | true => exact .inl rfl
      | false =>
        rw [hv]
        cases hn : name v with
        | false => exact .inl rfl
        | true =>
          have hlt : (l.take k).length ≤ 1000000 := by rw [List.length_take]; omega
          have e5 : (((5 : Int), (((0 : Int), ((0 : Int), (ByteArray.empty, ()))), ((0 : Int), (l.take k, ())))) : State) = mkS 5 none' 0 (l.take k) := rfl
          have e6 : (((6 : Int), (((0 : Int), ((0 : Int), (ByteArray.empty, ()))), ((0 : Int), (l.take k, ())))) : State) = mkS 6 none' 0 (l.take k) := rfl
          rw [e5, e6, okQ hlt (okVs_one hv) (by simp), okQ hlt (okVs_one hv) (by simp), step_push (m := 5) rfl _ v hn, step_push (m := 6) rfl _ v hn]
          exact ih
    · rw [cond_dec' (by omega)]
      obtain rfl : k = l.length := by omega
      rw [List.take_length]
      exact .inr rfl
theorem pop5 (v : Val) (l : List Val) : popL 5 (v :: l) = (l, v) := rfl
theorem pop6 (l : List Val) (v : Val) : popL 6 (l ++ [v]) = (l, v) := by
  cases l with
  | nil => rfl
  | cons a l =>
    show (((a :: l) ++ [v]).dropLast, ((a :: l) ++ [v]).getLastD none') = _
    rw [List.dropLast_concat, List.getLastD_concat]
theorem w4_16 (N : Nat) {β : Type} (x0 : Bool → Option β) (x3 : Int → Int → Int → ByteArray → Int → List Val → Int → Int → Int → ByteArray → Int → List Val → Option β) (l : List Val) (hl : l.length ≤ 40) :
    ∀ (n k : Nat), l.length + 1 - k < n → k ≤ l.length + 1 →
    W4_16 N x0 x3 n l 5 0 0 ByteArray.empty 0 (l.drop k) 6 0 0 ByteArray.empty 0 (l.take (l.length - k)) ((l.length + 1 : Nat) : Int) (k : Int) = x3 5 0 0 ByteArray.empty 0 [] 6 0 0 ByteArray.empty 0 []
  | 0, k, h, _ => by omega
  | n + 1, k, h, hk => by
    have ih := w4_16 N x0 x3 l hl n (k + 1)
    unfold W4_16
    have h5 : (l.drop k).length ≤ 1000000 := by rw [List.length_drop]; omega
    have h6 : (l.take (l.length - k)).length ≤ 1000000 := by rw [List.length_take]; omega
    have e5 : ∀ t : List Val, (((5 : Int), (((0 : Int), ((0 : Int), (ByteArray.empty, ()))), ((0 : Int), (t, ())))) : State) = mkS 5 none' 0 t := fun _ => rfl
    have e6 : ∀ t : List Val, (((6 : Int), (((0 : Int), ((0 : Int), (ByteArray.empty, ()))), ((0 : Int), (t, ())))) : State) = mkS 6 none' 0 t := fun _ => rfl
    rw [e5, e6, okQ h5 rfl (by simp), okQ h6 rfl (by simp), step_pop (m := 5) rfl, step_pop (m := 6) rfl]
    have q4 : ∀ a b : Val, okSame2 [a] [b] = true := fun _ _ => rfl
    by_cases hd : k < l.length
    · have w1 : IntKind.wrap .i64 (((l.length : Nat) : Int) - 1) = ((l.length : Nat) : Int) - 1 := wi64 _ (by omega) (by omega)
      have w2 : IntKind.wrap .i64 (((l.length : Nat) : Int) - 1 - (k : Int)) = ((l.length - (k + 1) : Nat) : Int) := by rw [wi64 _ (by omega) (by omega)]; omega
      have e7 : l.take (l.length - k) = l.take (l.length - (k + 1)) ++ [l.getD (l.length - (k + 1)) ((0 : Int), ((0 : Int), (ByteArray.empty, ())))] := by
        rw [← take_at (by omega)]; congr 1; omega
      rw [cond_dec (by omega), cond_dec (by omega), cond_t (in_dec hd), w1, w2, cond_t (in_dec (by omega)), Int.toNat_natCast, Int.toNat_natCast, drop_getD (d := ((0 : Int), ((0 : Int), (ByteArray.empty, ())))) hd, e7, pop5, pop6, q4, q4, sameV_self, sameV_self, wi64 _ (by omega) (by omega), show ((k : Int) + 1) = ((k + 1 : Nat) : Int) by omega]
      exact ih (by omega) (by omega)
    · by_cases hd' : k = l.length
      · subst hd'
        rw [cond_dec (by omega), cond_dec' (by omega), List.drop_length, Nat.sub_self, List.take_zero, wi64 _ (by omega) (by omega), show ((l.length : Int) + 1) = ((l.length + 1 : Nat) : Int) by omega]
        have := ih (by omega) (by omega)
        rw [List.drop_eq_nil_of_le (by omega), show l.length - (l.length + 1) = 0 by omega, List.take_zero] at this
        exact this
      · obtain rfl : k = l.length + 1 := by omega
        rw [cond_dec' (by omega), List.drop_eq_nil_of_le (by omega), show l.length - (l.length + 1) = 0 by omega, List.take_zero]
def fuel4 (l : List Val) : Nat := 50
theorem plain4 (l : List Val) (h : okVs l = true) : F4 (fuel4 l) l = some (true, ()) := by
  unfold F4
  by_cases h40 : ((l.length : Nat) : Int) > 40
  · rw [cond_dec h40]
  · rw [cond_dec' h40]
    rcases w4_8 (fuel4 l) (fun t2 => some (t2, ())) (fun t0 b3a b3ba b3bba b3bbba b3bbbba b3bbbbba b5a b5ba b5bba b5bbba b5bbbba b5bbbbba =>
        W4_16 (fuel4 l)
          (fun t2 =>
            some (t2, ()))
          (fun b3a b3ba b3bba b3bbba b3bbbba b3bbbbba b5a b5ba b5bba b5bbba b5bbbba b5bbbbba =>
            bif ((((List.length b3bbbbba) : Nat) : Int) == (0 : Int)) then
              some (((((List.length b5bbbbba) : Nat) : Int) == (0 : Int)), ())
            else
              some (false, ()))
          (fuel4 l) t0 b3a b3ba b3bba b3bbba b3bbbba b3bbbbba b5a b5ba b5bba b5bbba b5bbbba b5bbbbba (Go.IntKind.wrap .i64 ((((List.length t0) : Nat) : Int) + (1 : Int))) (0 : Int)) l l h (by omega) 50 0 (by omega) (by omega) with e | e
    · exact e
    · refine Eq.trans e ?_
      have hw := w4_16 (β := Bool × Unit) (fuel4 l) (fun t2 => some (t2, ())) (fun b3a b3ba b3bba b3bbba b3bbbba b3bbbbba b5a b5ba b5bba b5bbba b5bbbba b5bbbbba =>
            bif ((((List.length b3bbbbba) : Nat) : Int) == (0 : Int)) then
              some (((((List.length b5bbbbba) : Nat) : Int) == (0 : Int)), ())
            else
              some (false, ())) l (by omega) 50 0 (by omega) (by omega)
      rw [Nat.sub_zero, List.take_length, List.drop_zero] at hw
      rw [wi64 _ (by omega) (by omega), show ((l.length : Int) + 1) = ((l.length + 1 : Nat) : Int) by omega]
      exact hw

end Go.L15
