/- Own text of this session: a part of the proof; no condition of its own. -/
import Derived.Test.YtallccfhkhonbaaDoorWalk
set_option linter.unusedVariables false
set_option linter.unusedSimpArgs false
set_option maxRecDepth 100000
namespace Go.L17
open Go Go.Abs Go.Inc
theorem kinds (k : Int) : k = 0 ∨ k = 1 ∨ k = 2 ∨ k = 3 ∨ (k ≠ 0 ∧ k ≠ 1 ∧ k ≠ 2 ∧ k ≠ 3) := by omega
theorem doms (k : Int) : k = 0 ∨ k = 1 ∨ k = 2 ∨ k = 3 ∨ k = 4 ∨ k = 5 ∨ k = 6 ∨ (k < 0 ∨ 6 < k) := by omega

/-! Words -/
theorem w51 (N : Nat) {β : Type} (x0 : Bool → Option β) (x1 : Int → Bool → Option β) (c : Int) (b : Bool) : ∀ (n : Nat) (t : Int), 97 ≤ t → t ≤ 123 → 123 - t < n →
    W51_2 N x0 x1 n c b t = bif decide (t ≤ c ∧ c ≤ 122) then x0 true else x1 c b
  | 0, t, _, _, h => by omega
  | n + 1, t, h0, h1, h => by
    unfold W51_2
    by_cases hd : t ≤ 122
    · rw [cond_dec hd]
      by_cases hc : c = t
      · subst hc
        rw [beq_self_eq_true, cond_true, cond_dec ⟨Int.le_refl _, hd⟩]
      · rw [beq_false_of_ne hc, cond_false, wu8 _ (by omega) (by omega), w51 N x0 x1 c b n (t + 1) (by omega) (by omega) (by omega)]
        congr 1
        exact decide_eq_decide.2 (by omega)
    · rw [cond_dec' hd, cond_dec' (by omega)]
def fuel51 (c : Int) (b : Bool) : Nat := 30
theorem plain51 (c : Int) (b : Bool) (h : ok8 c b = true) : F51 (fuel51 c b) c b = some (letterGo c b, ()) := by
  unfold F51 letterGo
  rw [w51 _ _ _ c b (fuel51 c b) 97 (by decide) (by decide) (by show (26 : Int) < ((30 : Nat) : Int); decide)]
  cases hd : decide (97 ≤ c ∧ c ≤ 122) with
  | true => rfl
  | false =>
    cases b with
    | true => rfl
    | false =>
      simp only [cond_false, Bool.not_false, cond_true, Bool.false_or, Bool.true_and]
      by_cases h1 : c = 95
      · subst h1; rfl
      · rw [beq_false_of_ne h1, cond_false]
        by_cases h2 : c ≥ 48
        · rw [cond_dec h2, decide_eq_false h1, Bool.false_or]; congr 2; exact decide_eq_decide.2 (by omega)
        · rw [cond_dec' h2, decide_eq_false h1, Bool.false_or]; congr 2; exact (decide_eq_false (by omega)).symm

/-- Letters from a place on. -/
def okFrom : Nat → List UInt8 → Bool
  | _, [] => true
  | 0, c :: l => lower c && okFrom 1 l
  | i + 1, c :: l => wordc c && okFrom (i + 1 + 1) l
theorem okFrom_all : ∀ (l : List UInt8) (i : Nat), okFrom (i + 1) l = l.all wordc
  | [], i => rfl
  | c :: l, i => by simp only [okFrom, List.all_cons, okFrom_all l]
theorem letter_u8 (c : UInt8) (b : Bool) : letterGo ((c.toNat : Nat) : Int) b = bif b then lower c else wordc c := by
  unfold letterGo wordc lower
  have e1 : decide ((97 : Int) ≤ ((c.toNat : Nat) : Int) ∧ ((c.toNat : Nat) : Int) ≤ 122) = decide (97 ≤ c.toNat ∧ c.toNat ≤ 122) := decide_eq_decide.2 (by omega)
  have e2 : decide ((48 : Int) ≤ ((c.toNat : Nat) : Int) ∧ ((c.toNat : Nat) : Int) ≤ 57) = decide (48 ≤ c.toNat ∧ c.toNat ≤ 57) := decide_eq_decide.2 (by omega)
  have e3 : decide (((c.toNat : Nat) : Int) = 95) = decide (c.toNat = 95) := decide_eq_decide.2 (by omega)
  rw [e1, e2, e3]
  cases b
  · simp only [Bool.not_false, Bool.true_and, cond_false]
    rw [Bool.or_comm (decide (c.toNat = 95))]
  · simp
theorem u8_wf (c : UInt8) : wfD (.int .u8) ((c.toNat : Nat) : Int) = true := by
  have := c.toNat_lt
  exact wf_u8.2 ⟨by omega, by omega⟩
theorem ok8_u8 (c : UInt8) (b : Bool) : ok8 ((c.toNat : Nat) : Int) b = true := u8_wf c
theorem lower_wordc {c : UInt8} (h : lower c = true) : wordc c = true := by simp [wordc, h]

theorem w39 (N : Nat) {β : Type} (x0 : Bool → Option β) (x1 : ByteArray → Option β) (s : ByteArray) (hs : s.size ≤ 9223372036854775807) : ∀ (n k : Nat), s.size - k < n →
    W39_2 N x0 x1 n s (k : Int) = bif okFrom k (s.data.toList.drop k) then x1 s else x0 false
  | 0, k, h => by omega
  | n + 1, k, h => by
    unfold W39_2
    rw [size_eq] at h hs ⊢
    by_cases hd : k < s.data.toList.length
    · rw [cond_dec (by omega), cond_t (in_dec hd), Int.toNat_natCast, ok8_u8, cond_true, drop_getD (d := 0) hd]
      have e : letterGo (((s.data.toList.getD k 0).toNat : Nat) : Int) ((k : Int) == (0 : Int)) = bif (k == 0) then lower (s.data.toList.getD k 0) else wordc (s.data.toList.getD k 0) := by
        rw [letter_u8]; congr 1; rw [Bool.eq_iff_iff]; simp only [beq_iff_eq]; omega
      rw [e, wi64 _ (by omega) (by omega), show ((k : Int) + 1) = ((k + 1 : Nat) : Int) by omega, w39 N x0 x1 s (by rw [size_eq]; exact hs) n (k + 1) (by rw [size_eq]; omega)]
      cases k with
      | zero => simp only [okFrom]; cases lower (s.data.toList.getD 0 0) <;> simp
      | succ k => simp only [okFrom]; cases wordc (s.data.toList.getD (k + 1) 0) <;> simp
    · rw [cond_dec' (by omega), List.drop_eq_nil_of_le (by omega)]
      simp [okFrom]
def fuel39 (s : ByteArray) : Nat := s.size + 1
theorem isWordL_eq (l : List UInt8) : isWordL l = (okFrom 0 l && decide (1 ≤ l.length ∧ l.length ≤ 40)) := by
  cases l with
  | nil => simp [isWordL, okFrom]
  | cons c l =>
    simp only [isWordL, okFrom, okFrom_all, List.length_cons]
    rw [Bool.and_comm]
    congr 1
    exact decide_eq_decide.2 (by omega)
theorem plain39 (s : ByteArray) (h : okS s = true) : F39 (fuel39 s) s = some (isWord s, ()) := by
  have hs := okS_iff.1 h
  have := maxLen_le
  unfold F39 isWord
  have hw := w39 (fuel39 s) (fun t2 => some (t2, ())) (fun t0 => bif decide ((((ByteArray.size t0) : Nat) : Int) ≥ (1 : Int)) then some (decide ((((ByteArray.size t0) : Nat) : Int) ≤ (40 : Int)), ()) else some (false, ())) s (by omega) (s.size + 1) 0 (by omega)
  rw [show ((0 : Nat) : Int) = 0 from rfl] at hw
  unfold fuel39 at hw ⊢
  rw [hw, List.drop_zero, isWordL_eq, ← size_eq]
  cases okFrom 0 s.data.toList with
  | false => rfl
  | true =>
    simp only [cond_true, Bool.true_and]
    by_cases h1 : ((s.size : Nat) : Int) ≥ 1
    · rw [cond_dec h1]
      congr 2
      exact decide_eq_decide.2 (by omega)
    · rw [cond_dec' h1]
      congr 2
      exact (decide_eq_false (by omega)).symm

theorem w40 (N : Nat) {β : Type} (x0 : Bool → Option β) (x1 : Unit → Option β) (s : ByteArray) (hs : s.size ≤ 9223372036854775807) : ∀ (n k : Nat), s.size - k < n →
    W40_4 N x0 x1 n s (s.size : Int) (k : Int) = bif (s.data.toList.drop k).all wordc then x1 () else x0 false
  | 0, k, h => by omega
  | n + 1, k, h => by
    have ih := w40 N x0 x1 s hs n (k + 1)
    unfold W40_4
    rw [size_eq] at h hs ih ⊢
    by_cases hd : k < s.data.toList.length
    · rw [cond_dec (by omega), cond_t (in_dec hd), Int.toNat_natCast, drop_getD (d := 0) hd, wi64 _ (by omega) (by omega), show ((k : Int) + 1) = ((k + 1 : Nat) : Int) by omega, ih (by omega), List.all_cons]
      generalize s.data.toList.getD k 0 = c
      have e : wordc c = (decide (((c.toNat : Nat) : Int) ≥ 97) && decide (((c.toNat : Nat) : Int) ≤ 122) || (decide (((c.toNat : Nat) : Int) ≥ 48) && decide (((c.toNat : Nat) : Int) ≤ 57) || ((c.toNat : Nat) : Int) == 95)) := by
        unfold wordc lower
        rw [Bool.eq_iff_iff]
        simp only [Bool.or_eq_true, Bool.and_eq_true, decide_eq_true_eq, beq_iff_eq]
        omega
      rw [e]
      generalize (List.drop (k + 1) s.data.toList).all wordc = r
      cases decide (((c.toNat : Nat) : Int) ≥ 97) <;> cases decide (((c.toNat : Nat) : Int) ≤ 122) <;> cases decide (((c.toNat : Nat) : Int) ≥ 48) <;> cases decide (((c.toNat : Nat) : Int) ≤ 57) <;> cases (((c.toNat : Nat) : Int) == 95) <;> rfl
    · rw [cond_dec' (by omega), List.drop_eq_nil_of_le (by omega)]; rfl
def fuel40 (s : ByteArray) : Nat := s.size + 1
theorem plain40 (s : ByteArray) (h : okS s = true) : F40 (fuel40 s) s = some (isWord s, ()) := by
  have hs := okS_iff.1 h
  have := maxLen_le
  unfold F40 isWord
  have hw := fun x0 x1 => w40 (β := Bool × Unit) (fuel40 s) x0 x1 s (by omega) (s.size + 1) 0 (by omega)
  rw [show ((0 : Nat) : Int) = 0 from rfl] at hw
  unfold fuel40 at hw ⊢
  rw [hw, eqs_nil, List.drop_zero, isWordL_eq]
  cases hl : s.data.toList with
  | nil =>
    have : emp s = true := by unfold emp; rw [size_eq, hl]; rfl
    rw [this]; rfl
  | cons c l =>
    have hz : s.size = l.length + 1 := by rw [size_eq, hl]; rfl
    have : emp s = false := by unfold emp; simp [hz]
    rw [this, cond_false]
    by_cases h40 : ((s.size : Nat) : Int) > 40
    · rw [cond_dec h40]
      congr 2
      rw [List.length_cons, Bool.and_comm]
      have : decide (1 ≤ l.length + 1 ∧ l.length + 1 ≤ 40) = false := decide_eq_false (by omega)
      rw [this]; rfl
    · have hin : (decide ((0 : Int) ≤ 0) && decide ((0 : Int) < ((s.size : Nat) : Int))) = true := by simp; omega
      rw [cond_dec' h40, cond_t hin, cond_t hin]
      have e : okFrom 0 (c :: l) = (lower c && l.all wordc) := by simp only [okFrom, okFrom_all]
      have e2 : decide (1 ≤ (c :: l).length ∧ (c :: l).length ≤ 40) = true := decide_eq_true (by rw [List.length_cons]; omega)
      rw [e, e2, Bool.and_true]
      simp only [Int.toNat_zero, List.getD_cons_zero, List.all_cons]
      by_cases q1 : ((c.toNat : Nat) : Int) < 97
      · rw [cond_dec q1]
        have : lower c = false := decide_eq_false (by omega)
        rw [this]; rfl
      · rw [cond_dec' q1]
        by_cases q2 : ((c.toNat : Nat) : Int) > 122
        · rw [cond_dec q2]
          have : lower c = false := decide_eq_false (by omega)
          rw [this]; rfl
        · rw [cond_dec' q2]
          have : lower c = true := decide_eq_true (by omega)
          rw [this, lower_wordc this]
          cases l.all wordc <;> rfl

/-! Values -/
def fuel31 (v : Val) : Nat := 0
theorem plain31 (v : Val) (h : okV v = true) : F31 0 v = some (right v, ()) := by
  obtain ⟨h1, h2, h3⟩ := okV_iff.1 h
  obtain ⟨k, n, s, ⟨⟩⟩ := v
  simp only at h1 h2 h3
  unfold F31 right
  simp only [eqs_nil, eq_empty, h3, cond_true, Bool.and_true]
  rcases kinds k with rfl | rfl | rfl | rfl | ⟨a, b, c, d⟩
  · simp
  · simp
  · cases h : (n == 0) <;> simp
  · cases h : (n == 1) <;> cases h' : (n == 0) <;> cases emp s <;> simp
  · rw [beq_false_of_ne a, beq_false_of_ne b, beq_false_of_ne c, beq_false_of_ne d]; rfl
def fuel29 (v : Val) : Nat := 0
theorem plain29 (v : Val) (h : okV v = true) : F29 0 v = some (right v, ()) := by
  obtain ⟨h1, h2, h3⟩ := okV_iff.1 h
  obtain ⟨k, n, s, ⟨⟩⟩ := v
  simp only at h1 h2 h3
  unfold F29 right
  simp only [eqs_nil, h3, cond_true]
  rcases kinds k with rfl | rfl | rfl | rfl | ⟨a, b, c, d⟩
  · cases h : (n == 0) <;> simp
  · simp
  · cases h : (n == 0) <;> simp
  · cases h : (n == 1) <;> cases h' : (n == 0) <;> cases emp s <;> simp
  · rw [beq_false_of_ne a, beq_false_of_ne b, beq_false_of_ne c, beq_false_of_ne d]; rfl
def fuel16 (v : Val) : Nat := 0
theorem plain16 (v : Val) (h : okV v = true) : F16 0 v = some (name v, ()) := by
  obtain ⟨k, n, s, ⟨⟩⟩ := v
  unfold F16 name named
  simp only [h, cond_true]
  cases right (k, n, s, ()) <;> cases (k == 1) <;> simp
def fuel21 (d : Int) (v : Val) : Nat := 0
theorem plain21 (d : Int) (v : Val) (h : okT d v = true) : F21 0 d v = some (takes d v, ()) := by
  have h' : okV v = true := h
  obtain ⟨k, n, s, ⟨⟩⟩ := v
  unfold F21 takes named
  simp only [h', cond_true]
  cases right (k, n, s, ())
  · simp
  · rcases doms d with rfl | rfl | rfl | rfl | rfl | rfl | rfl | a
    all_goals first
      | (simp; done)
      | (cases (k == 1) <;> simp; done)
      | skip
    have q : ∀ j : Int, 0 ≤ j → j ≤ 6 → (d == j) = false := fun j _ _ => by simp; omega
    simp [q]; omega
def fuel38 (d : Int) (v : Val) : Nat := 0
theorem plain38 (d : Int) (v : Val) (h : okT d v = true) : F38 0 d v = some (takes d v, ()) := by
  have h' : okV v = true := h
  obtain ⟨k, n, s, ⟨⟩⟩ := v
  unfold F38 takes name named
  simp only [h', cond_true]
  rcases doms d with rfl | rfl | rfl | rfl | rfl | rfl | rfl | a
  all_goals first
    | (cases right (k, n, s, ()) <;> cases (k == 1) <;> simp; done)
    | skip
  have q : ∀ j : Int, 0 ≤ j → j ≤ 6 → (d == j) = false := fun j _ _ => by simp; omega
  have q1 : ¬ (0 ≤ d ∧ d ≤ 4) := by omega
  have q5 : (d == 5) = false := beq_false_of_ne (by omega)
  have q6 : (d == 6) = false := beq_false_of_ne (by omega)
  rw [q5, q6, decide_eq_false q1]
  by_cases h0 : d ≥ 0
  · rw [cond_dec h0, cond_dec' (by omega)]; simp
  · rw [cond_dec' h0]; simp

/-! Signs -/
def fuel42 (c : Int) : Nat := 0
theorem plain42 (c : Int) (_ : true = true) : F42 0 c = some (domain c, ()) := by
  unfold F42 domain
  cases (c == 118) <;> cases (c == 102) <;> cases (c == 111) <;> rfl
def fuel49 (c : Int) : Nat := 0
theorem plain49 (m : Int) (_ : true = true) : F49 0 m = some (modelName m, ()) := by
  unfold F49 modelName
  split <;> first | rfl | skip
  rw [beq_false_of_ne ‹¬m = 1›, beq_false_of_ne ‹¬m = 2›, beq_false_of_ne ‹¬m = 3›, beq_false_of_ne ‹¬m = 4›, beq_false_of_ne ‹¬m = 5›, beq_false_of_ne ‹¬m = 6›, beq_false_of_ne ‹¬m = 7›, beq_false_of_ne ‹¬m = 8›, beq_false_of_ne ‹¬m = 9›, beq_false_of_ne ‹¬m = 10›]; rfl
def fuel50 (c : Int) : Nat := 0
theorem plain50 (m : Int) (_ : true = true) : F50 0 m = some (opName m, ()) := by
  unfold F50 opName
  split <;> first | rfl | skip
  rw [beq_false_of_ne ‹¬m = 1›, beq_false_of_ne ‹¬m = 2›, beq_false_of_ne ‹¬m = 3›, beq_false_of_ne ‹¬m = 4›, beq_false_of_ne ‹¬m = 5›, beq_false_of_ne ‹¬m = 6›, beq_false_of_ne ‹¬m = 7›, beq_false_of_ne ‹¬m = 8›, beq_false_of_ne ‹¬m = 9›, beq_false_of_ne ‹¬m = 10›, beq_false_of_ne ‹¬m = 11›, beq_false_of_ne ‹¬m = 12›, beq_false_of_ne ‹¬m = 13›]; rfl

theorem eta (v : Val) : (v.1, (v.2.1, (v.2.2.1, ()))) = v := rfl
def fuel53 (a b : Int) (c : ByteArray) (d : Int) (e : Bool) (m o : Int) : Nat := 0
theorem plain53 (a b : Int) (c : ByteArray) (d : Int) (e : Bool) (m o : Int) (_ : true = true) : F53 0 a b c d e m o = some (hitA a b c d e m o, ((m, ()), ((o, ()), ()))) := by
  unfold F53 hitA
  cases (a == m) <;> rfl

theorem widx (N : Nat) {β : Type} (x0 : Int → Int → Int → Option β) (x1 : Int → Int → Option β) (l : List Row) (m o : Int) (hs : l.length ≤ 1000) : ∀ (n k : Nat), l.length - k < n →
    W52_2 N x0 x1 n l (l.length : Int) (k : Int) m o = match (l.drop k).findIdx? (hit m o) with | some i => x0 ((k + i : Nat) : Int) m o | none => x1 m o
  | 0, k, h => by omega
  | n + 1, k, h => by
    unfold W52_2
    by_cases hd : k < l.length
    · rw [cond_dec (by omega), cond_t (in_dec hd), Int.toNat_natCast, drop_getD (d := ((0 : Int), ((0 : Int), (ByteArray.empty, ((0 : Int), (false, ())))))) hd, wi64 _ (by omega) (by omega), show ((k : Int) + 1) = ((k + 1 : Nat) : Int) by omega,
        widx N x0 x1 l m o hs n (k + 1) (by omega), List.findIdx?_cons]
      generalize List.getD l k ((0 : Int), ((0 : Int), (ByteArray.empty, ((0 : Int), (false, ()))))) = r
      have e : hitA r.1 r.2.1 r.2.2.1 r.2.2.2.1 r.2.2.2.2.1 m o = hit m o r := rfl
      rw [e]
      cases hit m o r with
      | true => rfl
      | false =>
        simp only [cond_false, Bool.false_eq_true, if_false]
        cases (l.drop (k + 1)).findIdx? (hit m o) with
        | none => rfl
        | some i =>
          show x0 ((k + 1 + i : Nat) : Int) m o = x0 ((k + (i + 1) : Nat) : Int) m o
          congr 2; omega
    · rw [cond_dec' (by omega), List.drop_eq_nil_of_le (by omega)]; rfl
def fuel52 (l : List Row) (m o : Int) : Nat := l.length + 1
theorem plain52 (l : List Row) (m o : Int) (h : okX l m o = true) : F52 (fuel52 l m o) l m o = some (idxR l m o, ((m, ()), ((o, ()), ()))) := by
  have hs : l.length ≤ 1000 := of_decide_eq_true h
  unfold F52 fuel52 idxR
  have hw := fun x0 x1 => widx (β := HS.den X52.hout) (l.length + 1) x0 x1 l m o hs (l.length + 1) 0 (by omega)
  rw [show ((0 : Nat) : Int) = 0 from rfl] at hw
  rw [hw, List.drop_zero]
  cases l.findIdx? (hit m o) with
  | none => rfl
  | some i => show some (((0 + i : Nat) : Int), _) = _; rw [Nat.zero_add]

theorem find_idx {α : Type} {p : α → Bool} (d : α) : ∀ {l : List α} {i : Nat}, l.findIdx? p = some i → i < l.length ∧ l.find? p = some (l.getD i d)
  | [], i, h => by simp at h
  | x :: l, i, h => by
    rw [List.findIdx?_cons] at h
    rw [List.find?_cons]
    cases hp : p x with
    | true =>
      rw [hp] at h; simp only [if_true, Option.some.injEq] at h; subst h
      exact ⟨by simp, rfl⟩
    | false =>
      rw [hp] at h; simp only [Bool.false_eq_true, if_false, Option.map_eq_some_iff] at h
      obtain ⟨j, hj, rfl⟩ := h
      obtain ⟨h1, h2⟩ := find_idx d hj
      exact ⟨by rw [List.length_cons]; omega, by rw [h2]; rfl⟩
theorem find_none {α : Type} {p : α → Bool} : ∀ {l : List α}, l.findIdx? p = none → l.find? p = none
  | [], _ => rfl
  | x :: l, h => by
    rw [List.findIdx?_cons] at h
    rw [List.find?_cons]
    cases hp : p x with
    | true => rw [hp] at h; simp at h
    | false =>
      rw [hp] at h; simp only [Bool.false_eq_true, if_false, Option.map_eq_none_iff] at h
      exact find_none h
theorem f41 (N : Nat) (m o : Int) : F41 N m o = bif decide (idxR tbl m o < 0) then some (((0 : Int), ((0 : Int), (ByteArray.empty, ((0 : Int), (false, ()))))), (false, ())) else
    bif (decide (0 ≤ idxR tbl m o) && decide (idxR tbl m o < ((tbl.length : Nat) : Int))) then some (tbl.getD (Int.toNat (idxR tbl m o)) ((0 : Int), ((0 : Int), (ByteArray.empty, ((0 : Int), (false, ()))))), (true, ())) else none := rfl
def fuel41 (m o : Int) : Nat := 0
theorem plain41 (m o : Int) (_ : true = true) : F41 0 m o = some (findGo m o, ()).1 := by
  rw [f41]
  unfold findGo sfind idxR
  cases h : tbl.findIdx? (hit m o) with
  | none => rw [find_none h]; rfl
  | some i =>
    obtain ⟨h1, h2⟩ := find_idx ((0 : Int), ((0 : Int), (ByteArray.empty, ((0 : Int), (false, ()))))) h
    rw [h2]
    simp only
    rw [cond_dec' (by omega), cond_t (in_dec h1), Int.toNat_natCast]

theorem tbl_in {m o : Int} {r : Row} (h : sfind m o = some r) : r ∈ tbl := List.mem_of_find?_eq_some h
theorem tbl_size : ∀ r ∈ tbl, r.2.2.1.size ≤ 2 := by
  have : (tbl.all fun r => decide (r.2.2.1.size ≤ 2)) = true := by decide +kernel
  simpa [List.all_eq_true] using this
theorem tbl_out : ∀ r ∈ tbl, r.2.2.2.1 = -1 ∨ r.2.2.2.1 = 2 ∨ r.2.2.2.1 = 4 ∨ r.2.2.2.1 = 5 ∨ r.2.2.2.1 = 6 ∨ r.2.2.2.1 = 99 := by
  have : (tbl.all fun r => decide (r.2.2.2.1 = -1 ∨ r.2.2.2.1 = 2 ∨ r.2.2.2.1 = 4 ∨ r.2.2.2.1 = 5 ∨ r.2.2.2.1 = 6 ∨ r.2.2.2.1 = 99)) = true := by decide +kernel
  simpa [List.all_eq_true] using this

theorem w32 (N : Nat) {β : Type} (x1 : List Int → Option β) (a b : Int) (s : ByteArray) (c : Int) (d : Bool) (hs : s.size ≤ 1000) : ∀ (n k : Nat) (acc : List Int), s.size - k < n → acc.length + s.size ≤ 1000 + k → k ≤ s.size →
    W32_6 N x1 n a b s c d acc (s.size : Int) (k : Int) = x1 (acc ++ (s.data.toList.drop k).map dom8)
  | 0, k, acc, h, _, _ => by omega
  | n + 1, k, acc, h, hb, hk => by
    have ih := w32 N x1 a b s c d hs n (k + 1)
    unfold W32_6
    rw [size_eq] at h hb hk ih hs ⊢
    by_cases hd : k < s.data.toList.length
    · rw [cond_dec (by omega), cond_t (in_dec hd), Int.toNat_natCast, cond_dec (by simp only [List.length_cons, List.length_nil]; omega), wi64 _ (by omega) (by omega), show ((k : Int) + 1) = ((k + 1 : Nat) : Int) by omega,
        ih _ (by omega) (by simp only [List.length_append, List.length_cons, List.length_nil]; omega) (by omega), drop_getD (d := 0) hd, List.map_cons, List.append_assoc]
      rfl
    · rw [cond_dec' (by omega), List.drop_eq_nil_of_le (by omega)]; simp
def fuel32 (m o : Int) : Nat := 10
theorem plain32 (m o : Int) (_ : true = true) : F32 (fuel32 m o) m o = some (argsGo m o) := by
  unfold F32 argsGo sin findGo
  cases h : sfind m o with
  | none => rfl
  | some r =>
    have hz := tbl_size r (tbl_in h)
    have hw := w32 (fuel32 m o) (fun t8 => some (t8, (true, ()))) r.1 r.2.1 r.2.2.1 r.2.2.2.1 r.2.2.2.2.1 (by omega) 10 0 [] (by omega) (by simp; omega) (by omega)
    rw [show ((0 : Nat) : Int) = 0 from rfl] at hw
    simp only [Bool.not_true, cond_false]
    exact hw

theorem tm2 (k : Nat) : (Int.tmod (k : Int) 2 == 1) = decide (k % 2 = 1) := by
  rw [Int.tmod_eq_emod_of_nonneg (by omega), Bool.eq_iff_iff]
  simp only [beq_iff_eq, decide_eq_true_eq]; omega
theorem vnone (v : Val) : ((v.1 == (0 : Int)) && ((v.2.1 == (0 : Int)) && ((v.2.2.1 == ByteArray.empty) && true))) = (v == none') := by
  obtain ⟨k, n, s, ⟨⟩⟩ := v
  rfl
theorem d42 (k : Nat) : IntKind.wrap .i64 ((4 : Int) - IntKind.wrap .i64 (Int.tmod (k : Int) 2 * 2)) = dpair k := by
  rw [Int.tmod_eq_emod_of_nonneg (by omega), wi64 ((k : Int) % 2 * 2) (by omega) (by omega), wi64 _ (by omega) (by omega)]
  unfold dpair
  split <;> omega
theorem pairs_len : ∀ {l : List Val} {k : Nat} {r : List Int}, pairs k l = some r → r.length = l.length
  | [], k, r, h => by cases h; rfl
  | v :: l, k, r, h => by
    simp only [pairs] at h
    cases ht : takes (dpair k) v with
    | false => rw [ht] at h; cases h
    | true =>
      rw [ht, cond_true, Option.map_eq_some_iff] at h
      obtain ⟨t, h1, rfl⟩ := h
      simp [pairs_len h1]
theorem takesAll_len : ∀ {ds : List Int} {vs : List Val}, takesAll ds vs = true → ds.length = vs.length
  | [], [], _ => rfl
  | d :: ds, v :: vs, h => by
    simp only [takesAll, Bool.and_eq_true] at h
    simp [takesAll_len h.2]
  | [], _ :: _, h => by cases h
  | _ :: _, [], h => by cases h
theorem w22 (N : Nat) {β : Type} (x0 : Bool → Option β) (x1 : Unit → Option β) (vs : List Val) (hv : okVs vs = true) (ds : List Int) (hl : ds.length = vs.length) (hs : vs.length ≤ 1000) : ∀ (n k : Nat), ds.length - k < n →
    W22_5 N x0 x1 n vs ds (ds.length : Int) (k : Int) = bif takesAll (ds.drop k) (vs.drop k) then x1 () else x0 false
  | 0, k, h => by omega
  | n + 1, k, h => by
    unfold W22_5
    by_cases hd : k < ds.length
    · have hv' := (okVs_iff.1 hv).2 _ (getD_mem (d := ((0 : Int), ((0 : Int), (ByteArray.empty, ())))) (show k < vs.length by omega))
      rw [cond_dec (by omega), cond_t (in_dec hd), cond_t (in_dec (by omega)), Int.toNat_natCast, drop_getD (d := 0) hd, drop_getD (l := vs) (d := ((0 : Int), ((0 : Int), (ByteArray.empty, ())))) (by omega), wi64 _ (by omega) (by omega),
        show ((k : Int) + 1) = ((k + 1 : Nat) : Int) by omega, w22 N x0 x1 vs hv ds hl hs n (k + 1) (by omega)]
      try simp only [eta]
      generalize List.getD vs k ((0 : Int), ((0 : Int), (ByteArray.empty, ()))) = v at hv'
      have hok : ∀ d, okT d v = true := fun d => hv'
      simp only [hok, cond_true, takesAll]
      cases takes (ds.getD k 0) v <;> simp
    · rw [cond_dec' (by omega), List.drop_eq_nil_of_le (by omega), List.drop_eq_nil_of_le (by omega)]; rfl
def fuel22 (m o : Int) (l : List Val) : Nat := l.length + 1
theorem plain22 (m o : Int) (l : List Val) (h : okF m o l = true) : F22 (fuel22 m o l) m o l = some (fits m o l, ()) := by
  have h' : okL l = true := h
  simp only [okL, Bool.and_eq_true, decide_eq_true_eq] at h'
  unfold F22 fits argsGo
  cases hf : sin m o with
  | none => rfl
  | some ds =>
    simp only [Bool.not_true, cond_false]
    by_cases hl : ds.length = l.length
    · have e1 : (((ds.length : Nat) : Int) != ((l.length : Nat) : Int)) = false := by rw [hl]; exact bne_self_eq_false _
      have hw := fun x0 x1 => w22 (β := Bool × Unit) (fuel22 m o l) x0 x1 l h'.1 ds hl h'.2 (l.length + 1) 0 (by omega)
      rw [show ((0 : Nat) : Int) = 0 from rfl, List.drop_zero, List.drop_zero] at hw
      rw [e1, cond_false]
      refine Eq.trans (hw _ _) ?_
      cases takesAll ds l <;> rfl
    · have e1 : (((ds.length : Nat) : Int) != ((l.length : Nat) : Int)) = true := bne_iff_ne.2 (by omega)
      rw [e1, cond_true]
      cases ht : takesAll ds l with
      | false => rfl
      | true => exact absurd (takesAll_len ht) hl
theorem w28 (N : Nat) {β : Type} (x0 : Bool → Option β) (x1 : Unit → Option β) (vs : List Val) (hv : okVs vs = true) (ds : List Int) (hl : ds.length = vs.length) (hs : vs.length ≤ 1000) (q : Int) (r s : Bool) : ∀ (n k : Nat), ds.length - k < n →
    W28_5 N x0 x1 n vs ds q r s (k : Int) = bif takesAll (ds.drop k) (vs.drop k) then x1 () else x0 false
  | 0, k, h => by omega
  | n + 1, k, h => by
    unfold W28_5
    by_cases hd : k < ds.length
    · have hv' := (okVs_iff.1 hv).2 _ (getD_mem (d := ((0 : Int), ((0 : Int), (ByteArray.empty, ())))) (show k < vs.length by omega))
      rw [cond_dec (by omega), cond_t (in_dec hd), cond_t (in_dec (by omega)), Int.toNat_natCast, drop_getD (d := 0) hd, drop_getD (l := vs) (d := ((0 : Int), ((0 : Int), (ByteArray.empty, ())))) (by omega), wi64 _ (by omega) (by omega),
        show ((k : Int) + 1) = ((k + 1 : Nat) : Int) by omega, w28 N x0 x1 vs hv ds hl hs q r s n (k + 1) (by omega)]
      try simp only [eta]
      generalize List.getD vs k ((0 : Int), ((0 : Int), (ByteArray.empty, ()))) = v at hv'
      have hok : ∀ d, okT d v = true := fun d => hv'
      simp only [hok, cond_true, takesAll]
      cases takes (ds.getD k 0) v <;> simp
    · rw [cond_dec' (by omega), List.drop_eq_nil_of_le (by omega), List.drop_eq_nil_of_le (by omega)]; rfl
def fuel28 (m o : Int) (l : List Val) : Nat := l.length + 1
theorem plain28 (m o : Int) (l : List Val) (h : okF m o l = true) : F28 (fuel28 m o l) m o l = some (fits m o l, ()) := by
  have h' : okL l = true := h
  simp only [okL, Bool.and_eq_true, decide_eq_true_eq] at h'
  unfold F28 fits sin signRef
  cases hf : sfind m o with
  | none => rfl
  | some r =>
    simp only [Bool.not_true, cond_false, Option.map_some]
    generalize r.2.2.1.data.toList.map dom8 = ds
    by_cases hl : ds.length = l.length
    · have e1 : (((l.length : Nat) : Int) != ((ds.length : Nat) : Int)) = false := by rw [hl]; exact bne_self_eq_false _
      have hw := fun x0 x1 => w28 (β := Bool × Unit) (fuel28 m o l) x0 x1 l h'.1 ds hl h'.2 r.2.2.2.1 r.2.2.2.2.1 true (l.length + 1) 0 (by omega)
      rw [show ((0 : Nat) : Int) = 0 from rfl, List.drop_zero, List.drop_zero] at hw
      rw [e1, cond_false]
      refine Eq.trans (hw _ _) ?_
      cases takesAll ds l <;> rfl
    · have e1 : (((l.length : Nat) : Int) != ((ds.length : Nat) : Int)) = true := bne_iff_ne.2 (by omega)
      rw [e1, cond_true]
      cases ht : takesAll ds l with
      | false => rfl
      | true => exact absurd (takesAll_len ht) hl

/-! The document's table -/
def q' (m o : Int) (l : List UInt8) : Bool := (modelName m).data.toList ++ [32] ++ (opName o).data.toList == l
theorem q12_eq : q37 = q' := by
  funext m o l
  unfold q37 q'
  rw [eqs, app_data, app_data]; rfl
theorem modelName_out {m : Int} (h : m < 1 ∨ 10 < m) : modelName m = strL [] := by
  unfold modelName
  split <;> first | rfl | omega
theorem opName_out {o : Int} (h : o < 1 ∨ 13 < o) : opName o = strL [] := by
  unfold opName
  split <;> first | rfl | omega
theorem ref_none {m o : Int} (h : (m < 1 ∨ 10 < m) ∨ (o < 1 ∨ 13 < o)) : sfind m o = none := by
  unfold sfind
  rw [List.find?_eq_none]
  intro r hr
  have hb : ∀ r ∈ tbl, 1 ≤ r.1 ∧ r.1 ≤ 10 ∧ 1 ≤ r.2.1 ∧ r.2.1 ≤ 13 := by
    have : (tbl.all fun r => decide (1 ≤ r.1 ∧ r.1 ≤ 10 ∧ 1 ≤ r.2.1 ∧ r.2.1 ≤ 13)) = true := by decide +kernel
    simpa [List.all_eq_true] using this
  have := hb r hr
  unfold hit
  simp only [Bool.and_eq_true, beq_iff_eq]
  omega

theorem ref_in : ∀ m ∈ [(0 : Int), 1, 2, 3, 4, 5, 6, 7, 8, 9, 10], ∀ o ∈ [(0 : Int), 1, 2, 3, 4, 5, 6, 7, 8, 9, 10, 11, 12, 13], F37q q' m o = some (signRef m o, ()) := by
  intro m hm
  simp only [List.mem_cons, List.not_mem_nil, or_false] at hm
  rcases hm with rfl | rfl | rfl | rfl | rfl | rfl | rfl | rfl | rfl | rfl | rfl
  all_goals
    intro o ho
    simp only [List.mem_cons, List.not_mem_nil, or_false] at ho
    rcases ho with rfl | rfl | rfl | rfl | rfl | rfl | rfl | rfl | rfl | rfl | rfl | rfl | rfl | rfl <;> kernel_rfl

theorem ref_m {m : Int} (h : m < 1 ∨ 10 < m) (o : Int) : F37q q' m o = F37q q' 0 o := by
  have e1 := modelName_out h
  have e0 : modelName 0 = strL [] := rfl
  unfold F37q q'
  rw [e1, e0]
theorem ref_o {o : Int} (h : o < 1 ∨ 13 < o) (m : Int) : F37q q' m o = F37q q' m 0 := by
  have e1 := opName_out h
  have e0 : opName 0 = strL [] := rfl
  unfold F37q q'
  rw [e1, e0]
def fuel37 (m o : Int) : Nat := 0
theorem plain37 (m o : Int) (_ : true = true) : F37 0 m o = some (signRef m o, ()) := by
  unfold F37
  rw [q12_eq]
  have hz : ∀ {m o : Int}, (m < 1 ∨ 10 < m) ∨ (o < 1 ∨ 13 < o) → signRef m o = signRef 0 0 := fun h => by
    unfold signRef; rw [ref_none h, ref_none (m := 0) (o := 0) (.inl (.inl (by decide)))]
  by_cases hm : m < 1 ∨ 10 < m
  · rw [ref_m hm, hz (.inl hm)]
    by_cases ho : o < 1 ∨ 13 < o
    · rw [ref_o ho]; exact ref_in 0 (by simp) 0 (by simp)
    · rw [ref_in 0 (by simp) o (by simp; omega), hz (.inl (.inl (by decide)))]
  · by_cases ho : o < 1 ∨ 13 < o
    · rw [ref_o ho, ref_in m (by simp; omega) 0 (by simp), hz (.inr (.inl (by decide))), hz (.inr ho)]
    · exact ref_in m (by simp; omega) o (by simp; omega)

theorem dom8_ok (c : UInt8) : okI (dom8 c) = true := by
  rw [okI_iff]; unfold dom8 domain
  cases ((c.toNat : Int) == 118) <;> cases ((c.toNat : Int) == 102) <;> cases ((c.toNat : Int) == 111) <;> simp
theorem okIs_short {l : List Int} (h : l.length ≤ 1000) (h2 : ∀ v ∈ l, okI v = true) : okIs l = true := by
  rw [okIs_iff]
  have : (1000 : Nat) ≤ maxLen := by decide
  exact ⟨by omega, h2⟩
theorem signRef_ok (m o : Int) : okIs (signRef m o).1 = true := by
  unfold signRef
  cases h : sfind m o with
  | none => rfl
  | some r =>
    have hz := tbl_size r (tbl_in h)
    rw [size_eq] at hz
    refine okIs_short (by simp only [List.length_map]; omega) (fun v hv => ?_)
    obtain ⟨c, _, rfl⟩ := List.mem_map.1 hv
    exact dom8_ok c
theorem pairs_ok : ∀ {l : List Val} {k : Nat} {r : List Int}, pairs k l = some r → ∀ v ∈ r, okI v = true
  | [], k, r, h, v, hv => by cases h; cases hv
  | x :: l, k, r, h, v, hv => by
    simp only [pairs] at h
    cases ht : takes (dpair k) x with
    | false => rw [ht] at h; cases h
    | true =>
      rw [ht, cond_true, Option.map_eq_some_iff] at h
      obtain ⟨t, h1, rfl⟩ := h
      rcases List.mem_cons.1 hv with rfl | hv
      · unfold dpair; split <;> rfl
      · exact pairs_ok h1 v hv
theorem signOuts_ok (m o : Int) (l : List Val) (hl : l.length ≤ 1000) : okIs (signOuts m o l).1 = true := by
  unfold signOuts
  cases h : sfind m o with
  | none => rfl
  | some r =>
    simp only
    cases decide (r.2.2.2.1 < 0) with
    | true => rfl
    | false =>
      simp only [cond_false]
      cases (r.2.2.2.1 == 99) with
      | true =>
        simp only [cond_true]
        cases decide (l.length % 2 = 0) with
        | false => rfl
        | true =>
          simp only [cond_true]
          cases hp : pairs 0 l with
          | none => rfl
          | some t => exact okIs_short (by rw [pairs_len hp]; exact hl) (pairs_ok hp)
      | false =>
        simp only [cond_false]
        split
        · rename_i v
          cases (takes r.2.2.2.1 v || (r.2.2.2.2.1 && v == none')) with
          | false => rfl
          | true =>
            refine okIs_short (by simp) (fun x hx => ?_)
            simp only [cond_true, List.mem_cons, List.not_mem_nil, or_false] at hx
            subst hx
            rw [okI_iff]
            have := tbl_out r (tbl_in h)
            omega
        · rfl

/-! The statements -/

end Go.L17
