/- Own text of this session: a part of the proof; no condition of its own. -/
import Derived.Test.YtjhkmflnelbbmaaDoorWalk
set_option linter.unusedVariables false
set_option linter.unusedSimpArgs false
set_option maxRecDepth 100000
namespace Go.L14
open Go Go.Abs Go.Inc
theorem kinds (k : Int) : k = 0 ∨ k = 1 ∨ k = 2 ∨ k = 3 ∨ (k ≠ 0 ∧ k ≠ 1 ∧ k ≠ 2 ∧ k ≠ 3) := by omega
theorem doms (k : Int) : k = 0 ∨ k = 1 ∨ k = 2 ∨ k = 3 ∨ k = 4 ∨ k = 5 ∨ k = 6 ∨ (k < 0 ∨ 6 < k) := by omega

/-! Words -/
theorem w57 (N : Nat) {β : Type} (x0 : Bool → Option β) (x1 : Int → Bool → Option β) (c : Int) (b : Bool) : ∀ (n : Nat) (t : Int), 97 ≤ t → t ≤ 123 → 123 - t < n →
    W57_2 N x0 x1 n c b t = bif decide (t ≤ c ∧ c ≤ 122) then x0 true else x1 c b
  | 0, t, _, _, h => by omega
  | n + 1, t, h0, h1, h => by
    unfold W57_2
    by_cases hd : t ≤ 122
    · rw [cond_dec hd]
      by_cases hc : c = t
      · subst hc
        rw [beq_self_eq_true, cond_true, cond_dec ⟨Int.le_refl _, hd⟩]
      · rw [beq_false_of_ne hc, cond_false, wu8 _ (by omega) (by omega), w57 N x0 x1 c b n (t + 1) (by omega) (by omega) (by omega)]
        congr 1
        exact decide_eq_decide.2 (by omega)
    · rw [cond_dec' hd, cond_dec' (by omega)]
def fuel57 (c : Int) (b : Bool) : Nat := 30
theorem plain57 (c : Int) (b : Bool) (h : ok8 c b = true) : F57 (fuel57 c b) c b = some (letterGo c b, ()) := by
  unfold F57 letterGo
  rw [w57 _ _ _ c b (fuel57 c b) 97 (by decide) (by decide) (by show (26 : Int) < ((30 : Nat) : Int); decide)]
  cases hd : decide (97 ≤ c ∧ c ≤ 122) with
  | true => rfl
  | false =>
    cases b with
    | true => rfl
    | false =>
      simp only [cond_false, Bool.not_false, cond_true, Bool.false_or, Bool.true_and]
      by_cases h1 : c = 95
      · subst h1; rfl
      · rw [beq_false_of_ne h1, cond_false]
        by_cases h2 : c ≥ 48
        · rw [cond_dec h2, decide_eq_false h1, Bool.false_or]; congr 2; exact decide_eq_decide.2 (by omega)
        · rw [cond_dec' h2, decide_eq_false h1, Bool.false_or]; congr 2; exact (decide_eq_false (by omega)).symm

/-- Letters from a place on. -/
def okFrom : Nat → List UInt8 → Bool
  | _, [] => true
  | 0, c :: l => lower c && okFrom 1 l
  | i + 1, c :: l => wordc c && okFrom (i + 1 + 1) l
theorem okFrom_all : ∀ (l : List UInt8) (i : Nat), okFrom (i + 1) l = l.all wordc
  | [], i => rfl
  | c :: l, i => by simp only [okFrom, List.all_cons, okFrom_all l]
theorem letter_u8 (c : UInt8) (b : Bool) : letterGo ((c.toNat : Nat) : Int) b = bif b then lower c else wordc c := by
  unfold letterGo wordc lower
  have e1 : decide ((97 : Int) ≤ ((c.toNat : Nat) : Int) ∧ ((c.toNat : Nat) : Int) ≤ 122) = decide (97 ≤ c.toNat ∧ c.toNat ≤ 122) := decide_eq_decide.2 (by omega)
  have e2 : decide ((48 : Int) ≤ ((c.toNat : Nat) : Int) ∧ ((c.toNat : Nat) : Int) ≤ 57) = decide (48 ≤ c.toNat ∧ c.toNat ≤ 57) := decide_eq_decide.2 (by omega)
  have e3 : decide (((c.toNat : Nat) : Int) = 95) = decide (c.toNat = 95) := decide_eq_decide.2 (by omega)
  rw [e1, e2, e3]
  cases b
  · simp only [Bool.not_false, Bool.true_and, cond_false]
    rw [Bool.or_comm (decide (c.toNat = 95))]
  · simp
theorem u8_wf (c : UInt8) : wfD (.int .u8) ((c.toNat : Nat) : Int) = true := by
  have := c.toNat_lt
  exact wf_u8.2 ⟨by omega, by omega⟩
theorem ok8_u8 (c : UInt8) (b : Bool) : ok8 ((c.toNat : Nat) : Int) b = true := u8_wf c
theorem lower_wordc {c : UInt8} (h : lower c = true) : wordc c = true := by simp [wordc, h]

theorem w46 (N : Nat) {β : Type} (x0 : Bool → Option β) (x1 : ByteArray → Option β) (s : ByteArray) (hs : s.size ≤ 9223372036854775807) : ∀ (n k : Nat), s.size - k < n →
    W46_2 N x0 x1 n s (k : Int) = bif okFrom k (s.data.toList.drop k) then x1 s else x0 false
  | 0, k, h => by omega
  | n + 1, k, h => by
    unfold W46_2
    rw [size_eq] at h hs ⊢
    by_cases hd : k < s.data.toList.length
    · rw [cond_dec (by omega), cond_t (in_dec hd), Int.toNat_natCast, ok8_u8, cond_true, drop_getD (d := 0) hd]
      have e : letterGo (((s.data.toList.getD k 0).toNat : Nat) : Int) ((k : Int) == (0 : Int)) = bif (k == 0) then lower (s.data.toList.getD k 0) else wordc (s.data.toList.getD k 0) := by
        rw [letter_u8]; congr 1; rw [Bool.eq_iff_iff]; simp only [beq_iff_eq]; omega
      rw [e, wi64 _ (by omega) (by omega), show ((k : Int) + 1) = ((k + 1 : Nat) : Int) by omega, w46 N x0 x1 s (by rw [size_eq]; exact hs) n (k + 1) (by rw [size_eq]; omega)]
      cases k with
      | zero => simp only [okFrom]; cases lower (s.data.toList.getD 0 0) <;> simp
      | succ k => simp only [okFrom]; cases wordc (s.data.toList.getD (k + 1) 0) <;> simp
    · rw [cond_dec' (by omega), List.drop_eq_nil_of_le (by omega)]
      simp [okFrom]
def fuel46 (s : ByteArray) : Nat := s.size + 1
theorem isWordL_eq (l : List UInt8) : isWordL l = (okFrom 0 l && decide (1 ≤ l.length ∧ l.length ≤ 40)) := by
  cases l with
  | nil => simp [isWordL, okFrom]
  | cons c l =>
    simp only [isWordL, okFrom, okFrom_all, List.length_cons]
    rw [Bool.and_comm]
    congr 1
    exact decide_eq_decide.2 (by omega)
theorem plain46 (s : ByteArray) (h : okS s = true) : F46 (fuel46 s) s = some (isWord s, ()) := by
  have hs := okS_iff.1 h
  have := maxLen_le
  unfold F46 isWord
  have hw := w46 (fuel46 s) (fun t2 => some (t2, ())) (fun t0 => bif decide ((((ByteArray.size t0) : Nat) : Int) ≥ (1 : Int)) then some (decide ((((ByteArray.size t0) : Nat) : Int) ≤ (40 : Int)), ()) else some (false, ())) s (by omega) (s.size + 1) 0 (by omega)
  rw [show ((0 : Nat) : Int) = 0 from rfl] at hw
  unfold fuel46 at hw ⊢
  rw [hw, List.drop_zero, isWordL_eq, ← size_eq]
  cases okFrom 0 s.data.toList with
  | false => rfl
  | true =>
    simp only [cond_true, Bool.true_and]
    by_cases h1 : ((s.size : Nat) : Int) ≥ 1
    · rw [cond_dec h1]
      congr 2
      exact decide_eq_decide.2 (by omega)
    · rw [cond_dec' h1]
      congr 2
      exact (decide_eq_false (by omega)).symm

theorem w49 (N : Nat) {β : Type} (x0 : Bool → Option β) (x1 : Unit → Option β) (s : ByteArray) (hs : s.size ≤ 9223372036854775807) : ∀ (n k : Nat), s.size - k < n →
    W49_4 N x0 x1 n s (s.size : Int) (k : Int) = bif (s.data.toList.drop k).all wordc then x1 () else x0 false
  | 0, k, h => by omega
  | n + 1, k, h => by
    have ih := w49 N x0 x1 s hs n (k + 1)
    unfold W49_4
    rw [size_eq] at h hs ih ⊢
    by_cases hd : k < s.data.toList.length
    · rw [cond_dec (by omega), cond_t (in_dec hd), Int.toNat_natCast, drop_getD (d := 0) hd, wi64 _ (by omega) (by omega), show ((k : Int) + 1) = ((k + 1 : Nat) : Int) by omega, ih (by omega), List.all_cons]
      generalize s.data.toList.getD k 0 = c
      have e : wordc c = (decide (((c.toNat : Nat) : Int) ≥ 97) && decide (((c.toNat : Nat) : Int) ≤ 122) || (decide (((c.toNat : Nat) : Int) ≥ 48) && decide (((c.toNat : Nat) : Int) ≤ 57) || ((c.toNat : Nat) : Int) == 95)) := by
        unfold wordc lower
        rw [Bool.eq_iff_iff]
        simp only [Bool.or_eq_true, Bool.and_eq_true, decide_eq_true_eq, beq_iff_eq]
        omega
      rw [e]
      generalize (List.drop (k + 1) s.data.toList).all wordc = r
      cases decide (((c.toNat : Nat) : Int) ≥ 97) <;> cases decide (((c.toNat : Nat) : Int) ≤ 122) <;> cases decide (((c.toNat : Nat) : Int) ≥ 48) <;> cases decide (((c.toNat : Nat) : Int) ≤ 57) <;> cases (((c.toNat : Nat) : Int) == 95) <;> rfl
    · rw [cond_dec' (by omega), List.drop_eq_nil_of_le (by omega)]; rfl
def fuel49 (s : ByteArray) : Nat := s.size + 1
theorem plain49 (s : ByteArray) (h : okS s = true) : F49 (fuel49 s) s = some (isWord s, ()) := by
  have hs := okS_iff.1 h
  have := maxLen_le
  unfold F49 isWord
  have hw := fun x0 x1 => w49 (β := Bool × Unit) (fuel49 s) x0 x1 s (by omega) (s.size + 1) 0 (by omega)
  rw [show ((0 : Nat) : Int) = 0 from rfl] at hw
  unfold fuel49 at hw ⊢
  rw [hw, eqs_nil, List.drop_zero, isWordL_eq]
  cases hl : s.data.toList with
  | nil =>
    have : emp s = true := by unfold emp; rw [size_eq, hl]; rfl
    rw [this]; rfl
  | cons c l =>
    have hz : s.size = l.length + 1 := by rw [size_eq, hl]; rfl
    have : emp s = false := by unfold emp; simp [hz]
    rw [this, cond_false]
    by_cases h40 : ((s.size : Nat) : Int) > 40
    · rw [cond_dec h40]
      congr 2
      rw [List.length_cons, Bool.and_comm]
      have : decide (1 ≤ l.length + 1 ∧ l.length + 1 ≤ 40) = false := decide_eq_false (by omega)
      rw [this]; rfl
    · have hin : (decide ((0 : Int) ≤ 0) && decide ((0 : Int) < ((s.size : Nat) : Int))) = true := by simp; omega
      rw [cond_dec' h40, cond_t hin, cond_t hin]
      have e : okFrom 0 (c :: l) = (lower c && l.all wordc) := by simp only [okFrom, okFrom_all]
      have e2 : decide (1 ≤ (c :: l).length ∧ (c :: l).length ≤ 40) = true := decide_eq_true (by rw [List.length_cons]; omega)
      rw [e, e2, Bool.and_true]
      simp only [Int.toNat_zero, List.getD_cons_zero, List.all_cons]
      by_cases q1 : ((c.toNat : Nat) : Int) < 97
      · rw [cond_dec q1]
        have : lower c = false := decide_eq_false (by omega)
        rw [this]; rfl
      · rw [cond_dec' q1]
        by_cases q2 : ((c.toNat : Nat) : Int) > 122
        · rw [cond_dec q2]
          have : lower c = false := decide_eq_false (by omega)
          rw [this]; rfl
        · rw [cond_dec' q2]
          have : lower c = true := decide_eq_true (by omega)
          rw [this, lower_wordc this]
          cases l.all wordc <;> rfl

/-! Values -/
def fuel35 (v : Val) : Nat := 0
theorem plain35 (v : Val) (h : okV v = true) : F35 0 v = some (right v, ()) := by
  obtain ⟨h1, h2, h3⟩ := okV_iff.1 h
  obtain ⟨k, n, s, ⟨⟩⟩ := v
  simp only at h1 h2 h3
  unfold F35 right
  simp only [eqs_nil, eq_empty, h3, cond_true, Bool.and_true]
  rcases kinds k with rfl | rfl | rfl | rfl | ⟨a, b, c, d⟩
  · simp
  · simp
  · cases h : (n == 0) <;> simp
  · cases h : (n == 1) <;> cases h' : (n == 0) <;> cases emp s <;> simp
  · rw [beq_false_of_ne a, beq_false_of_ne b, beq_false_of_ne c, beq_false_of_ne d]; rfl
def fuel31 (v : Val) : Nat := 0
theorem plain31 (v : Val) (h : okV v = true) : F31 0 v = some (right v, ()) := by
  obtain ⟨h1, h2, h3⟩ := okV_iff.1 h
  obtain ⟨k, n, s, ⟨⟩⟩ := v
  simp only at h1 h2 h3
  unfold F31 right
  simp only [eqs_nil, h3, cond_true]
  rcases kinds k with rfl | rfl | rfl | rfl | ⟨a, b, c, d⟩
  · cases h : (n == 0) <;> simp
  · simp
  · cases h : (n == 0) <;> simp
  · cases h : (n == 1) <;> cases h' : (n == 0) <;> cases emp s <;> simp
  · rw [beq_false_of_ne a, beq_false_of_ne b, beq_false_of_ne c, beq_false_of_ne d]; rfl
def fuel16 (v : Val) : Nat := 0
theorem plain16 (v : Val) (h : okV v = true) : F16 0 v = some (name v, ()) := by
  obtain ⟨k, n, s, ⟨⟩⟩ := v
  unfold F16 name named
  simp only [h, cond_true]
  cases right (k, n, s, ()) <;> cases (k == 1) <;> simp
def fuel22 (d : Int) (v : Val) : Nat := 0
theorem plain22 (d : Int) (v : Val) (h : okT d v = true) : F22 0 d v = some (takes d v, ()) := by
  have h' : okV v = true := h
  obtain ⟨k, n, s, ⟨⟩⟩ := v
  unfold F22 takes named
  simp only [h', cond_true]
  cases right (k, n, s, ())
  · simp
  · rcases doms d with rfl | rfl | rfl | rfl | rfl | rfl | rfl | a
    all_goals first
      | (simp; done)
      | (cases (k == 1) <;> simp; done)
      | skip
    have q : ∀ j : Int, 0 ≤ j → j ≤ 6 → (d == j) = false := fun j _ _ => by simp; omega
    simp [q]; omega
def fuel45 (d : Int) (v : Val) : Nat := 0
theorem plain45 (d : Int) (v : Val) (h : okT d v = true) : F45 0 d v = some (takes d v, ()) := by
  have h' : okV v = true := h
  obtain ⟨k, n, s, ⟨⟩⟩ := v
  unfold F45 takes name named
  simp only [h', cond_true]
  rcases doms d with rfl | rfl | rfl | rfl | rfl | rfl | rfl | a
  all_goals first
    | (cases right (k, n, s, ()) <;> cases (k == 1) <;> simp; done)
    | skip
  have q : ∀ j : Int, 0 ≤ j → j ≤ 6 → (d == j) = false := fun j _ _ => by simp; omega
  have q1 : ¬ (0 ≤ d ∧ d ≤ 4) := by omega
  have q5 : (d == 5) = false := beq_false_of_ne (by omega)
  have q6 : (d == 6) = false := beq_false_of_ne (by omega)
  rw [q5, q6, decide_eq_false q1]
  by_cases h0 : d ≥ 0
  · rw [cond_dec h0, cond_dec' (by omega)]; simp
  · rw [cond_dec' h0]; simp

/-! Signs -/
def fuel50 (c : Int) : Nat := 0
theorem plain50 (c : Int) (_ : true = true) : F50 0 c = some (domain c, ()) := by
  unfold F50 domain
  cases (c == 118) <;> cases (c == 102) <;> cases (c == 111) <;> rfl
def fuel55 (c : Int) : Nat := 0
theorem plain55 (m : Int) (_ : true = true) : F55 0 m = some (modelName m, ()) := by
  unfold F55 modelName
  split <;> first | rfl | skip
  rw [beq_false_of_ne ‹¬m = 1›, beq_false_of_ne ‹¬m = 2›, beq_false_of_ne ‹¬m = 3›, beq_false_of_ne ‹¬m = 4›, beq_false_of_ne ‹¬m = 5›, beq_false_of_ne ‹¬m = 6›, beq_false_of_ne ‹¬m = 7›, beq_false_of_ne ‹¬m = 8›, beq_false_of_ne ‹¬m = 9›, beq_false_of_ne ‹¬m = 10›]; rfl
def fuel56 (c : Int) : Nat := 0
theorem plain56 (m : Int) (_ : true = true) : F56 0 m = some (opName m, ()) := by
  unfold F56 opName
  split <;> first | rfl | skip
  rw [beq_false_of_ne ‹¬m = 1›, beq_false_of_ne ‹¬m = 2›, beq_false_of_ne ‹¬m = 3›, beq_false_of_ne ‹¬m = 4›, beq_false_of_ne ‹¬m = 5›, beq_false_of_ne ‹¬m = 6›, beq_false_of_ne ‹¬m = 7›, beq_false_of_ne ‹¬m = 8›, beq_false_of_ne ‹¬m = 9›, beq_false_of_ne ‹¬m = 10›, beq_false_of_ne ‹¬m = 11›, beq_false_of_ne ‹¬m = 12›, beq_false_of_ne ‹¬m = 13›]; rfl

end Go.L14
