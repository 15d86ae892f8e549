/- Own text of this session: a part of the proof; no condition of its own. -/
import Derived.Test.YtaeinncalendfaaDoorWalk
set_option linter.unusedVariables false
set_option linter.unusedSimpArgs false
set_option maxRecDepth 100000
namespace Go.L09
open Go Go.Abs Go.Inc
theorem kinds (k : Int) : k = 0 ∨ k = 1 ∨ k = 2 ∨ k = 3 ∨ (k ≠ 0 ∧ k ≠ 1 ∧ k ≠ 2 ∧ k ≠ 3) := by omega
theorem doms (k : Int) : k = 0 ∨ k = 1 ∨ k = 2 ∨ k = 3 ∨ k = 4 ∨ k = 5 ∨ k = 6 ∨ (k < 0 ∨ 6 < k) := by omega

/-! Words -/
/-- Letters from a place on. -/
def okFrom : Nat → List UInt8 → Bool
  | _, [] => true
  | 0, c :: l => lower c && okFrom 1 l
  | i + 1, c :: l => wordc c && okFrom (i + 1 + 1) l
theorem okFrom_all : ∀ (l : List UInt8) (i : Nat), okFrom (i + 1) l = l.all wordc
  | [], i => rfl
  | c :: l, i => by simp only [okFrom, List.all_cons, okFrom_all l]
theorem letter_u8 (c : UInt8) (b : Bool) : letterGo ((c.toNat : Nat) : Int) b = bif b then lower c else wordc c := by
  unfold letterGo wordc lower
  have e1 : decide ((97 : Int) ≤ ((c.toNat : Nat) : Int) ∧ ((c.toNat : Nat) : Int) ≤ 122) = decide (97 ≤ c.toNat ∧ c.toNat ≤ 122) := decide_eq_decide.2 (by omega)
  have e2 : decide ((48 : Int) ≤ ((c.toNat : Nat) : Int) ∧ ((c.toNat : Nat) : Int) ≤ 57) = decide (48 ≤ c.toNat ∧ c.toNat ≤ 57) := decide_eq_decide.2 (by omega)
  have e3 : decide (((c.toNat : Nat) : Int) = 95) = decide (c.toNat = 95) := decide_eq_decide.2 (by omega)
  rw [e1, e2, e3]
  cases b
  · simp only [Bool.not_false, Bool.true_and, cond_false]
    rw [Bool.or_comm (decide (c.toNat = 95))]
  · simp
theorem u8_wf (c : UInt8) : wfD (.int .u8) ((c.toNat : Nat) : Int) = true := by
  have := c.toNat_lt
  exact wf_u8.2 ⟨by omega, by omega⟩
theorem ok8_u8 (c : UInt8) (b : Bool) : ok8 ((c.toNat : Nat) : Int) b = true := u8_wf c
theorem lower_wordc {c : UInt8} (h : lower c = true) : wordc c = true := by simp [wordc, h]

theorem isWordL_eq (l : List UInt8) : isWordL l = (okFrom 0 l && decide (1 ≤ l.length ∧ l.length ≤ 40)) := by
  cases l with
  | nil => simp [isWordL, okFrom]
  | cons c l =>
    simp only [isWordL, okFrom, okFrom_all, List.length_cons]
    rw [Bool.and_comm]
    congr 1
    exact decide_eq_decide.2 (by omega)
theorem w33 (N : Nat) {β : Type} (x0 : Bool → Option β) (x1 : Unit → Option β) (s : ByteArray) (hs : s.size ≤ 9223372036854775807) : ∀ (n k : Nat), s.size - k < n →
    W33_4 N x0 x1 n s (s.size : Int) (k : Int) = bif (s.data.toList.drop k).all wordc then x1 () else x0 false
  | 0, k, h => by omega
  | n + 1, k, h => by
    have ih := w33 N x0 x1 s hs n (k + 1)
    unfold W33_4
    rw [size_eq] at h hs ih ⊢
    by_cases hd : k < s.data.toList.length
    · rw [cond_dec (by omega), cond_t (in_dec hd), Int.toNat_natCast, drop_getD (d := 0) hd, wi64 _ (by omega) (by omega), show ((k : Int) + 1) = ((k + 1 : Nat) : Int) by omega, ih (by omega), List.all_cons]
      generalize s.data.toList.getD k 0 = c
      have e : wordc c = (decide (((c.toNat : Nat) : Int) ≥ 97) && decide (((c.toNat : Nat) : Int) ≤ 122) || (decide (((c.toNat : Nat) : Int) ≥ 48) && decide (((c.toNat : Nat) : Int) ≤ 57) || ((c.toNat : Nat) : Int) == 95)) := by
        unfold wordc lower
        rw [Bool.eq_iff_iff]
        simp only [Bool.or_eq_true, Bool.and_eq_true, decide_eq_true_eq, beq_iff_eq]
        omega
      rw [e]
      generalize (List.drop (k + 1) s.data.toList).all wordc = r
      cases decide (((c.toNat : Nat) : Int) ≥ 97) <;> cases decide (((c.toNat : Nat) : Int) ≤ 122) <;> cases decide (((c.toNat : Nat) : Int) ≥ 48) <;> cases decide (((c.toNat : Nat) : Int) ≤ 57) <;> cases (((c.toNat : Nat) : Int) == 95) <;> rfl
    · rw [cond_dec' (by omega), List.drop_eq_nil_of_le (by omega)]; rfl
def fuel33 (s : ByteArray) : Nat := s.size + 1
theorem plain33 (s : ByteArray) (h : okS s = true) : F33 (fuel33 s) s = some (isWord s, ()) := by
  have hs := okS_iff.1 h
  have := maxLen_le
  unfold F33 isWord
  have hw := fun x0 x1 => w33 (β := Bool × Unit) (fuel33 s) x0 x1 s (by omega) (s.size + 1) 0 (by omega)
  rw [show ((0 : Nat) : Int) = 0 from rfl] at hw
  unfold fuel33 at hw ⊢
  rw [hw, eqs_nil, List.drop_zero, isWordL_eq]
  cases hl : s.data.toList with
  | nil =>
    have : emp s = true := by unfold emp; rw [size_eq, hl]; rfl
    rw [this]; rfl
  | cons c l =>
    have hz : s.size = l.length + 1 := by rw [size_eq, hl]; rfl
    have : emp s = false := by unfold emp; simp [hz]
    rw [this, cond_false]
    by_cases h40 : ((s.size : Nat) : Int) > 40
    · rw [cond_dec h40]
      congr 2
      rw [List.length_cons, Bool.and_comm]
      have : decide (1 ≤ l.length + 1 ∧ l.length + 1 ≤ 40) = false := decide_eq_false (by omega)
      rw [this]; rfl
    · have hin : (decide ((0 : Int) ≤ 0) && decide ((0 : Int) < ((s.size : Nat) : Int))) = true := by simp; omega
      rw [cond_dec' h40, cond_t hin, cond_t hin]
      have e : okFrom 0 (c :: l) = (lower c && l.all wordc) := by simp only [okFrom, okFrom_all]
      have e2 : decide (1 ≤ (c :: l).length ∧ (c :: l).length ≤ 40) = true := decide_eq_true (by rw [List.length_cons]; omega)
      rw [e, e2, Bool.and_true]
      simp only [Int.toNat_zero, List.getD_cons_zero, List.all_cons]
      by_cases q1 : ((c.toNat : Nat) : Int) < 97
      · rw [cond_dec q1]
        have : lower c = false := decide_eq_false (by omega)
        rw [this]; rfl
      · rw [cond_dec' q1]
        by_cases q2 : ((c.toNat : Nat) : Int) > 122
        · rw [cond_dec q2]
          have : lower c = false := decide_eq_false (by omega)
          rw [this]; rfl
        · rw [cond_dec' q2]
          have : lower c = true := decide_eq_true (by omega)
          rw [this, lower_wordc this]
          cases l.all wordc <;> rfl

/-! Values -/
def fuel26 (v : Val) : Nat := 0
theorem plain26 (v : Val) (h : okV v = true) : F26 0 v = some (right v, ()) := by
  obtain ⟨h1, h2, h3⟩ := okV_iff.1 h
  obtain ⟨k, n, s, ⟨⟩⟩ := v
  simp only at h1 h2 h3
  unfold F26 right
  simp only [eqs_nil, eq_empty, h3, cond_true, Bool.and_true]
  rcases kinds k with rfl | rfl | rfl | rfl | ⟨a, b, c, d⟩
  · simp
  · simp
  · cases h : (n == 0) <;> simp
  · cases h : (n == 1) <;> cases h' : (n == 0) <;> cases emp s <;> simp
  · rw [beq_false_of_ne a, beq_false_of_ne b, beq_false_of_ne c, beq_false_of_ne d]; rfl
def fuel9 (d : Int) (v : Val) : Nat := 0
theorem plain9 (d : Int) (v : Val) (h : okT d v = true) : F9 0 d v = some (takes d v, ()) := by
  have h' : okV v = true := h
  obtain ⟨k, n, s, ⟨⟩⟩ := v
  unfold F9 takes named
  simp only [h', cond_true]
  cases right (k, n, s, ())
  · simp
  · rcases doms d with rfl | rfl | rfl | rfl | rfl | rfl | rfl | a
    all_goals first
      | (simp; done)
      | (cases (k == 1) <;> simp; done)
      | skip
    have q : ∀ j : Int, 0 ≤ j → j ≤ 6 → (d == j) = false := fun j _ _ => by simp; omega
    simp [q]; omega
/-! Signs -/
def fuel30 (c : Int) : Nat := 0
theorem plain30 (c : Int) (_ : true = true) : F30 0 c = some (domain c, ()) := by
  unfold F30 domain
  cases (c == 118) <;> cases (c == 102) <;> cases (c == 111) <;> rfl
def fuel23 (c : Int) : Nat := 0
theorem plain23 (m : Int) (_ : true = true) : F23 0 m = some (modelName m, ()) := by
  unfold F23 modelName
  split <;> first | rfl | skip
  rw [beq_false_of_ne ‹¬m = 1›, beq_false_of_ne ‹¬m = 2›, beq_false_of_ne ‹¬m = 3›, beq_false_of_ne ‹¬m = 4›, beq_false_of_ne ‹¬m = 5›, beq_false_of_ne ‹¬m = 6›, beq_false_of_ne ‹¬m = 7›, beq_false_of_ne ‹¬m = 8›, beq_false_of_ne ‹¬m = 9›, beq_false_of_ne ‹¬m = 10›]; rfl
def fuel25 (c : Int) : Nat := 0
theorem plain25 (m : Int) (_ : true = true) : F25 0 m = some (opName m, ()) := by
  unfold F25 opName
  split <;> first | rfl | skip
  rw [beq_false_of_ne ‹¬m = 1›, beq_false_of_ne ‹¬m = 2›, beq_false_of_ne ‹¬m = 3›, beq_false_of_ne ‹¬m = 4›, beq_false_of_ne ‹¬m = 5›, beq_false_of_ne ‹¬m = 6›, beq_false_of_ne ‹¬m = 7›, beq_false_of_ne ‹¬m = 8›, beq_false_of_ne ‹¬m = 9›, beq_false_of_ne ‹¬m = 10›, beq_false_of_ne ‹¬m = 11›, beq_false_of_ne ‹¬m = 12›, beq_false_of_ne ‹¬m = 13›]; rfl

end Go.L09
