/- How values stand: the order's laws. Own text of this session. -/
import Derived.Test.YtkkkjcpfahhhpaaDoorReg
set_option linter.unusedVariables false
set_option linter.unusedSimpArgs false
namespace Go.Inc
open Go Go.Abs

theorem u8 (a b : UInt8) : (a < b ∧ ¬ b < a ∧ a ≠ b) ∨ (a = b ∧ ¬ a < b) ∨ (b < a ∧ ¬ a < b ∧ a ≠ b) := by
  have h := UInt8.toNat_inj (a := a) (b := b)
  simp only [UInt8.lt_iff_toNat_lt]
  rcases Nat.lt_trichotomy a.toNat b.toNat with h1 | h1 | h1
  · exact .inl ⟨h1, by omega, fun e => by rw [e] at h1; omega⟩
  · exact .inr (.inl ⟨h.1 h1, by omega⟩)
  · exact .inr (.inr ⟨h1, by omega, fun e => by rw [e] at h1; omega⟩)

theorem cb_spec : ∀ a b : List UInt8, (Lib.compareBytes a b = -1 ∧ Op.bytesLess a b = true ∧ Op.bytesLess b a = false ∧ a ≠ b) ∨ (Lib.compareBytes a b = 0 ∧ a = b ∧ Op.bytesLess a b = false) ∨
    (Lib.compareBytes a b = 1 ∧ Op.bytesLess b a = true ∧ Op.bytesLess a b = false ∧ a ≠ b)
  | [], [] => .inr (.inl ⟨rfl, rfl, rfl⟩)
  | [], _ :: _ => .inl ⟨rfl, rfl, rfl, by simp⟩
  | _ :: _, [] => .inr (.inr ⟨rfl, rfl, rfl, by simp⟩)
  | a :: x, b :: y => by
    simp only [Lib.compareBytes, Op.bytesLess]
    rcases u8 a b with ⟨h1, h2, h3⟩ | ⟨rfl, h2⟩ | ⟨h1, h2, h3⟩
    · have e : (b == a) = false := beq_false_of_ne (Ne.symm h3)
      exact .inl ⟨if_pos h1, by simp [h1], by simp [h2, e], by simp [h3]⟩
    · simp only [h2, if_false, decide_false, Bool.false_or, beq_self_eq_true, Bool.true_and, List.cons.injEq, true_and, ne_eq]
      exact cb_spec x y
    · have e : (a == b) = false := beq_false_of_ne h3
      exact .inr (.inr ⟨by rw [if_neg h2, if_pos h1], by simp [h1], by simp [h2, e], by simp [h3]⟩)

theorem cs_spec (a b : ByteArray) : (cmpS a b = -1 ∧ Op.bytesLess a.toList b.toList = true ∧ Op.bytesLess b.toList a.toList = false ∧ a ≠ b) ∨ (cmpS a b = 0 ∧ a = b ∧ Op.bytesLess a.toList b.toList = false) ∨
    (cmpS a b = 1 ∧ Op.bytesLess b.toList a.toList = true ∧ Op.bytesLess a.toList b.toList = false ∧ a ≠ b) := by
  unfold cmpS
  rw [toList_eq, toList_eq]
  have hn : ∀ h : a.data.toList ≠ b.data.toList, a ≠ b := fun h e => h (by rw [e])
  rcases cb_spec a.data.toList b.data.toList with ⟨h1, h2, h3, h4⟩ | ⟨h1, h2, h3⟩ | ⟨h1, h2, h3, h4⟩
  · exact .inl ⟨h1, h2, h3, hn h4⟩
  · exact .inr (.inl ⟨h1, ba_ext h2, h3⟩)
  · exact .inr (.inr ⟨h1, h2, h3, hn h4⟩)

theorem ci_spec (a b : Int) : (cmpI a b = -1 ∧ a < b) ∨ (cmpI a b = 0 ∧ a = b) ∨ (cmpI a b = 1 ∧ b < a) := by
  unfold cmpI
  rcases Int.lt_trichotomy a b with h | h | h
  · exact .inl ⟨by rw [decide_eq_true h]; rfl, h⟩
  · exact .inr (.inl ⟨by rw [decide_eq_false (by omega), decide_eq_false (by omega)]; rfl, h⟩)
  · exact .inr (.inr ⟨by rw [decide_eq_false (by omega), decide_eq_true (by omega)]; rfl, h⟩)

/-- Two values: one is ahead, or they are the same. -/
theorem cv_spec (a b : Val) : (cmpV a b = -1 ∧ lessV a b = true ∧ lessV b a = false ∧ a ≠ b) ∨ (cmpV a b = 0 ∧ a = b ∧ lessV a b = false) ∨ (cmpV a b = 1 ∧ lessV b a = true ∧ lessV a b = false ∧ a ≠ b) := by
  obtain ⟨k, n, s, ⟨⟩⟩ := a
  obtain ⟨k', n', s', ⟨⟩⟩ := b
  have key : ∀ x y : Int, x ≠ y → (x != y) = true := fun x y h => bne_iff_ne.2 h
  have key' : ∀ x : Int, (x != x) = false := fun x => bne_self_eq_false x
  unfold cmpV lessV orI orI orI orI
  simp only
  rcases ci_spec k k' with ⟨e1, h1⟩ | ⟨e1, rfl⟩ | ⟨e1, h1⟩
  · refine .inl ⟨by rw [e1]; rfl, ?_, ?_, ?_⟩
    · rw [key _ _ (by omega), decide_eq_true h1]; rfl
    · rw [key _ _ (by omega), decide_eq_false (by omega)]; rfl
    · simp only [ne_eq, Prod.mk.injEq]; omega
  · simp only [e1, key', cond_false]
    rcases ci_spec n n' with ⟨e2, h2⟩ | ⟨e2, rfl⟩ | ⟨e2, h2⟩
    · refine .inl ⟨by rw [e2]; rfl, ?_, ?_, ?_⟩
      · rw [key _ _ (by omega), decide_eq_true h2]; rfl
      · rw [key _ _ (by omega), decide_eq_false (by omega)]; rfl
      · simp only [ne_eq, Prod.mk.injEq]; omega
    · simp only [e2, key', cond_false]
      rcases cs_spec s s' with ⟨e3, h3, h4, h5⟩ | ⟨e3, rfl, h4⟩ | ⟨e3, h3, h4, h5⟩
      · exact .inl ⟨by rw [e3]; rfl, h3, h4, by simp [h5]⟩
      · exact .inr (.inl ⟨by rw [e3]; rfl, rfl, h4⟩)
      · exact .inr (.inr ⟨by rw [e3]; rfl, h3, h4, by simp [h5]⟩)
    · refine .inr (.inr ⟨by rw [e2]; rfl, ?_, ?_, ?_⟩)
      · rw [key _ _ (by omega), decide_eq_true h2]; rfl
      · rw [key _ _ (by omega), decide_eq_false (by omega)]; rfl
      · simp only [ne_eq, Prod.mk.injEq]; omega
  · refine .inr (.inr ⟨by rw [e1]; rfl, ?_, ?_, ?_⟩)
    · rw [key _ _ (by omega), decide_eq_true h1]; rfl
    · rw [key _ _ (by omega), decide_eq_false (by omega)]; rfl
    · simp only [ne_eq, Prod.mk.injEq]; omega

theorem lessV_self (a : Val) : lessV a a = false := by
  rcases cv_spec a a with ⟨_, _, _, h⟩ | ⟨_, _, h⟩ | ⟨_, _, _, h⟩
  · exact absurd rfl h
  · exact h
  · exact absurd rfl h

theorem lessV_asymm {a b : Val} (h : lessV a b = true) : lessV b a = false := by
  rcases cv_spec a b with ⟨_, h1, h2, _⟩ | ⟨_, rfl, h2⟩ | ⟨_, h1, h2, _⟩
  · exact h2
  · exact h2
  · rw [h] at h2; cases h2

theorem cmpV_pos (a b : Val) : decide (cmpV a b > 0) = lessV b a := by
  rcases cv_spec a b with ⟨e, h1, h2, _⟩ | ⟨e, rfl, h2⟩ | ⟨e, h1, h2, _⟩
  · rw [e, h2]; rfl
  · rw [e, h2]; rfl
  · rw [e, h1]; rfl

theorem lessV_total {a b : Val} (h1 : lessV a b = false) (h2 : lessV b a = false) : a = b := by
  rcases cv_spec a b with ⟨_, h, _, _⟩ | ⟨_, h, _⟩ | ⟨_, h, _, _⟩
  · rw [h] at h1; cases h1
  · exact h
  · rw [h] at h2; cases h2
end Go.Inc
