/- Own text of this session: a part of the proof; no condition of its own. -/
import Derived.Test.YtaeinncalendfaaDoorR
set_option linter.unusedVariables false
set_option linter.unusedSimpArgs false
set_option maxRecDepth 100000
namespace Go.L09
open Go Go.Abs Go.Inc
theorem num_pos (word : ByteArray) : ∀ (l : List ByteArray) (k : Nat), 0 ≤ numFrom word k l
  | [], k => by simp [numFrom]
  | w :: l, k => by
    unfold numFrom
    cases (decide (0 < k) && (w.toList == word.toList)) with
    | true => simp only [cond_true]; omega
    | false => simp only [cond_false]; exact num_pos word l (k + 1)
theorem w32 (N : Nat) {β : Type} (x0 : Int → Bool → Option β) (x1 : Unit → Option β) (word : ByteArray) (l : List ByteArray) (hs : l.length ≤ 1000) : ∀ (n k : Nat), l.length - k < n →
    W32_2 N x0 x1 n word l (l.length : Int) (k : Int) = bif decide (0 < numFrom word k (l.drop k)) then x0 (numFrom word k (l.drop k)) true else x1 ()
  | 0, k, h => by omega
  | n + 1, k, h => by
    have ih := w32 N x0 x1 word l hs n (k + 1)
    unfold W32_2
    by_cases hd : k < l.length
    · rw [cond_dec (by omega), cond_t (in_dec hd), Int.toNat_natCast, drop_getD (d := ByteArray.empty) hd, wi64 _ (by omega) (by omega), show ((k : Int) + 1) = ((k + 1 : Nat) : Int) by omega, ih (by omega), numFrom]
      by_cases h0 : 0 < k
      · rw [cond_dec (by omega), decide_eq_true h0, Bool.true_and]
        cases ((l.getD k ByteArray.empty).toList == word.toList) with
        | true => simp only [cond_true]; rw [cond_dec (by omega)]
        | false => rfl
      · rw [cond_dec' (by omega), decide_eq_false h0, Bool.false_and]; rfl
    · rw [cond_dec' (by omega), List.drop_eq_nil_of_le (by omega)]; rfl
def fuel32 (word : ByteArray) (l : List ByteArray) : Nat := l.length + 1
theorem plain32 (word : ByteArray) (l : List ByteArray) (h : okNum word l = true) : F32 (fuel32 word l) word l = some (numberGo word l) := by
  have hs : l.length ≤ 1000 := of_decide_eq_true h
  have hw := w32 (β := Int × (Bool × Unit)) (fuel32 word l) (fun t4 t5 => some (t4, (t5, ()))) (fun _ => some (0, (false, ()))) word l hs (fuel32 word l) 0 (by unfold fuel32; omega)
  rw [show ((0 : Nat) : Int) = 0 from rfl, List.drop_zero] at hw
  refine Eq.trans hw ?_
  unfold numberGo
  have hp := num_pos word l 0
  generalize numFrom word 0 l = r at hp
  by_cases hr : 0 < r
  · rw [cond_dec hr, decide_eq_true hr]
  · rw [cond_dec' hr, decide_eq_false hr, show r = 0 by omega]
def fuel18 (word : ByteArray) : Nat := 0
theorem plain18 (word : ByteArray) (_ : true = true) : F18 0 word = some (modelGo word) := rfl
def fuel19 (word : ByteArray) : Nat := 0
theorem plain19 (word : ByteArray) (_ : true = true) : F19 0 word = some (opGo word) := rfl
theorem mName_out {n : Int} (h : n < 1 ∨ 10 < n) : modelName n = strL [] := by
  unfold modelName
  split <;> first | (exfalso; omega) | rfl
theorem models_at : ∀ k, k < 11 → (arrL .str 11 modelsA).getD k ByteArray.empty = modelName (k : Int)
  | 0, _ => rfl | 1, _ => rfl | 2, _ => rfl | 3, _ => rfl | 4, _ => rfl | 5, _ => rfl | 6, _ => rfl | 7, _ => rfl | 8, _ => rfl | 9, _ => rfl | 10, _ => rfl
  | k + 11, h => by omega
def fuel22 (n : Int) : Nat := 0
theorem plain22 (n : Int) (_ : true = true) : F22 0 n = some (modelName n, ()) := by
  unfold F22
  by_cases h1 : n < 1
  · rw [cond_dec h1, mName_out (.inl h1)]
  · by_cases h2 : n ≥ 11
    · rw [cond_dec' h1, cond_dec h2, mName_out (.inr (by omega))]
    · rw [cond_dec' h1, cond_dec' h2, cond_t (by simp only [Bool.and_eq_true, decide_eq_true_eq]; omega), models_at _ (by omega), Int.toNat_of_nonneg (by omega)]
theorem oName_out {n : Int} (h : n < 1 ∨ 13 < n) : opName n = strL [] := by
  unfold opName
  split <;> first | (exfalso; omega) | rfl
theorem ops_at : ∀ k, k < 14 → (arrL .str 14 opsA).getD k ByteArray.empty = opName (k : Int)
  | 0, _ => rfl | 1, _ => rfl | 2, _ => rfl | 3, _ => rfl | 4, _ => rfl | 5, _ => rfl | 6, _ => rfl | 7, _ => rfl | 8, _ => rfl | 9, _ => rfl | 10, _ => rfl | 11, _ => rfl | 12, _ => rfl | 13, _ => rfl
  | k + 14, h => by omega
def fuel24 (n : Int) : Nat := 0
theorem plain24 (n : Int) (_ : true = true) : F24 0 n = some (opName n, ()) := by
  unfold F24
  by_cases h1 : n < 1
  · rw [cond_dec h1, oName_out (.inl h1)]
  · by_cases h2 : n ≥ 14
    · rw [cond_dec' h1, cond_dec h2, oName_out (.inr (by omega))]
    · rw [cond_dec' h1, cond_dec' h2, cond_t (by simp only [Bool.and_eq_true, decide_eq_true_eq]; omega), ops_at _ (by omega), Int.toNat_of_nonneg (by omega)]
theorem w20 (N : Nat) {β : Type} (x0 : Int → Option β) (x1 : Unit → Option β) (word : ByteArray) : ∀ (n k : Nat), 11 - k < n → 1 ≤ k → k ≤ 11 →
    W20_2 N x0 x1 n word (k : Int) = bif decide (0 < numFrom word k ((arrL .str 11 modelsA).drop k)) then x0 (numFrom word k ((arrL .str 11 modelsA).drop k)) else x1 ()
  | 0, k, h, _, _ => by omega
  | n + 1, k, h, h1, h2 => by
    have ih := w20 N x0 x1 word n (k + 1)
    unfold W20_2
    by_cases hd : k ≤ 10
    · have hl : k < (arrL .str 11 modelsA).length := by show k < 11; omega
      rw [cond_dec (by omega), drop_getD (d := ByteArray.empty) hl, models_at k (by omega), wi64 _ (by omega) (by omega), show ((k : Int) + 1) = ((k + 1 : Nat) : Int) by omega, ih (by omega) (by omega) (by omega), numFrom, decide_eq_true (show 0 < k by omega), Bool.true_and]
      cases ((modelName (k : Int)).toList == word.toList) with
      | true => simp only [cond_true]; rw [cond_dec (by omega)]
      | false => rfl
    · rw [cond_dec' (by omega), List.drop_eq_nil_of_le (by show 11 ≤ k; omega)]; rfl
theorem modelNo_drop (word : ByteArray) : modelNo word = numFrom word 1 ((arrL .str 11 modelsA).drop 1) := rfl
def fuel20 (word : ByteArray) : Nat := 12
theorem plain20 (word : ByteArray) (_ : true = true) : F20 (fuel20 word) word = some (modelNo word, ()) := by
  have hw := w20 (β := Int × Unit) (fuel20 word) (fun t2 => some (t2, ())) (fun _ => some (0, ())) word 12 1 (by omega) (by omega) (by omega)
  rw [show ((1 : Nat) : Int) = 1 from rfl, ← modelNo_drop] at hw
  refine Eq.trans hw ?_
  have hp : 0 ≤ modelNo word := num_pos _ _ _
  generalize modelNo word = r at hp
  by_cases hr : 0 < r
  · rw [cond_dec hr]
  · rw [cond_dec' hr, show r = 0 by omega]
theorem w21 (N : Nat) {β : Type} (x0 : Int → Option β) (x1 : Unit → Option β) (word : ByteArray) : ∀ (n k : Nat), 14 - k < n → 1 ≤ k → k ≤ 14 →
    W21_2 N x0 x1 n word (k : Int) = bif decide (0 < numFrom word k ((arrL .str 14 opsA).drop k)) then x0 (numFrom word k ((arrL .str 14 opsA).drop k)) else x1 ()
  | 0, k, h, _, _ => by omega
  | n + 1, k, h, h1, h2 => by
    have ih := w21 N x0 x1 word n (k + 1)
    unfold W21_2
    by_cases hd : k ≤ 13
    · have hl : k < (arrL .str 14 opsA).length := by show k < 14; omega
      rw [cond_dec (by omega), drop_getD (d := ByteArray.empty) hl, ops_at k (by omega), wi64 _ (by omega) (by omega), show ((k : Int) + 1) = ((k + 1 : Nat) : Int) by omega, ih (by omega) (by omega) (by omega), numFrom, decide_eq_true (show 0 < k by omega), Bool.true_and]
      cases ((opName (k : Int)).toList == word.toList) with
      | true => simp only [cond_true]; rw [cond_dec (by omega)]
      | false => rfl
    · rw [cond_dec' (by omega), List.drop_eq_nil_of_le (by show 14 ≤ k; omega)]; rfl
theorem opNo_drop (word : ByteArray) : opNo word = numFrom word 1 ((arrL .str 14 opsA).drop 1) := rfl
def fuel21 (word : ByteArray) : Nat := 15
theorem plain21 (word : ByteArray) (_ : true = true) : F21 (fuel21 word) word = some (opNo word, ()) := by
  have hw := w21 (β := Int × Unit) (fuel21 word) (fun t2 => some (t2, ())) (fun _ => some (0, ())) word 15 1 (by omega) (by omega) (by omega)
  rw [show ((1 : Nat) : Int) = 1 from rfl, ← opNo_drop] at hw
  refine Eq.trans hw ?_
  have hp : 0 ≤ opNo word := num_pos _ _ _
  generalize opNo word = r at hp
  by_cases hr : 0 < r
  · rw [cond_dec hr]
  · rw [cond_dec' hr, show r = 0 by omega]
def fuel7 (word : ByteArray) (n : Int) : Nat := 0
theorem plain7 (word : ByteArray) (n : Int) (_ : okW word n = true) : F7 0 word n = some (true, ()) := by
  unfold F7
  have e1 : (modelGo word).1 = modelNo word := rfl
  have e2 : (modelGo word).2.1 = decide (modelNo word > 0) := rfl
  have e3 : (opGo word).1 = opNo word := rfl
  have e4 : (opGo word).2.1 = decide (opNo word > 0) := rfl
  simp only [e1, e2, e3, e4, beq_self_eq_true, cond_true]
  generalize decide (((word.size : Nat) : Int) > (100 : Int)) = c
  cases c <;> rfl

end Go.L09
