/- Own text of this session: a part of the proof; no condition of its own. -/
import Derived.Test.YtbbkecjljoefmaaW
import Derived.Test.YtbbkecjljoefmaaC
set_option linter.unusedVariables false
namespace Go.L21
open Go Go.Abs

theorem w9 (N : Nat) {β : Type} (x0 : Bool → Option β) (x1 : Unit → Option β) (a b : List Int) (ha : (a.length : Int) ≤ 9223372036854775807) (hb : (b.length : Int) ≤ 9223372036854775807) :
    ∀ (n k : Nat), max a.length b.length - k < n →
    W9_2 N x0 x1 n a b (k : Int) = bif decide (∀ i, i < max a.length b.length → k ≤ i → a.getD i 0 = b.getD i 0) then x1 () else x0 false
  | 0, k, h => by omega
  | n + 1, k, h => by
    have hp : ∀ l : List Int, pre15 l (k : Int) = true := fun l => by simp [pre15]
    have step : k < max a.length b.length → (bif (v15 a k != v15 b k) then x0 false else W9_2 N x0 x1 n a b (IntKind.wrap .i64 ((k : Int) + 1))) =
        bif decide (∀ i, i < max a.length b.length → k ≤ i → a.getD i 0 = b.getD i 0) then x1 () else x0 false := by
      intro hk
      rw [wi64 _ (by omega) (by omega)]
      have e1 : ((k : Int) + 1) = ((k + 1 : Nat) : Int) := by omega
      rw [e1, w9 N x0 x1 a b ha hb n (k + 1) (by omega)]
      have hv : ∀ l : List Int, v15 l (k : Int) = l.getD k 0 := fun l => by simp [v15]
      rw [hv, hv]
      by_cases hc : a.getD k 0 = b.getD k 0
      · have e2 : (a.getD k 0 != b.getD k 0) = false := by rw [hc]; exact bne_self_eq_false _
        rw [e2, cond_false]
        congr 1
        apply decide_eq_decide.2
        constructor
        · intro h2 i hi' hi
          rcases Nat.lt_or_ge k i with hlt | hge
          · exact h2 i hi' hlt
          · have : i = k := by omega
            subst this; exact hc
        · intro h2 i hi' hi; exact h2 i hi' (by omega)
      · have e2 : (a.getD k 0 != b.getD k 0) = true := bne_iff_ne.2 hc
        have e3 : decide (∀ i, i < max a.length b.length → k ≤ i → a.getD i 0 = b.getD i 0) = false := by
          simp only [decide_eq_false_iff_not]
          intro h2; exact hc (h2 k hk (Nat.le_refl _))
        rw [e2, e3, cond_true, cond_false]
    unfold W9_2
    rw [hp, hp, cond_true, cond_true]
    cases h1 : decide ((k : Int) < ((a.length : Nat) : Int)) with
    | true =>
      have h1' : (k : Int) < a.length := by simpa using h1
      rw [cond_true]; exact step (by omega)
    | false =>
      have h1' : ¬ (k : Int) < a.length := by simpa using h1
      rw [cond_false]
      cases h2 : decide ((k : Int) < ((b.length : Nat) : Int)) with
      | true =>
        have h2' : (k : Int) < b.length := by simpa using h2
        rw [cond_true]; exact step (by omega)
      | false =>
        have h2' : ¬ (k : Int) < b.length := by simpa using h2
        have e3 : decide (∀ i, i < max a.length b.length → k ≤ i → a.getD i 0 = b.getD i 0) = true := by
          simp only [decide_eq_true_eq]
          intro i hi' hi; omega
        rw [e3, cond_true, cond_false]

theorem plain9 (a b : List Int) (h : pre9 a b = true) : F9 (max a.length b.length + 1) a b = some (v9 a b, ()) := by
  simp only [pre9, Bool.and_eq_true] at h
  unfold F9 v9 same
  have := w9 (max a.length b.length + 1) (fun t4 => some (t4, ())) (fun _ => some (true, ())) a b (okL_len h.1) (okL_len h.2) (max a.length b.length + 1) 0 (by omega)
  rw [show ((0 : Nat) : Int) = 0 from rfl] at this
  rw [this]
  have e : decide (∀ i, i < max a.length b.length → 0 ≤ i → a.getD i 0 = b.getD i 0) = decide (∀ i, i < max a.length b.length → a.getD i 0 = b.getD i 0) :=
    decide_eq_decide.2 ⟨fun h i hi => h i hi (Nat.zero_le _), fun h i hi _ => h i hi⟩
  rw [e]
  cases decide (∀ i, i < max a.length b.length → a.getD i 0 = b.getD i 0) <;> rfl

theorem same_self (l : List Int) : same l l = true := by simp [same]

/-- What 'with' makes, of a place that may be. -/
theorem with_in {l : List Int} {i : Int} (h0 : 0 ≤ i) (h1 : i < 4096) : ∃ m : List Int, m = l ++ List.replicate (i.toNat / 64 + 1 - l.length) 0 ∧ with' l i = m.set (i.toNat / 64) (((m.getD (i.toNat / 64) 0).toNat ||| 2 ^ (i.toNat % 64) : Nat) : Int) :=
  ⟨_, rfl, by unfold with'; rw [if_pos ⟨h0, h1⟩]⟩
theorem with_out {l : List Int} {i : Int} (h : ¬ (0 ≤ i ∧ i < 4096)) : with' l i = l := by unfold with'; rw [if_neg h]

theorem with_len {l : List Int} {i : Int} (h0 : 0 ≤ i) (h1 : i < 4096) : (with' l i).length = max l.length (i.toNat / 64 + 1) := by
  obtain ⟨m, hm, hw⟩ := with_in (l := l) h0 h1
  rw [hw, List.length_set, hm]; simp; omega

theorem getD_rep (l : List Int) (k q : Nat) : (l ++ List.replicate k 0).getD q 0 = l.getD q 0 := by
  by_cases h : q < l.length
  · rw [List.getD_eq_getElem?_getD, List.getElem?_append_left h, ← List.getD_eq_getElem?_getD]
  · rw [List.getD_eq_getElem?_getD, List.getElem?_append_right (by omega), List.getElem?_replicate, List.getD_eq_getElem?_getD, List.getElem?_eq_none (by omega)]
    split <;> simp

theorem getD_with {l : List Int} {i : Int} (h0 : 0 ≤ i) (h1 : i < 4096) (q : Nat) : (with' l i).getD q 0 = if q = i.toNat / 64 then (((l.getD q 0).toNat ||| 2 ^ (i.toNat % 64) : Nat) : Int) else l.getD q 0 := by
  obtain ⟨m, hm, hw⟩ := with_in (l := l) h0 h1
  rw [hw]
  by_cases hq : q = i.toNat / 64
  · subst hq
    rw [if_pos rfl, List.getD_eq_getElem?_getD, List.getElem?_set_self (by rw [hm]; simp; omega), Option.getD_some, hm, getD_rep]
  · rw [if_neg hq, List.getD_eq_getElem?_getD, List.getElem?_set_ne (fun h => hq h.symm), ← List.getD_eq_getElem?_getD, hm, getD_rep]

theorem has_with {l : List Int} {i : Int} : has (with' l i) i = decide (0 ≤ i ∧ i < 4096) := by
  by_cases h : 0 ≤ i ∧ i < 4096
  · unfold has
    rw [with_len h.1 h.2, getD_with h.1 h.2, if_pos rfl]
    have e : decide (0 ≤ i ∧ i < 4096 ∧ i.toNat / 64 < max l.length (i.toNat / 64 + 1)) = true := by simp; omega
    rw [e]
    simp [h, Nat.testBit_or, Nat.testBit_two_pow_self]
  · rw [with_out h]
    unfold has
    have e : decide (0 ≤ i ∧ i < 4096 ∧ i.toNat / 64 < l.length) = false := by simp; omega
    rw [e]; simp; omega

theorem has_other {l : List Int} {i k : Int} (hk : k ≠ i) : has (with' l i) k = has l k := by
  by_cases h : 0 ≤ i ∧ i < 4096
  · by_cases hk2 : 0 ≤ k ∧ k < 4096
    · unfold has
      rw [with_len h.1 h.2, getD_with h.1 h.2]
      by_cases hq : k.toNat / 64 = i.toNat / 64
      · rw [if_pos hq]
        have hb : k.toNat % 64 ≠ i.toNat % 64 := by omega
        rw [Int.toNat_natCast, Nat.testBit_or, Nat.testBit_two_pow_of_ne (fun h => hb h.symm), Bool.or_false]
        by_cases hl : k.toNat / 64 < l.length
        · congr 1; apply decide_eq_decide.2; omega
        · have e0 : l.getD (k.toNat / 64) 0 = 0 := by rw [List.getD_eq_getElem?_getD, List.getElem?_eq_none (by omega)]; rfl
          rw [e0]; simp
      · rw [if_neg hq]
        by_cases hl : k.toNat / 64 < l.length
        · congr 1; apply decide_eq_decide.2; omega
        · have e0 : l.getD (k.toNat / 64) 0 = 0 := by rw [List.getD_eq_getElem?_getD, List.getElem?_eq_none (by omega)]; rfl
          rw [e0]; simp
    · unfold has
      have e1 : ∀ m : Nat, decide (0 ≤ k ∧ k < 4096 ∧ k.toNat / 64 < m) = false := fun m => by simp; omega
      rw [e1, e1]; rfl
  · rw [with_out h]

theorem okL_iff {l : List Int} : okL l = true ↔ l.length ≤ maxLen ∧ ∀ x ∈ l, 0 ≤ x ∧ x ≤ 18446744073709551615 := by
  unfold okL
  simp only [wfD, Bool.and_eq_true, decide_eq_true_eq, List.all_eq_true, wf_u64]

theorem okL_with {l : List Int} {i : Int} (hl : okL l = true) (hn : l.length ≤ 100) : okL (with' l i) = true := by
  by_cases h : 0 ≤ i ∧ i < 4096
  · rw [okL_iff]
    refine ⟨?_, fun x hx => ?_⟩
    · rw [with_len h.1 h.2]
      have : (200 : Nat) ≤ maxLen := by decide
      omega
    · obtain ⟨q, hq⟩ := List.getElem?_of_mem hx
      have hxg : x = (with' l i).getD q 0 := by rw [List.getD_eq_getElem?_getD, hq]; rfl
      rw [hxg, getD_with h.1 h.2]
      have hg : 0 ≤ l.getD q 0 ∧ l.getD q 0 ≤ 18446744073709551615 := by
        have := getD_app (k := 0) (q := q) hl
        rw [getD_rep] at this; exact this
      split
      · have h2 : (l.getD q 0).toNat < 2 ^ 64 := by omega
        have h3 : 2 ^ (i.toNat % 64) < 2 ^ 64 := Nat.pow_lt_pow_right (by decide) (by omega)
        have := Nat.or_lt_two_pow h2 h3
        omega
      · exact hg
  · rw [with_out h]; exact hl
end Go.L21
