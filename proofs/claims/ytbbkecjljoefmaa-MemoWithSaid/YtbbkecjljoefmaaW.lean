/- Own text of this session: a part of the proof; no condition of its own. -/
import Derived.Test.YtbbkecjljoefmaaP
set_option linter.unusedVariables false
namespace Go.L21
open Go Go.Abs

theorem w7 (N : Nat) {β : Type} (x1 : Int → Nat → List Int → Option β) (i : Int) (hi : 0 ≤ i) (hi' : i < 4096) : ∀ (n : Nat) (b : List Int), b.length ≤ 1000 → (i / 64).toNat + 1 - b.length < n →
    W7_4 N x1 n i b.length b = x1 i (b ++ List.replicate ((i / 64).toNat + 1 - b.length) 0).length (b ++ List.replicate ((i / 64).toNat + 1 - b.length) 0)
  | 0, b, _, h => by omega
  | n + 1, b, hb, h => by
    unfold W7_4
    have hq : i.tdiv 64 = i / 64 := Int.tdiv_eq_ediv_of_nonneg hi
    rw [hq, wi64 _ (by omega) (by omega)]
    cases hd : decide (((b.length : Nat) : Int) ≤ i / 64) with
    | true =>
      have hle : ((b.length : Nat) : Int) ≤ i / 64 := by simpa using hd
      simp only [cond_true, List.length_cons, List.length_nil, decide_true, Bool.true_and]
      have h1 : decide ((b.length + (0 + 1)) * 8 ≤ 140737488351232) = true := by simp; omega
      rw [h1, cond_true]
      have := w7 N x1 i hi hi' n (b ++ [0]) (by simp; omega) (by simp; omega)
      simp only [List.length_append, List.length_cons, List.length_nil] at this
      rw [this]
      have e1 : (i / 64).toNat + 1 - b.length = ((i / 64).toNat + 1 - (b.length + (0 + 1))) + 1 := by omega
      have e2 : b ++ List.replicate ((i / 64).toNat + 1 - b.length) 0 = b ++ [0] ++ List.replicate ((i / 64).toNat + 1 - (b.length + (0 + 1))) 0 := by
        rw [e1, List.replicate_succ, List.append_assoc]; rfl
      rw [e2]
      simp only [List.length_append, List.length_cons, List.length_nil]
    | false =>
      have hle : ¬ ((b.length : Nat) : Int) ≤ i / 64 := by simpa using hd
      simp only [cond_false]
      have e1 : (i / 64).toNat + 1 - b.length = 0 := by omega
      rw [e1]; simp

theorem getD_app {l : List Int} {k q : Nat} (hl : okL l = true) : 0 ≤ (l ++ List.replicate k 0).getD q 0 ∧ (l ++ List.replicate k 0).getD q 0 ≤ 18446744073709551615 := by
  by_cases h : q < l.length
  · have := okL_get hl h
    rw [List.getD_eq_getElem?_getD, List.getElem?_append_left h, ← List.getD_eq_getElem?_getD]; exact this
  · rw [List.getD_eq_getElem?_getD, List.getElem?_append_right (by omega), List.getElem?_replicate]
    split <;> simp

theorem plain7 (l : List Int) (i : Int) (h : pre7 l i = true) : F7 1100 l i = some (v7 l i, ()) := by
  simp only [pre7, Bool.and_eq_true, okI_iff, decide_eq_true_eq] at h
  obtain ⟨⟨hl, hi0, hi1⟩, hlen⟩ := h
  unfold F7 v7 with'
  have h1 : decide (l.length * 8 ≤ 140737488351232) = true := by simp; omega
  rw [h1, cond_true]
  unfold v14
  cases h2 : decide (0 ≤ i ∧ i < 4096) with
  | false =>
    have h2' : ¬ (0 ≤ i ∧ i < 4096) := by simpa using h2
    rw [if_neg h2']; simp
  | true =>
    have h2' : 0 ≤ i ∧ i < 4096 := by simpa using h2
    rw [if_pos h2']
    simp only [Bool.not_true, cond_false]
    rw [w7 1100 _ i h2'.1 h2'.2 1100 l hlen (by omega)]
    have hn : i.toNat / 64 = (i / 64).toNat := by omega
    have hm : i.toNat % 64 = (i % 64).toNat := by omega
    have hq : i.tdiv 64 = i / 64 := Int.tdiv_eq_ediv_of_nonneg h2'.1
    have ht : i.tmod 64 = i % 64 := Int.tmod_eq_emod_of_nonneg h2'.1
    rw [hq, ht, wi64 (i / 64) (by omega) (by omega), wu64 (i % 64) (by omega) (by omega), hn, hm]
    have hg := getD_app (k := (i / 64).toNat + 1 - l.length) (q := (i / 64).toNat) hl
    generalize hmm : l ++ List.replicate ((i / 64).toNat + 1 - l.length) 0 = m at hg
    have hml : (i / 64).toNat < m.length := by rw [← hmm]; simp; omega
    have hml' : i / 64 < (m.length : Int) := by omega
    have e1 : (decide ((0 : Int) ≤ i / 64) && decide (i / 64 < (m.length : Int))) = true := by simp; omega
    have e2 : decide ((i / 64).toNat < m.length) = true := by simpa using hml
    have e3 : decide (i % 64 < (0 : Int)) = false := by simp; omega
    simp only [e1, e2, e3, cond_true, cond_false, List.length_set, decide_true]
    congr 3
    have hmin : Min.min (i % 64).toNat (IntKind.bits .u64) = (i % 64).toNat := by
      show Nat.min _ 64 = _
      exact Nat.min_eq_left (by omega)
    rw [hmin]
    have hp : ((2 : Int) ^ (i % 64).toNat) = ((2 ^ (i % 64).toNat : Nat) : Int) := by simp
    have hlt : 2 ^ (i % 64).toNat ≤ 2 ^ 63 := Nat.pow_le_pow_right (by decide) (by omega)
    rw [hp]
    generalize 2 ^ (i % 64).toNat = y at hlt
    rw [Int.one_mul, wu64 _ (by omega) (by omega), or_u64 hg.1 hg.2 (by omega) (by omega)]
    simp only [Int.toNat_natCast]
end Go.L21
