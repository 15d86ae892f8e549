/- Own text of this session: a part of the proof; no condition of its own. -/
import Derived.Test.YtbbkecjljoefmaaWalk
set_option linter.unusedVariables false
namespace Go.L21
open Go Go.Abs

theorem okI_iff {i : Int} : okI i = true ↔ -9223372036854775808 ≤ i ∧ i ≤ 9223372036854775807 := by simp [okI, wfD, wf_i64]
theorem okL_get {l : List Int} (h : okL l = true) {i : Nat} (hi : i < l.length) : 0 ≤ l.getD i 0 ∧ l.getD i 0 ≤ 18446744073709551615 := by
  have := wf_getD (t := .int .u64) (xs := l) h (d := (0 : Int)) hi
  simpa [wfD, wf_u64] using this
theorem okL_len {l : List Int} (h : okL l = true) : (l.length : Int) ≤ 9223372036854775807 := by
  have := (wfD_sl (t := .int .u64) (xs := l) h).1
  have := maxLen_le
  omega

theorem plain14 (p0 : Int) (N : Nat) : F14 N p0 = some (v14 p0, ()) := by
  unfold F14 v14
  cases h : decide (p0 ≥ (0 : Int)) with
  | true => simp at h; simp [h]
  | false => simp at h; simp; omega

theorem plain6 (l : List Int) (N : Nat) : F6 N l = some (v6 l, ()) := by
  unfold F6 v6
  congr 2
  exact decide_eq_decide.2 (by omega)

theorem plain15 (l : List Int) (i : Int) (N : Nat) (h : pre15 l i = true) : F15 N l i = some (v15 l i, ()) := by
  simp [pre15] at h
  unfold F15 v15
  cases h1 : decide (i < (l.length : Int)) with
  | true =>
    have h2 : i < (l.length : Int) := by simpa using h1
    simp [h, h2]
  | false =>
    have h2 : ¬ i < (l.length : Int) := by simpa using h1
    simp only [cond_false]
    rw [List.getD_eq_getElem?_getD, List.getElem?_eq_none (by omega)]
    rfl

theorem w8 (N : Nat) {β : Type} (x1 : Int → Option β) (i : Int) (hi : 0 ≤ i) (hi' : i ≤ 4095) : ∀ (n : Nat) (x k : Int), 0 ≤ k → k ≤ i.tmod 64 → i.tmod 64 - k < n → 0 ≤ x → x ≤ 18446744073709551615 →
    W8_5 N x1 n i x k = x1 (x / 2 ^ (i.tmod 64 - k).toNat)
  | 0, x, k, _, h1, h2, _, _ => by omega
  | n + 1, x, k, h0, h1, h2, hx, hx' => by
    unfold W8_5
    have ht : i.tmod 64 = i % 64 := Int.tmod_eq_emod_of_nonneg hi
    cases hd : decide (k < i.tmod 64) with
    | true =>
      have hlt : k < i.tmod 64 := by simpa using hd
      simp only [cond_true]
      have hq : x.tdiv 2 = x / 2 := Int.tdiv_eq_ediv_of_nonneg hx
      rw [hq, wu64 _ (by omega) (by omega), wi64 _ (by omega) (by omega)]
      rw [w8 N x1 i hi hi' n (x / 2) (k + 1) (by omega) (by omega) (by omega) (by omega) (by omega)]
      congr 1
      have : (i.tmod 64 - k).toNat = (i.tmod 64 - (k + 1)).toNat + 1 := by omega
      rw [this, Int.pow_succ, Int.mul_comm, Int.ediv_ediv_of_nonneg (by decide)]
    | false =>
      have hlt : ¬ k < i.tmod 64 := by simpa using hd
      simp only [cond_false]
      have : (i.tmod 64 - k).toNat = 0 := by omega
      rw [this]; simp

theorem bit_eq (x : Int) (hx : 0 ≤ x) (k : Nat) : ((x / 2 ^ k).tmod 2 == 1) = x.toNat.testBit k := by
  obtain ⟨n, rfl⟩ := Int.eq_ofNat_of_zero_le hx
  have h1 : ((n : Int) / 2 ^ k) = ((n / 2 ^ k : Nat) : Int) := by simp
  rw [h1, Int.tmod_eq_emod_of_nonneg (Int.natCast_nonneg _)]
  simp only [Int.toNat_natCast, Nat.testBit, Nat.shiftRight_eq_div_pow, Nat.one_and_eq_mod_two]
  have h2 : (((n / 2 ^ k : Nat) : Int) % 2) = ((n / 2 ^ k % 2 : Nat) : Int) := by simp
  rw [h2]
  rcases Nat.mod_two_eq_zero_or_one (n / 2 ^ k) with h | h <;> rw [h] <;> rfl

theorem plain8 (l : List Int) (i : Int) (h : pre8 l i = true) : F8 100 l i = some (v8 l i, ()) := by
  simp only [pre8, Bool.and_eq_true, okI_iff] at h
  obtain ⟨hl, hi0, hi1⟩ := h
  have hlen := okL_len hl
  unfold F8 v8 has
  cases h1 : decide (i < (0 : Int)) with
  | true => simp at h1; simp; omega
  | false =>
    simp at h1
    cases h2 : decide (i > (4095 : Int)) with
    | true => simp at h2; simp; omega
    | false =>
      simp at h2
      have hq : i.tdiv 64 = i / 64 := Int.tdiv_eq_ediv_of_nonneg h1
      have hn : i.toNat / 64 = (i / 64).toNat := by omega
      have hm : i.toNat % 64 = (i % 64).toNat := by omega
      rw [hq, wi64 _ (by omega) (by omega), hn, hm]
      cases h3 : decide (i / 64 ≥ (l.length : Int)) with
      | true => simp at h3; simp; omega
      | false =>
        have h3' : i / 64 < (l.length : Int) := by simpa using h3
        have h4 : (decide ((0 : Int) ≤ i / 64) && decide (i / 64 < (l.length : Int))) = true := by simp; omega
        simp only [cond_false, h4, cond_true]
        have hg := okL_get hl (i := (i / 64).toNat) (by omega)
        have ht : i.tmod 64 = i % 64 := Int.tmod_eq_emod_of_nonneg h1
        rw [w8 100 _ i h1 h2 100 _ 0 (by omega) (by omega) (by omega) hg.1 hg.2, Int.sub_zero, ht, bit_eq _ hg.1]
        have h5 : decide (0 ≤ i ∧ i < 4096 ∧ (i / 64).toNat < l.length) = true := by simp; omega
        rw [h5, Bool.true_and]

theorem plain10 (l : List Int) (i : Int) (N : Nat) (h : pre10 l i = true) : F10 N l i = some (v10 l i, ()) := by
  simp only [pre10, Bool.and_eq_true, okI_iff] at h
  obtain ⟨hl, hi0, hi1⟩ := h
  have hlen := okL_len hl
  unfold F10 v10 v14 has
  cases h1 : decide (0 ≤ i ∧ i < 4096) with
  | false => simp at h1; simp; intro a b; omega
  | true =>
    simp at h1
    have hq : i.tdiv 64 = i / 64 := Int.tdiv_eq_ediv_of_nonneg h1.1
    have hn : i.toNat / 64 = (i / 64).toNat := by omega
    have hm : i.toNat % 64 = (i % 64).toNat := by omega
    have ht : i.tmod 64 = i % 64 := Int.tmod_eq_emod_of_nonneg h1.1
    rw [hq, wi64 _ (by omega) (by omega), hn, hm, ht, wu64 (i % 64) (by omega) (by omega)]
    cases h3 : decide (i / 64 < (l.length : Int)) with
    | false => simp at h3; simp; omega
    | true =>
      have h3' : i / 64 < (l.length : Int) := by simpa using h3
      have h4 : (decide ((0 : Int) ≤ i / 64)) = true := by simp; omega
      have h6 : decide (i % 64 < (0 : Int)) = false := by simp; omega
      have hg := okL_get hl (i := (i / 64).toNat) (by omega)
      have h5 : decide (0 ≤ i ∧ i < 4096 ∧ (i / 64).toNat < l.length) = true := by simp; omega
      simp only [cond_true, h4, h6, cond_false, Bool.true_and, h5]
      generalize l.getD (i / 64).toNat 0 = x at hg
      obtain ⟨n, rfl⟩ := Int.eq_ofNat_of_zero_le hg.1
      have hmin : Min.min (i % 64).toNat (IntKind.bits .u64) = (i % 64).toNat := by
        show Nat.min _ 64 = _
        exact Nat.min_eq_left (by omega)
      rw [hmin, Int.fdiv_eq_ediv_of_nonneg _ (by exact Int.le_of_lt (Int.pow_pos (by decide)))]
      have hle : (n : Int) / 2 ^ (i % 64).toNat ≤ n := Int.ediv_le_self _ (by omega)
      have hnn : 0 ≤ (n : Int) / 2 ^ (i % 64).toNat := Int.ediv_nonneg (by omega) (Int.le_of_lt (Int.pow_pos (by decide)))
      rw [and_u64 hnn (by omega) (by decide) (by decide), ← bit_eq _ (by omega)]
      congr 2
      have e1 : (((n : Int) / 2 ^ (i % 64).toNat).toNat &&& (1 : Int).toNat : Nat) = ((n : Int) / 2 ^ (i % 64).toNat).toNat % 2 := Nat.and_one_is_mod _
      rw [e1, Int.tmod_eq_emod_of_nonneg hnn]
      have e2 : ((((n : Int) / 2 ^ (i % 64).toNat).toNat % 2 : Nat) : Int) = (n : Int) / 2 ^ (i % 64).toNat % 2 := by omega
      rw [e2]
end Go.L21
