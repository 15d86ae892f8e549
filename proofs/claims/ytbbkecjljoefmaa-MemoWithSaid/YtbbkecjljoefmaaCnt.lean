/- Own text of this session: a part of the proof; no condition of its own. -/
import Derived.Test.YtbbkecjljoefmaaPop
import Derived.Test.YtbbkecjljoefmaaLaw1
set_option linter.unusedVariables false
namespace Go.L21
open Go Go.Abs

theorem ones_le : ∀ (n x : Nat), x < 2 ^ n → ones x ≤ n
  | 0, x, h => by
    have : x = 0 := by simpa using h
    rw [this, ones]; omega
  | n + 1, x, h => by
    rw [ones_eq]
    have := ones_le n (x / 2) (by rw [Nat.pow_succ] at h; omega)
    omega

theorem w12_6 (N r : Nat) {β : Type} (x3 : List Int → Int → Int → Option β) (l : List Int) (k : Int) : ∀ (n : Nat) (acc : Int) (x : Nat), x < 2 ^ n → x < 2 ^ 64 → 0 ≤ acc → acc + n ≤ 9223372036854775807 →
    W12_6 N x3 (r + n + 1) l acc k (x : Int) = x3 l (acc + (ones x : Nat)) k
  | 0, acc, x, h, _, h0, h1 => by
    have : x = 0 := by simpa using h
    subst this
    unfold W12_6
    rw [show ones 0 = 0 by rw [ones]]; simp
  | n + 1, acc, x, h, hx, h0, h1 => by
    unfold W12_6
    cases hd : decide ((x : Int) > 0) with
    | false =>
      have : x = 0 := by simp at hd; omega
      subst this
      rw [show ones 0 = 0 by rw [ones]]; simp
    | true =>
      rw [cond_true]
      have e1 : Int.tmod (x : Int) 2 = ((x % 2 : Nat) : Int) := by rw [Int.tmod_eq_emod_of_nonneg (by omega)]; omega
      have e2 : Int.tdiv (x : Int) 2 = ((x / 2 : Nat) : Int) := by rw [Int.tdiv_eq_ediv_of_nonneg (by omega)]; omega
      rw [e1, e2, wi64 ((x % 2 : Nat) : Int) (by omega) (by omega), wi64 _ (by omega) (by omega), wu64 _ (by omega) (by omega),
        show r + (n + 1) = r + n + 1 from rfl, w12_6 N r x3 l k n _ (x / 2) (by rw [Nat.pow_succ] at h; omega) (by omega) (by omega) (by omega)]
      congr 1
      have := ones_eq x
      omega

def cnt (l : List Int) : Nat := (l.map fun x => ones x.toNat).sum
theorem cnt_le : ∀ {l : List Int}, (∀ x ∈ l, 0 ≤ x ∧ x ≤ 18446744073709551615) → cnt l ≤ l.length * 64
  | [], _ => by simp [cnt]
  | x :: l, h => by
    have h1 := cnt_le (l := l) (fun y hy => h y (List.mem_cons_of_mem _ hy))
    have h2 := h x (List.mem_cons_self ..)
    have h3 := ones_le 64 x.toNat (by omega)
    simp only [cnt, List.map_cons, List.sum_cons, List.length_cons] at *
    omega

theorem drop_cons {l : List Int} {k : Nat} (h : k < l.length) : l.drop k = l.getD k 0 :: l.drop (k + 1) := by
  rw [List.getD_eq_getElem?_getD, List.getElem?_eq_getElem h, Option.getD_some]
  exact List.drop_eq_getElem_cons h

theorem cnt_drop {l : List Int} {k : Nat} (h : k < l.length) : cnt (l.drop k) = ones (l.getD k 0).toNat + cnt (l.drop (k + 1)) := by
  rw [drop_cons h]; simp [cnt]

theorem w12_3 (N : Nat) (hN : 66 ≤ N) {β : Type} (x1 : Int → Option β) (l : List Int) (hl : ∀ x ∈ l, 0 ≤ x ∧ x ≤ 18446744073709551615) (hn : l.length ≤ 1000) :
    ∀ (n : Nat) (acc : Int) (k : Nat), l.length - k < n → 0 ≤ acc → acc ≤ k * 64 → k ≤ l.length → W12_3 N x1 n l acc (k : Int) = x1 (acc + (cnt (l.drop k) : Nat))
  | 0, _, _, h, _, _, _ => by omega
  | n + 1, acc, k, h, h0, h1, hk => by
    unfold W12_3
    cases hd : decide ((k : Int) < ((l.length : Nat) : Int)) with
    | false =>
      have : ¬ k < l.length := by simpa using hd
      rw [cond_false, List.drop_eq_nil_of_le (by omega)]; simp [cnt]
    | true =>
      have hk : k < l.length := by simpa using hd
      have hg : 0 ≤ l.getD k 0 ∧ l.getD k 0 ≤ 18446744073709551615 := by
        rw [List.getD_eq_getElem?_getD, List.getElem?_eq_getElem hk]; exact hl _ (List.getElem_mem hk)
      have e0 : (decide ((0 : Int) ≤ (k : Int)) && true) = true := by simp
      rw [cond_true, e0, cond_true]
      obtain ⟨x, hx⟩ := Int.eq_ofNat_of_zero_le hg.1
      rw [Int.toNat_natCast, hx]
      obtain ⟨M, hM⟩ : ∃ M, N = M + 64 + 1 := ⟨N - 65, by omega⟩
      have hx2 : x < 2 ^ 64 := by omega
      have ho := ones_le 64 x hx2
      have hw := fun x3 => w12_6 (β := β) N M x3 l k 64 acc x hx2 hx2 h0 (by omega)
      rw [← hM] at hw
      rw [hw, wi64 _ (by omega) (by omega), show ((k : Int) + 1) = ((k + 1 : Nat) : Int) by omega,
        w12_3 N hN x1 l hl hn n _ (k + 1) (by omega) (by omega) (by omega) (by omega), cnt_drop hk, hx]
      congr 1
      simp only [Int.toNat_natCast]
      omega

theorem v12_eq (l : List Int) : v12 l = (cnt l : Nat) := rfl

theorem plain12 (l : List Int) (h : pre12 l = true) : F12 1100 l = some (v12 l, ()) := by
  simp only [pre12, Bool.and_eq_true, decide_eq_true_eq] at h
  unfold F12
  have := w12_3 1100 (by decide) (fun t3 => some (t3, ())) l (okL_iff.1 h.1).2 h.2 1100 0 0 (by omega) (by omega) (by omega) (by omega)
  rw [show ((0 : Nat) : Int) = 0 from rfl] at this
  rw [this, v12_eq, List.drop_zero, Int.zero_add]

theorem w11_3 (N : Nat) {β : Type} (x1 : Int → Option β) (l : List Int) (hl : ∀ x ∈ l, 0 ≤ x ∧ x ≤ 18446744073709551615) (hn : l.length ≤ 1000) :
    ∀ (n : Nat) (acc : Int) (k : Nat), l.length - k < n → 0 ≤ acc → acc ≤ k * 64 → k ≤ l.length → W11_3 N x1 n acc l (l.length : Int) (k : Int) = x1 (acc + (cnt (l.drop k) : Nat))
  | 0, _, _, h, _, _, _ => by omega
  | n + 1, acc, k, h, h0, h1, hk => by
    unfold W11_3
    cases hd : decide ((k : Int) < ((l.length : Nat) : Int)) with
    | false =>
      have : ¬ k < l.length := by simpa using hd
      rw [cond_false, List.drop_eq_nil_of_le (by omega)]; simp [cnt]
    | true =>
      have hk : k < l.length := by simpa using hd
      have hg : 0 ≤ l.getD k 0 ∧ l.getD k 0 ≤ 18446744073709551615 := by
        rw [List.getD_eq_getElem?_getD, List.getElem?_eq_getElem hk]; exact hl _ (List.getElem_mem hk)
      have e0 : (decide ((0 : Int) ≤ (k : Int)) && true) = true := by simp
      have e1 : pre16 (l.getD k 0) = true := by unfold pre16 wfD; exact wf_u64.2 hg
      rw [cond_true, e0, cond_true, Int.toNat_natCast, e1, cond_true]
      have ho := ones_le 64 (l.getD k 0).toNat (by omega)
      unfold v16
      rw [wi64 _ (by omega) (by omega), wi64 _ (by omega) (by omega), show ((k : Int) + 1) = ((k + 1 : Nat) : Int) by omega,
        w11_3 N x1 l hl hn n _ (k + 1) (by omega) (by omega) (by omega) (by omega), cnt_drop hk]
      congr 1
      omega

theorem plain11 (l : List Int) (h : pre11 l = true) : F11 1100 l = some (v11 l, ()) := by
  simp only [pre11, Bool.and_eq_true, decide_eq_true_eq] at h
  unfold F11
  have := w11_3 1100 (fun t3 => some (t3, ())) l (okL_iff.1 h.1).2 h.2 1100 0 0 (by omega) (by omega) (by omega) (by omega)
  rw [show ((0 : Nat) : Int) = 0 from rfl] at this
  rw [this, List.drop_zero, Int.zero_add]
  rfl

theorem plain5 (N : Nat) : F5 N = some (v5, ()) := by
  unfold F5
  have : (List.getD (v7 ([] : List Int) (65 : Int)) (Int.toNat (1 : Int)) (0 : Int)) = 2 := by decide
  rw [this]; rfl

theorem plain4 (l : List Int) (i : Int) (N : Nat) (h : pre4 l i = true) : F4 N l i = some (v4 l i, ()) := by
  simp only [pre4, Bool.and_eq_true] at h
  unfold F4
  cases h6 : v6 l with
  | true => rfl
  | false =>
    have hn : l.length ≤ 100 := by simpa [v6] using h6
    have h10 : pre10 l i = true := by simp [pre10, h]
    have h8 : pre8 l i = true := by simp [pre8, h]
    have h11 : pre11 l = true := by simp [pre11, h]; omega
    have h12 : pre12 l = true := by simp [pre12, h]; omega
    rw [h10, h8, h11, h12]
    simp [v10, v8, v11, v12, v4]

theorem w3_8 (N : Nat) {β : Type} (x0 : Bool → Option β) (x1 : List Int → Int → Int → List Int → Option β) (l : List Int) (i k : Int) (m : List Int) (hl : (l.length : Int) ≤ 9223372036854775806) :
    ∀ (n j : Nat), l.length - j < n → W3_8 N x0 x1 n l i k l m (l.length : Int) (j : Int) = x1 l i k m
  | 0, j, h => by omega
  | n + 1, j, h => by
    unfold W3_8
    cases hd : decide ((j : Int) < ((l.length : Nat) : Int)) with
    | false => rfl
    | true =>
      have hk : j < l.length := by simpa using hd
      have e0 : (decide ((0 : Int) ≤ (j : Int)) && true) = true := by simp
      rw [cond_true, e0, cond_true, cond_true, bne_self_eq_false, cond_false, wi64 _ (by omega) (by omega), show ((j : Int) + 1) = ((j + 1 : Nat) : Int) by omega,
        w3_8 N x0 x1 l i k m hl n (j + 1) (by omega)]

theorem plain3 (l : List Int) (i k : Int) (h : pre3 l i k = true) : F3 200 l i k = some (v3 l i k, ()) := by
  simp only [pre3, Bool.and_eq_true] at h
  obtain ⟨⟨hl, hi⟩, hk⟩ := h
  unfold F3
  cases h6 : v6 l with
  | true => rfl
  | false =>
    have hn : l.length ≤ 100 := by simpa [v6] using h6
    have e1 : decide ((List.length ([] : List Int) + l.length) * 8 ≤ 140737488351232) = true := by simp; omega
    have e2 : pre7 ([] ++ l) i = true := by simp [pre7, hl, hi]; omega
    have hm : okL (with' l i) = true := okL_with hl hn
    have p1 : pre8 (with' l i) i = true := by simp [pre8, hm, hi]
    have p2 : pre8 (with' l i) k = true := by simp [pre8, hm, hk]
    have p3 : pre8 l k = true := by simp [pre8, hl, hk]
    have p4 : pre9 (with' l i) l = true := by simp [pre9, hm, hl]
    have q1 : v8 (with' l i) i = decide (0 ≤ i ∧ i < 4096) := has_with
    have q2 : k ≠ i → v8 (with' l i) k = v8 l k := has_other
    have q3 : ¬ (0 ≤ i ∧ i < 4096) → v9 (with' l i) l = true := fun h => by rw [with_out h]; exact same_self l
    have hq : 0 ≤ i → Int.tdiv i 64 = i / 64 := fun h => Int.tdiv_eq_ediv_of_nonneg h
    rw [cond_false, e1, cond_true, e2, cond_true]
    have hw := fun x0 x1 => w3_8 (β := Bool × Unit) 200 x0 x1 l i k (with' l i) (by omega) 200 0 (by omega)
    rw [show ((0 : Nat) : Int) = 0 from rfl] at hw
    rw [List.nil_append, show v7 l i = with' l i from rfl, hw]
    simp only [p1, p2, p3, p4, cond_true, q1]
    have hb : -9223372036854775808 ≤ i ∧ i ≤ 9223372036854775807 := okI_iff.1 hi
    have hlen : 0 ≤ i → i < 4096 → (with' l i).length = max l.length (i.toNat / 64 + 1) := fun a b => with_len a b
    have hlen' : ¬ (0 ≤ i ∧ i < 4096) → (with' l i).length = l.length := fun h => by rw [with_out h]
    by_cases a1 : 0 ≤ i
    · by_cases a2 : i < 4096
      · have hl2 := hlen a1 a2
        have hw64 : IntKind.wrap .i64 (i / 64) = i / 64 := wi64 _ (by omega) (by omega)
        have hw65 : IntKind.wrap .i64 (i / 64 + 1) = i / 64 + 1 := wi64 _ (by omega) (by omega)
        rw [hq a1, hw64, hw65]
        have d1 : decide (i ≥ 0) = true := by simpa using a1
        have d2 : decide (i < 4096) = true := by simpa using a2
        have d3 : decide (0 ≤ i ∧ i < 4096) = true := by simp [a1, a2]
        rw [d1, d2, d3]
        simp only [cond_true, beq_self_eq_true]
        by_cases a3 : i / 64 ≥ (l.length : Int)
        · have d4 : decide (i / 64 ≥ (l.length : Int)) = true := by simpa using a3
          have d5 : (((with' l i).length : Int) == i / 64 + 1) = true := by simp; omega
          rw [d4, d5]
          by_cases a4 : k = i
          · subst a4; simp [v3]
          · have d6 : (k == i) = false := by simpa using a4
            rw [d6, q2 a4]; simp [v3]
        · have d4 : decide (i / 64 ≥ (l.length : Int)) = false := by simpa using a3
          have d5 : (((with' l i).length : Int) == (l.length : Int)) = true := by simp; omega
          rw [d4, d5]
          by_cases a4 : k = i
          · subst a4; simp [v3]
          · have d6 : (k == i) = false := by simpa using a4
            rw [d6, q2 a4]; simp [v3]
      · have d0 : ¬ (0 ≤ i ∧ i < 4096) := by omega
        have d1 : decide (i ≥ 0) = true := by simpa using a1
        have d2 : decide (i < 4096) = false := by simpa using a2
        have d3 : decide (0 ≤ i ∧ i < 4096) = false := by simpa using d0
        have d5 : (((with' l i).length : Int) == (l.length : Int)) = true := by rw [hlen' d0]; simp
        rw [d1, d2, d3, d5, q3 d0]
        by_cases a4 : k = i
        · subst a4; simp [v3]
        · have d6 : (k == i) = false := by simpa using a4
          rw [d6, q2 a4]; simp [v3]
    · have d0 : ¬ (0 ≤ i ∧ i < 4096) := by omega
      have d1 : decide (i ≥ 0) = false := by simpa using a1
      have d3 : decide (0 ≤ i ∧ i < 4096) = false := by simpa using d0
      have d5 : (((with' l i).length : Int) == (l.length : Int)) = true := by rw [hlen' d0]; simp
      rw [d1, d3, d5, q3 d0]
      by_cases a4 : k = i
      · subst a4; simp [v3]
      · have d6 : (k == i) = false := by simpa using a4
        rw [d6, q2 a4]; simp [v3]
end Go.L21
