/- Own text of this session: a part of the proof; no condition of its own. -/
import Derived.Test.YtklcmhpgjcghkaaQ
set_option linter.unusedVariables false
set_option linter.unusedSimpArgs false
set_option maxRecDepth 100000
namespace Go.L23a
open Go Go.Abs Go.Inc
theorem apartL_app (n : Nat) : ∀ (a b seen : List Int), apartL n seen (a ++ b) = (apartL n seen a && apartL n (a.reverse ++ seen) b)
  | [], b, seen => by simp [apartL]
  | x :: a, b, seen => by
    rw [List.cons_append, apartL, apartL, apartL_app n a b (x :: seen), List.reverse_cons, List.append_assoc, List.singleton_append]
    cases (decide (0 ≤ x) && decide (x < (n : Int))) <;> cases seen.contains x <;> simp
theorem apartL_in (n : Nat) : ∀ (l seen : List Int), apartL n seen l = true → ∀ i ∈ l, 0 ≤ i ∧ i < (n : Int)
  | [], _, _, i, h => by cases h
  | x :: l, seen, h, i, hi => by
    simp only [apartL, Bool.and_eq_true, decide_eq_true_eq] at h
    rcases List.mem_cons.1 hi with rfl | hi
    · exact h.1
    · exact apartL_in n l (x :: seen) h.2.2 i hi
def inv (n : Nat) (c seen : List Int) : Prop := c.length = n ∧ ∀ x : Nat, x < n → c.getD x 0 = bif seen.contains (x : Int) then 1 else 0
theorem inv_set {n : Nat} {c seen : List Int} (h : inv n c seen) {x : Nat} (hx : x < n) : inv n (c.set x 1) ((x : Int) :: seen) := by
  refine ⟨by rw [List.length_set]; exact h.1, fun y hy => ?_⟩
  rw [List.contains_cons]
  by_cases e : y = x
  · subst e
    rw [List.getD_eq_getElem?_getD, List.getElem?_set_self (by rw [h.1]; exact hy), beq_self_eq_true]; rfl
  · have e' : ((y : Int) == (x : Int)) = false := beq_false_of_ne (by omega)
    rw [List.getD_eq_getElem?_getD, List.getElem?_set_ne (by omega), ← List.getD_eq_getElem?_getD, h.2 y hy, e', Bool.false_or]
theorem w8_6 (N : Nat) {β : Type} (x0 : Bool → Option β) (x3 : Int → Nat → List Int → List (List Int) → Int → Int → Option β) (m : Nat) (a : List (List Int)) (b d : Int) (l : List Int) (hs : l.length ≤ 1000) : ∀ (n k : Nat) (seen c : List Int), l.length - k < n → inv m c seen →
    (apartL m seen (l.drop k) = false ∧ W8_6 N x0 x3 n (m : Int) m c a b d l (l.length : Int) (k : Int) = x0 false) ∨
    (apartL m seen (l.drop k) = true ∧ ∃ c', inv m c' ((l.drop k).reverse ++ seen) ∧ W8_6 N x0 x3 n (m : Int) m c a b d l (l.length : Int) (k : Int) = x3 (m : Int) m c' a b d)
  | 0, k, _, _, h, _ => by omega
  | n + 1, k, seen, c, h, hi => by
    unfold W8_6
    by_cases hd : k < l.length
    · rw [cond_dec (by omega), cond_t (in_dec hd), Int.toNat_natCast, drop_getD (d := (0 : Int)) hd, wi64 ((k : Int) + 1) (by omega) (by omega), show ((k : Int) + 1) = ((k + 1 : Nat) : Int) by omega]
      generalize l.getD k 0 = v
      rw [apartL]
      by_cases h0 : v < 0
      · rw [cond_dec h0, decide_eq_false (show ¬ 0 ≤ v by omega)]; exact .inl ⟨rfl, rfl⟩
      · by_cases h1 : v ≥ (m : Int)
        · rw [cond_dec' h0, cond_dec h1, decide_eq_false (show ¬ v < (m : Int) by omega), Bool.and_false]; exact .inl ⟨rfl, rfl⟩
        · obtain ⟨x, rfl⟩ : ∃ x : Nat, v = (x : Int) := ⟨v.toNat, by omega⟩
          have hx : x < m := by omega
          have hc := hi.2 x hx
          have hin : (decide ((0 : Int) ≤ (x : Int)) && decide ((x : Int) < (m : Int))) = true := in_dec hx
          rw [cond_dec' h0, cond_dec' h1, Int.toNat_natCast, hin, cond_dec (show x < c.length by rw [hi.1]; exact hx), hc]
          cases hcs : seen.contains (x : Int) with
          | true => exact .inl ⟨rfl, rfl⟩
          | false =>
            simp only [cond_false, Bool.not_false, Bool.true_and, cond_true]
            rw [cond_dec' (show ¬ (0 : Int) > 0 by omega), cond_dec (show x < c.length by rw [hi.1]; exact hx), cond_dec (show x < c.length by rw [hi.1]; exact hx), wi64 (0 + 1) (by omega) (by omega)]
            have ih := w8_6 N x0 x3 m a b d l hs n (k + 1) ((x : Int) :: seen) (c.set x 1) (by omega) (inv_set hi hx)
            rw [List.reverse_cons, List.append_assoc, List.singleton_append]
            exact ih
    · rw [cond_dec' (by omega), List.drop_eq_nil_of_le (by omega)]
      exact .inr ⟨rfl, c, hi, rfl⟩
theorem w8_3 (N : Nat) (hN : 1001 ≤ N) {β : Type} (x0 : Bool → Option β) (x1 : Unit → Option β) (m : Nat) (a : List (List Int)) (ha : a.length ≤ 1000) (hs : ∀ l ∈ a, l.length ≤ 1000) : ∀ (n k : Nat) (seen c : List Int), a.length - k < n → inv m c seen →
    W8_3 N x0 x1 n (m : Int) m c a (a.length : Int) (k : Int) = bif apartL m seen (a.drop k).flatten then x1 () else x0 false
  | 0, k, _, _, h, _ => by omega
  | n + 1, k, seen, c, h, hi => by
    unfold W8_3
    by_cases hd : k < a.length
    · have hl := hs _ (getD_mem (d := ([] : List Int)) hd)
      rw [cond_dec (by omega), cond_t (in_dec hd), Int.toNat_natCast, drop_getD (d := ([] : List Int)) hd, List.flatten_cons, apartL_app]
      generalize a.getD k [] = l at hl
      rcases w8_6 N (fun t4 => x0 t4) (fun t0 t5 b11 t12 t13 t14 => W8_3 N x0 x1 n t0 t5 b11 t12 t13 (Go.IntKind.wrap .i64 (t14 + (1 : Int)))) m a (a.length : Int) (k : Int) l hl N 0 seen c (by omega) hi with ⟨e1, e2⟩ | ⟨e1, c', hi', e2⟩
      · rw [List.drop_zero] at e1
        rw [e1]; exact e2
      · rw [List.drop_zero] at e1 hi'
        rw [e1]
        refine Eq.trans e2 ?_
        rw [wi64 _ (by omega) (by omega), show ((k : Int) + 1) = ((k + 1 : Nat) : Int) by omega]
        exact w8_3 N hN x0 x1 m a ha hs n (k + 1) _ c' (by omega) hi'
    · rw [cond_dec' (by omega), List.drop_eq_nil_of_le (by omega)]; rfl
theorem okApart_iff {n : Int} {a : List (List Int)} : okApart n a = true ↔ (0 ≤ n ∧ n ≤ 1000) ∧ a.length ≤ 1000 ∧ ∀ l ∈ a, l.length ≤ 1000 := by
  simp only [okApart, Bool.and_eq_true, decide_eq_true_eq, List.all_eq_true]
def fuel8 (n : Int) (a : List (List Int)) : Nat := 1001
theorem plain8 (n : Int) (a : List (List Int)) (h : okApart n a = true) : F8 (fuel8 n a) n a = some (apartGo n a, ()) := by
  obtain ⟨⟨h1, h2⟩, h3, h4⟩ := okApart_iff.1 h
  obtain ⟨m, rfl⟩ : ∃ m : Nat, n = (m : Int) := ⟨n.toNat, by omega⟩
  unfold F8 apartGo
  rw [Int.toNat_natCast, cond_t (by simp; omega)]
  have hw := w8_3 (β := Bool × Unit) (fuel8 (m : Int) a) (by unfold fuel8; omega) (fun t4 => some (t4, ())) (fun _ => some (true, ())) m a h3 h4 (fuel8 (m : Int) a) 0 [] (List.replicate m 0) (by unfold fuel8; omega)
    ⟨List.length_replicate, fun x hx => by rw [List.getD_eq_getElem?_getD, List.getElem?_replicate_of_lt hx]; rfl⟩
  rw [show ((0 : Nat) : Int) = 0 from rfl, List.drop_zero] at hw
  refine Eq.trans hw ?_
  cases apartL m [] a.flatten <;> rfl
theorem flat_len : ∀ (a : List (List Int)), (∀ l ∈ a, l.length ≤ 1000) → a.flatten.length ≤ a.length * 1000
  | [], _ => by simp
  | l :: a, h => by
    rw [List.flatten_cons, List.length_append, List.length_cons]
    have h1 := h l List.mem_cons_self
    have h2 := flat_len a (fun l hl => h l (List.mem_cons_of_mem _ hl))
    omega
def fuel5 (ops : List OpD) (a : List (List Int)) : Nat := a.flatten.length + 1001
theorem plain5 (ops : List OpD) (a : List (List Int)) (h : okAll ops a = true) : F5 (fuel5 ops a) ops a = some (mergeAll ops a) := by
  simp only [okAll, Bool.and_eq_true, decide_eq_true_eq] at h
  obtain ⟨_, h3, h4⟩ := okApart_iff.1 h.2
  have hfl := flat_len a h4
  unfold F5 mergeAll
  rw [h.2]
  cases hap : apartGo (ops.length : Int) a with
  | false => rfl
  | true =>
    simp only [Bool.not_true, cond_false, cond_true]
    rw [cond_dec (by omega)]
    have hL : okLeft ops a := ⟨h3, fun l hl => ⟨h4 l hl, fun k hk => by
      have := apartL_in _ _ _ hap k (List.mem_flatten.2 ⟨l, hl, hk⟩)
      rw [Int.toNat_natCast] at this
      simp only [inO, Bool.and_eq_true, decide_eq_true_eq]; exact this⟩⟩
    refine Eq.trans (w5_6 (fuel5 ops a) (by unfold fuel5; omega) (fun t4 t5 => some (t4, (t5, ()))) ops (a.flatten.length + 1) (fuel5 ops a) a [] hL (by omega) (by unfold fuel5; omega) (by simp only [List.length_nil]; omega)) ?_
    rfl
def fuel4 : Nat := 0
theorem plain4 (_ : true = true) : F4 0 = some (true, ()) := by kernel_rfl

end Go.L23a
