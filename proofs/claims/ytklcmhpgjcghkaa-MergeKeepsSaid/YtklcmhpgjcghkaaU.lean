/- Own text of this session: a part of the proof; no condition of its own. -/
import Derived.Test.YtklcmhpgjcghkaaT
set_option linter.unusedVariables false
set_option linter.unusedSimpArgs false
set_option maxRecDepth 100000
namespace Go.L23a
open Go Go.Abs Go.Inc
theorem mergeGo_ok (ops : List OpD) (a : List (List Int)) : ∀ (f : Nat) (left : List (List Int)) (out : List Int), Mid ops a left out →
    ((mergeGo ops f left out).2.1 = false ∧ (mergeGo ops f left out).1 = []) ∨ ((mergeGo ops f left out).2.1 = true ∧ ∃ left', left'.flatten = [] ∧ Mid ops a left' (mergeGo ops f left out).1)
  | 0, _, _, _ => .inl ⟨rfl, rfl⟩
  | f + 1, left, out, h => by
    unfold mergeGo
    have hok := bestK_ok0 ops left
    have hfr := bestK_free ops left left 0 (-1) false (fun i _ => by rw [Nat.zero_add]) (.inl (by omega))
    have hno := bestK_none ops left left 0 (-1) false
    generalize bestK ops left 0 left (-1) false = bs at hok hfr hno
    obtain ⟨best, s⟩ := bs
    simp only at hok hfr hno ⊢
    cases s with
    | false => exact .inr ⟨rfl, left, (hno rfl).2, h⟩
    | true =>
      by_cases hneg : best < 0
      · rw [decide_eq_true hneg]; exact .inl ⟨rfl, rfl⟩
      · rw [decide_eq_false hneg]
        obtain ⟨_, q2, q3⟩ := hok.resolve_left hneg
        exact mergeGo_ok ops a f _ _ (h.step q2 q3 (hfr.resolve_left hneg))
theorem sub_ne {x y : Int} {l r : List Int} (h : x ≠ y) (hs : List.Sublist (x :: l) (y :: r)) : List.Sublist (x :: l) r := by
  cases hs with
  | cons _ h' => exact h'
  | cons_cons _ h' => exact absurd rfl h
theorem w3_21 (N : Nat) {β : Type} (x5 : List OpD → Int → List Int → List Int → Int → List (List Int) → Int → Int → Option β) (ops : List OpD) (s : Int) (t8 l : List Int) (a : List (List Int)) (c d : Int) (out : List Int) (hs : out.length ≤ 1000000) (hl : l.length ≤ 1000000) : ∀ (n q k : Nat), out.length - q < n → k ≤ l.length → List.Sublist (l.drop k) (out.drop q) →
    W3_21 N x5 n ops s t8 l (k : Int) a c d out (out.length : Int) (q : Int) = x5 ops s t8 l (l.length : Int) a c d
  | 0, _, _, h, _, _ => by omega
  | n + 1, q, k, h, hk, hsub => by
    unfold W3_21
    by_cases hd : q < out.length
    · have ih := fun k' hk' hs' => w3_21 N x5 ops s t8 l a c d out hs hl n (q + 1) k' (by omega) hk' hs'
      rw [drop_getD (d := (0 : Int)) hd] at hsub
      rw [cond_dec (by omega), cond_t (in_dec hd), Int.toNat_natCast, wi64 ((q : Int) + 1) (by omega) (by omega), show ((q : Int) + 1) = ((q + 1 : Nat) : Int) by omega]
      by_cases hkl : k < l.length
      · rw [drop_getD (d := (0 : Int)) hkl] at hsub
        rw [cond_dec (by omega), cond_t (in_dec hkl), Int.toNat_natCast, wi64 ((k : Int) + 1) (by omega) (by omega), show ((k : Int) + 1) = ((k + 1 : Nat) : Int) by omega]
        by_cases he : l.getD k 0 = out.getD q 0
        · rw [he] at hsub ⊢
          rw [beq_self_eq_true, cond_true]
          exact ih (k + 1) (by omega) (List.cons_sublist_cons.1 hsub)
        · rw [beq_false_of_ne he, cond_false]
          refine ih k hk ?_
          rw [drop_getD (d := (0 : Int)) hkl]
          exact sub_ne he hsub
      · rw [cond_dec' (by omega)]
        refine ih k hk ?_
        rw [List.drop_eq_nil_of_le (by omega)]; exact List.nil_sublist _
    · rw [cond_dec' (by omega)]
      rw [List.drop_eq_nil_of_le (show out.length ≤ q by omega)] at hsub
      have := List.eq_nil_of_sublist_nil hsub
      have := List.drop_eq_nil_iff.1 this
      rw [show k = l.length by omega]
theorem w3_17 (N : Nat) {β : Type} (x0 : Bool → Option β) (x3 : List OpD → Int → List Int → Option β) (ops : List OpD) (s : Int) (out : List Int) (a : List (List Int)) (hs : out.length ≤ 1000000) (hN : out.length < N) (ha : a.length ≤ 1000) (hl : ∀ l ∈ a, l.length ≤ 1000) (hsub : ∀ l ∈ a, List.Sublist l out) : ∀ (n k : Nat), a.length - k < n →
    W3_17 N x0 x3 n ops s out a (a.length : Int) (k : Int) = x3 ops s out
  | 0, _, h => by omega
  | n + 1, k, h => by
    unfold W3_17
    by_cases hd : k < a.length
    · have hm := getD_mem (d := ([] : List Int)) hd
      rw [cond_dec (by omega), cond_t (in_dec hd), Int.toNat_natCast]
      generalize a.getD k [] = l at hm
      have h1 := hl l hm
      refine Eq.trans (w3_21 N _ ops s out l a _ _ out hs (by omega) N 0 0 (by omega) (by omega) (by rw [List.drop_zero, List.drop_zero]; exact hsub l hm)) ?_
      rw [cond_dec' (by omega), wi64 ((k : Int) + 1) (by omega) (by omega), show ((k : Int) + 1) = ((k + 1 : Nat) : Int) by omega]
      exact w3_17 N x0 x3 ops s out a hs hN ha hl hsub n (k + 1) (by omega)
    · rw [cond_dec' (by omega)]

end Go.L23a
