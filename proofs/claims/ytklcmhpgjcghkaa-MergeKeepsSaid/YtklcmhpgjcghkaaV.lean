/- Own text of this session: a part of the proof; no condition of its own. -/
import Derived.Test.YtklcmhpgjcghkaaU
set_option linter.unusedVariables false
set_option linter.unusedSimpArgs false
set_option maxRecDepth 100000
namespace Go.L23a
open Go Go.Abs Go.Inc
theorem w3_33 (N : Nat) {β : Type} (x0 : Bool → Option β) (x9 : List OpD → Int → List Int → Int → Int → Option β) (ops : List OpD) (s : Int) (out : List Int) (c d : Int) (hs : out.length ≤ 1000000) (hin : ∀ x ∈ out, inO ops x = true) (hp : out.Pairwise fun x y => aheadAt y ops x = false) (i : Nat) (hi : i < out.length) : ∀ (n j : Nat), i - j < n →
    W3_33 N x0 x9 n ops s out (i : Int) c d (i : Int) (j : Int) = x9 ops s out c d
  | 0, _, h => by omega
  | n + 1, j, h => by
    unfold W3_33
    by_cases hd : j < i
    · have hj : j < out.length := by omega
      have e1 : (decide ((0 : Int) ≤ out.getD i 0) && decide (out.getD i 0 < ((ops.length : Nat) : Int))) = true := hin _ (getD_mem hi)
      have e2 : (decide ((0 : Int) ≤ out.getD j 0) && decide (out.getD j 0 < ((ops.length : Nat) : Int))) = true := hin _ (getD_mem hj)
      have e3 : aheadAt (out.getD i 0) ops (out.getD j 0) = false := by
        have := List.pairwise_iff_getElem.1 hp j i hj hi hd
        rw [List.getD_eq_getElem?_getD, List.getD_eq_getElem?_getD, List.getElem?_eq_getElem hi, List.getElem?_eq_getElem hj]; exact this
      rw [cond_dec (by omega), cond_t (in_dec hi), Int.toNat_natCast, e1, cond_t (in_dec hj), Int.toNat_natCast, e2]
      simp only [cond_true]
      show (bif aheadAt (out.getD i 0) ops (out.getD j 0) then _ else _) = _
      rw [e3, cond_false, wi64 ((j : Int) + 1) (by omega) (by omega), show ((j : Int) + 1) = ((j + 1 : Nat) : Int) by omega]
      exact w3_33 N x0 x9 ops s out c d hs hin hp i hi n (j + 1) (by omega)
    · rw [cond_dec' (by omega)]
theorem w3_30 (N : Nat) {β : Type} (x0 : Bool → Option β) (x7 : Int → List Int → Option β) (ops : List OpD) (s : Int) (out : List Int) (hs : out.length ≤ 1000000) (hN : out.length < N) (hin : ∀ x ∈ out, inO ops x = true) (hp : out.Pairwise fun x y => aheadAt y ops x = false) : ∀ (n i : Nat), out.length - i < n →
    W3_30 N x0 x7 n ops s out (out.length : Int) (i : Int) = x7 s out
  | 0, _, h => by omega
  | n + 1, i, h => by
    unfold W3_30
    by_cases hd : i < out.length
    · rw [cond_dec (by omega)]
      refine Eq.trans (w3_33 N _ _ ops s out _ _ hs hin hp i hd N 0 (by omega)) ?_
      rw [wi64 ((i : Int) + 1) (by omega) (by omega), show ((i : Int) + 1) = ((i + 1 : Nat) : Int) by omega]
      exact w3_30 N x0 x7 ops s out hs hN hin hp n (i + 1) (by omega)
    · rw [cond_dec' (by omega)]
theorem w3_7 (N : Nat) {β : Type} (x0 : Bool → Option β) (x1 : List OpD → List (List Int) → Int → Option β) (y : Option β) (hy : x0 true = y) (ops : List OpD) (a : List (List Int)) (ha : a.length ≤ 20) (hx : (∀ l ∈ a, l.length ≤ 60) → x1 ops a (a.flatten.length : Int) = y) : ∀ (n k : Nat), a.length - k < n → (∀ l ∈ a.take k, l.length ≤ 60) → k ≤ a.length →
    W3_7 N x0 x1 n ops a ((a.take k).flatten.length : Int) a (a.length : Int) (k : Int) = y
  | 0, _, h, _, _ => by omega
  | n + 1, k, h, hk, hka => by
    unfold W3_7
    by_cases hd : k < a.length
    · have htk : a.take (k + 1) = a.take k ++ [a.getD k []] := by
        rw [List.getD_eq_getElem?_getD, List.getElem?_eq_getElem hd, Option.getD_some, List.take_append_getElem]
      have hfl := flat_len (a.take k) (fun l hl => Nat.le_trans (hk l hl) (by omega))
      rw [List.length_take] at hfl
      rw [cond_dec (by omega), cond_t (in_dec hd), Int.toNat_natCast]
      by_cases h60 : ((((a.getD k []).length : Nat) : Int) > 60)
      · rw [cond_dec h60]; exact hy
      · have e : (((a.take k).flatten.length : Nat) : Int) + (((a.getD k []).length : Nat) : Int) = (((a.take (k + 1)).flatten.length : Nat) : Int) := by
          rw [htk]; simp
        rw [cond_dec' h60, wi64 _ (by omega) (by omega), e, wi64 ((k : Int) + 1) (by omega) (by omega), show ((k : Int) + 1) = ((k + 1 : Nat) : Int) by omega]
        refine w3_7 N x0 x1 y hy ops a ha hx n (k + 1) (by omega) (fun l hl => ?_) (by omega)
        rw [htk] at hl
        rcases List.mem_append.1 hl with hl | hl
        · exact hk l hl
        · obtain rfl := List.mem_singleton.1 hl; omega
    · obtain rfl : k = a.length := by omega
      rw [cond_dec' (by omega)]
      rw [List.take_length] at hk ⊢
      exact hx hk

end Go.L23a
