/- Own text of this session: a part of the proof; no condition of its own. -/
import Derived.Test.YtklcmhpgjcghkaaS
set_option linter.unusedVariables false
set_option linter.unusedSimpArgs false
set_option maxRecDepth 100000
namespace Go.L23a
open Go Go.Abs Go.Inc
/-- What holds while orders are merged. -/
structure Mid (ops : List OpD) (a left : List (List Int)) (out : List Int) : Prop where
  len : left.length = a.length
  cut : ∀ j, j < a.length → ∃ t, a.getD j [] = t ++ left.getD j [] ∧ List.Sublist t out
  sum : out.length + left.flatten.length = a.flatten.length
  rest : ∀ x ∈ out, ∀ y ∈ left.flatten, aheadAt y ops x = false
  pair : out.Pairwise fun x y => aheadAt y ops x = false
  mem : ∀ x ∈ out, x ∈ a.flatten
theorem mem_flat {left : List (List Int)} {b : Nat} {y : Int} (hb : b < left.length) (h : y ∈ left.getD b []) : y ∈ left.flatten := List.mem_flatten.2 ⟨_, getD_mem hb, h⟩
theorem mem_set {left : List (List Int)} {b : Nat} (hb : b < left.length) {y : Int} (h : y ∈ (left.set b ((left.getD b []).drop 1)).flatten) : y ∈ left.flatten := by
  obtain ⟨l, hl, hy⟩ := List.mem_flatten.1 h
  rcases List.mem_or_eq_of_mem_set hl with hl | rfl
  · exact List.mem_flatten.2 ⟨l, hl, hy⟩
  · exact mem_flat hb (List.mem_of_mem_drop hy)
theorem free_no {i : Int} {n : Nat} {ops : List OpD} {left : List (List Int)} (h : freeGo i n ops left = true) : ∀ y ∈ left.flatten, aheadAt y ops i = false := by
  intro y hy
  obtain ⟨l, hl, hy⟩ := List.mem_flatten.1 hy
  simp only [freeGo, anyA, Bool.not_eq_true', List.any_eq_false] at h
  have := h l hl
  simp only [List.any_eq_true, not_exists, not_and, Bool.not_eq_true] at this
  exact this y hy
theorem bestK_free (ops : List OpD) (left : List (List Int)) : ∀ (r : List (List Int)) (k : Nat) (best : Int) (some' : Bool), (∀ i, i < r.length → left.getD (k + i) [] = r.getD i []) →
    (best < 0 ∨ freeGo ((left.getD best.toNat []).getD 0 0) left.length ops left = true) → ((bestK ops left k r best some').1 < 0 ∨ freeGo ((left.getD (bestK ops left k r best some').1.toNat []).getD 0 0) left.length ops left = true)
  | [], k, best, some', _, hb => hb
  | [] :: r, k, best, some', h, hb => by
    rw [bestK]
    refine bestK_free ops left r (k + 1) best some' (fun i hi => ?_) hb
    have := h (i + 1) (by simpa using hi)
    rw [show k + (i + 1) = k + 1 + i by omega] at this
    exact this
  | (x :: t) :: r, k, best, some', h, hb => by
    rw [bestK]
    refine bestK_free ops left r (k + 1) _ true (fun i hi => ?_) ?_
    · have := h (i + 1) (by simpa using hi)
      rw [show k + (i + 1) = k + 1 + i by omega] at this
      exact this
    · cases hf : freeGo x left.length ops left with
      | false => exact hb
      | true =>
        cases (decide (best < 0) || decide (callO (atO ops x) < callO (atO ops ((left.getD best.toNat []).getD 0 0)))) with
        | false => exact hb
        | true =>
          refine .inr ?_
          show freeGo ((left.getD (k : Int).toNat []).getD 0 0) left.length ops left = true
          have h0 := h 0 (by simp)
          rw [Nat.add_zero] at h0
          rw [Int.toNat_natCast, h0]; exact hf
theorem bestK_none (ops : List OpD) (left : List (List Int)) : ∀ (r : List (List Int)) (k : Nat) (best : Int) (some' : Bool), (bestK ops left k r best some').2 = false → some' = false ∧ r.flatten = []
  | [], k, best, some', h => ⟨h, rfl⟩
  | [] :: r, k, best, some', h => by
    rw [bestK] at h
    exact bestK_none ops left r (k + 1) best some' h
  | (x :: t) :: r, k, best, some', h => by
    rw [bestK] at h
    exact absurd (bestK_none ops left r (k + 1) _ true h).1 (by simp)
theorem Mid.step {ops : List OpD} {a left : List (List Int)} {out : List Int} (h : Mid ops a left out) {b : Nat} (hb : b < left.length) (hne : left.getD b [] ≠ []) (hf : freeGo ((left.getD b []).getD 0 0) left.length ops left = true) :
    Mid ops a (left.set b ((left.getD b []).drop 1)) (out ++ [(left.getD b []).getD 0 0]) := by
  have hs := flat_set left b hb hne
  have hm := fun y hy => mem_set (y := y) hb hy
  have hfn := free_no hf
  have hcut := h.cut
  obtain ⟨i, t, hit⟩ : ∃ i t, left.getD b [] = i :: t := by
    cases hc : left.getD b [] with
    | nil => exact absurd hc hne
    | cons i t => exact ⟨i, t, rfl⟩
  have hin : i ∈ left.flatten := mem_flat hb (by rw [hit]; simp)
  rw [hit] at hs hm hfn ⊢
  simp only [List.getD_cons_zero, List.drop_succ_cons, List.drop_zero] at hs hm hfn ⊢
  refine ⟨by rw [List.length_set]; exact h.len, fun j hj => ?_, by rw [List.length_append, List.length_singleton]; have := h.sum; omega, fun x hx y hy => ?_, ?_, fun x hx => ?_⟩
  · obtain ⟨t', e, hsub⟩ := hcut j hj
    by_cases hjb : j = b
    · subst hjb
      refine ⟨t' ++ [i], ?_, List.Sublist.append hsub (List.Sublist.refl _)⟩
      rw [List.getD_eq_getElem?_getD, List.getD_eq_getElem?_getD, List.getElem?_set_self hb, ← List.getD_eq_getElem?_getD, e, hit]
      simp
    · refine ⟨t', ?_, hsub.trans (List.sublist_append_left _ _)⟩
      rw [List.getD_eq_getElem?_getD (l := left.set b t), List.getElem?_set_ne (fun q => hjb q.symm), ← List.getD_eq_getElem?_getD]; exact e
  · rcases List.mem_append.1 hx with hx | hx
    · exact h.rest x hx y (hm y hy)
    · obtain rfl := List.mem_singleton.1 hx; exact hfn y (hm y hy)
  · refine List.pairwise_append.2 ⟨h.pair, List.pairwise_singleton _ _, fun x hx y hy => ?_⟩
    obtain rfl := List.mem_singleton.1 hy
    exact h.rest x hx y hin
  · rcases List.mem_append.1 hx with hx | hx
    · exact h.mem x hx
    · obtain rfl := List.mem_singleton.1 hx
      have hb' : b < a.length := by rw [← h.len]; exact hb
      obtain ⟨t', e, _⟩ := hcut b hb'
      exact mem_flat hb' (by rw [e, hit]; simp)

end Go.L23a
