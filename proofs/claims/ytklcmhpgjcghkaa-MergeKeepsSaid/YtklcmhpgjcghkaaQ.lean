/- Own text of this session: a part of the proof; no condition of its own. -/
import Derived.Test.YtklcmhpgjcghkaaP
set_option linter.unusedVariables false
set_option linter.unusedSimpArgs false
set_option maxRecDepth 100000
namespace Go.L23a
open Go Go.Abs Go.Inc
/-- What is left is in order. -/
def okLeft (ops : List OpD) (left : List (List Int)) : Prop := left.length ≤ 1000 ∧ ∀ l ∈ left, l.length ≤ 1000 ∧ ∀ k ∈ l, inO ops k = true
theorem okFree_of {ops : List OpD} {left : List (List Int)} {x : Int} (h : okLeft ops left) (hx : inO ops x = true) : okFree x left.length ops left = true := by
  simp only [okFree, Bool.and_eq_true, decide_eq_true_eq, List.all_eq_true]
  exact ⟨trivial, h.1, fun l hl => okIdx_iff.2 ⟨(h.2 l hl).1, hx, (h.2 l hl).2⟩⟩
def okBest (left : List (List Int)) (best : Int) : Prop := best < 0 ∨ (0 ≤ best ∧ best.toNat < left.length ∧ left.getD best.toNat [] ≠ [])
theorem head_in {ops : List OpD} {left : List (List Int)} (h : okLeft ops left) {b : Nat} (hb : b < left.length) (hne : left.getD b [] ≠ []) : inO ops ((left.getD b []).getD 0 0) = true := by
  refine (h.2 _ (getD_mem (d := []) hb)).2 _ (getD_mem ?_)
  exact List.length_pos_iff.2 hne
theorem w5_8 (N : Nat) {β : Type} (x3 : List OpD → Nat → List Int → Int → Bool → List (List Int) → Option β) (ops : List OpD) (out : List Int) (left : List (List Int)) (hL : okLeft ops left) : ∀ (n k : Nat) (best : Int) (some' : Bool), left.length - k < n → okBest left best →
    W5_8 N x3 n ops left.length out best some' left left.length (left.length : Int) (k : Int) = x3 ops left.length out (bestK ops left k (left.drop k) best some').1 (bestK ops left k (left.drop k) best some').2 left
  | 0, k, _, _, h, _ => by omega
  | n + 1, k, best, some', h, hb => by
    have hL1 := hL.1
    unfold W5_8
    by_cases hd : k < left.length
    · have ih := fun b s hb' => w5_8 N x3 ops out left hL n (k + 1) b s (by omega) hb'
      rw [cond_dec (by omega), cond_t (in_dec hd), Int.toNat_natCast, cond_dec hd, drop_getD (d := ([] : List Int)) hd, wi64 _ (by omega) (by omega), show ((k : Int) + 1) = ((k + 1 : Nat) : Int) by omega]
      have hne := head_in hL hd
      have hk : left.getD k [] ≠ [] → okBest left (k : Int) := fun hn => .inr ⟨by omega, by rw [Int.toNat_natCast]; exact hd, by rw [Int.toNat_natCast]; exact hn⟩
      generalize left.getD k [] = l at hne hk
      cases l with
      | nil => rw [bestK]; exact ih best some' hb
      | cons x t =>
        have hx : inO ops x = true := hne (by simp)
        have hx' : (decide ((0 : Int) ≤ x) && decide (x < ((ops.length : Nat) : Int))) = true := hx
        have hk' := hk (by simp)
        have e0 : (((List.length (x :: t) : Nat) : Int) == 0) = false := beq_false_of_ne (by simp only [List.length_cons]; omega)
        have e1 : (decide ((0 : Int) ≤ 0) && decide ((0 : Int) < ((List.length (x :: t) : Nat) : Int))) = true := by simp only [List.length_cons, Bool.and_eq_true, decide_eq_true_eq]; omega
        have e2 : (x :: t).getD (Int.toNat 0) 0 = x := rfl
        rw [bestK, e0, e1, e2, okFree_of hL hx, hx']
        simp only [cond_true, cond_false]
        cases freeGo x left.length ops left with
        | false => exact ih best true hb
        | true =>
          simp only [cond_true, Bool.true_and]
          by_cases hneg : best < 0
          · rw [cond_dec hneg, decide_eq_true hneg]; exact ih (k : Int) true hk'
          · obtain ⟨q1, q2, q3⟩ := hb.resolve_left hneg
            have hy := head_in hL q2 q3
            have hy' : (decide ((0 : Int) ≤ (left.getD best.toNat []).getD (Int.toNat 0) 0) && decide ((left.getD best.toNat []).getD (Int.toNat 0) 0 < ((ops.length : Nat) : Int))) = true := hy
            have hp := List.length_pos_iff.2 q3
            rw [cond_dec' hneg, decide_eq_false hneg, Bool.false_or, cond_t (by simp only [Bool.and_eq_true, decide_eq_true_eq]; omega), cond_dec q2, cond_t (by simp only [Bool.and_eq_true, decide_eq_true_eq]; omega), hy']
            simp only [cond_true]
            show (bif decide (callO (atO ops x) < callO (atO ops ((left.getD best.toNat []).getD 0 0))) then _ else _) = _
            cases decide (callO (atO ops x) < callO (atO ops ((left.getD best.toNat []).getD 0 0))) with
            | true => exact ih (k : Int) true hk'
            | false => exact ih best true hb
    · rw [cond_dec' (by omega), List.drop_eq_nil_of_le (by omega)]; rfl
theorem bestK_ok (ops : List OpD) (left : List (List Int)) : ∀ (r : List (List Int)) (k : Nat) (best : Int) (some' : Bool), (∀ i, i < r.length → left.getD (k + i) [] = r.getD i [] ∧ k + i < left.length) → okBest left best → okBest left (bestK ops left k r best some').1
  | [], k, best, some', _, hb => hb
  | [] :: r, k, best, some', h, hb => by
    rw [bestK]
    refine bestK_ok ops left r (k + 1) best some' (fun i hi => ?_) hb
    have := h (i + 1) (by simpa using hi)
    rw [show k + (i + 1) = k + 1 + i by omega] at this
    exact this
  | (x :: t) :: r, k, best, some', h, hb => by
    rw [bestK]
    refine bestK_ok ops left r (k + 1) _ true (fun i hi => ?_) ?_
    · have := h (i + 1) (by simpa using hi)
      rw [show k + (i + 1) = k + 1 + i by omega] at this
      exact this
    · cases (freeGo x left.length ops left && (decide (best < 0) || decide (callO (atO ops x) < callO (atO ops ((left.getD best.toNat []).getD 0 0))))) with
      | false => exact hb
      | true =>
        have h0 := h 0 (by simp)
        rw [Nat.add_zero] at h0
        exact .inr ⟨by show (0 : Int) ≤ (k : Int); omega, by show (k : Int).toNat < _; rw [Int.toNat_natCast]; exact h0.2, by show left.getD (k : Int).toNat [] ≠ []; rw [Int.toNat_natCast, h0.1]; simp⟩
theorem bestK_ok0 (ops : List OpD) (left : List (List Int)) : okBest left (bestK ops left 0 left (-1) false).1 :=
  bestK_ok ops left left 0 (-1) false (fun i hi => by rw [Nat.zero_add]; exact ⟨rfl, hi⟩) (.inl (by omega))
theorem flat_set : ∀ (left : List (List Int)) (b : Nat), b < left.length → left.getD b [] ≠ [] → (left.set b ((left.getD b []).drop 1)).flatten.length + 1 = left.flatten.length
  | [], b, h, _ => by simp at h
  | l :: r, 0, _, hne => by
    cases l with
    | nil => simp at hne
    | cons x t => simp
  | l :: r, b + 1, h, hne => by
    have := flat_set r b (by simpa using h) (by simpa using hne)
    simp only [List.set_cons_succ, List.flatten_cons, List.length_append, List.getD_cons_succ]
    omega
theorem okLeft_set {ops : List OpD} {left : List (List Int)} (h : okLeft ops left) {b : Nat} (hb : b < left.length) : okLeft ops (left.set b ((left.getD b []).drop 1)) := by
  refine ⟨by rw [List.length_set]; exact h.1, fun l hl => ?_⟩
  rcases List.mem_or_eq_of_mem_set hl with hl | rfl
  · exact h.2 l hl
  · have := h.2 _ (getD_mem (d := ([] : List Int)) hb)
    exact ⟨by rw [List.length_drop]; omega, fun k hk => this.2 k (List.mem_of_mem_drop hk)⟩
theorem w5_6 (N : Nat) (hN : 1001 ≤ N) {β : Type} (x0 : List Int → Bool → Option β) (ops : List OpD) : ∀ (f n : Nat) (left : List (List Int)) (out : List Int), okLeft ops left → left.flatten.length < f → f ≤ n → out.length + left.flatten.length ≤ 1000000 →
    W5_6 N x0 n ops left.length out left = x0 (mergeGo ops f left out).1 (mergeGo ops f left out).2.1
  | 0, _, _, _, _, h, _, _ => by omega
  | f + 1, 0, _, _, _, _, h, _ => by omega
  | f + 1, n + 1, left, out, hL, hf, hn, ho => by
    have ih := w5_6 N hN x0 ops f n
    have hL1 := hL.1
    unfold W5_6 mergeGo
    have hw := w5_8 N (fun b2a b6a t8 t9 t10 b19 =>
      bif (!t10) then
        x0 t8 true
      else
        bif decide (t9 < (0 : Int)) then
          x0 ([] : List Int) false
        else
          bif ((decide ((0 : Int) ≤ t9)) && (decide (t9 < ((b6a : Nat) : Int)))) then
            bif decide ((Int.toNat t9) < (List.length b19)) then
              bif ((decide ((0 : Int) ≤ (0 : Int))) && (decide ((0 : Int) < (((List.length (List.getD b19 (Int.toNat t9) [])) : Nat) : Int)))) then
              bif decide ((((List.length t8) + (List.length ((List.getD (List.getD b19 (Int.toNat t9) []) (Int.toNat (0 : Int)) (0 : Int)) :: ([] : List Int)))) * 8) ≤ 140737488351232) then
              bif ((decide ((0 : Int) ≤ t9)) && (decide (t9 < ((b6a : Nat) : Int)))) then
              bif decide ((Int.toNat t9) < (List.length b19)) then
              bif ((decide ((0 : Int) ≤ (1 : Int))) && ((decide ((1 : Int) ≤ (((List.length (List.getD b19 (Int.toNat t9) [])) : Nat) : Int))) && (decide ((((List.length (List.getD b19 (Int.toNat t9) [])) : Nat) : Int) ≤ (((List.length (List.getD b19 (Int.toNat t9) [])) : Nat) : Int))))) then
              bif ((decide ((0 : Int) ≤ t9)) && (decide (t9 < ((b6a : Nat) : Int)))) then
              bif decide ((Int.toNat t9) < (List.length b19)) then
              W5_6 N x0 n b2a b6a (t8 ++ ((List.getD (List.getD b19 (Int.toNat t9) []) (Int.toNat (0 : Int)) (0 : Int)) :: ([] : List Int))) (List.set b19 (Int.toNat t9) (Go.Abs.sub (List.getD b19 (Int.toNat t9) []) (1 : Int) (((List.length (List.getD b19 (Int.toNat t9) [])) : Nat) : Int)))
            else none else none else none else none else none else none else none else none else none) ops out left hL N 0 (-1) false (by omega) (.inl (by omega))
    rw [show ((0 : Nat) : Int) = 0 from rfl, List.drop_zero] at hw
    refine Eq.trans hw ?_
    have hbk := bestK_ok0 ops left
    generalize bestK ops left 0 left (-1) false = bs at hbk
    obtain ⟨best, s⟩ := bs
    simp only at hbk ⊢
    cases s with
    | false => rfl
    | true =>
      simp only [Bool.not_true, cond_false]
      by_cases hneg : best < 0
      · rw [cond_dec hneg, cond_dec hneg]
      · obtain ⟨q1, q2, q3⟩ := hbk.resolve_left hneg
        have hp := List.length_pos_iff.2 q3
        have hin : (decide ((0 : Int) ≤ best) && decide (best < ((left.length : Nat) : Int))) = true := by simp only [Bool.and_eq_true, decide_eq_true_eq]; omega
        have h1 : (decide ((0 : Int) ≤ 0) && decide ((0 : Int) < (((left.getD best.toNat []).length : Nat) : Int))) = true := by simp only [Bool.and_eq_true, decide_eq_true_eq]; omega
        have h2 : (decide ((0 : Int) ≤ 1) && (decide ((1 : Int) ≤ (((left.getD best.toNat []).length : Nat) : Int)) && decide ((((left.getD best.toNat []).length : Nat) : Int) ≤ (((left.getD best.toNat []).length : Nat) : Int)))) = true := by simp only [Bool.and_eq_true, decide_eq_true_eq]; omega
        have hfl := flat_set left best.toNat q2 q3
        have hsub : Go.Abs.sub (left.getD best.toNat []) 1 (((left.getD best.toNat []).length : Nat) : Int) = (left.getD best.toNat []).drop 1 := by simp [Go.Abs.sub]
        rw [cond_dec' hneg, cond_dec' hneg, hin, h1, h2, hsub]
        simp only [cond_true]
        rw [cond_dec q2, cond_dec (by simp only [List.length_cons, List.length_nil]; omega), cond_dec q2, cond_dec q2]
        have := ih (left.set best.toNat ((left.getD best.toNat []).drop 1)) (out ++ [(left.getD best.toNat []).getD 0 0]) (okLeft_set hL q2) (by omega) (by omega) (by simp only [List.length_append, List.length_cons, List.length_nil]; omega)
        rw [List.length_set] at this
        exact this

end Go.L23a
