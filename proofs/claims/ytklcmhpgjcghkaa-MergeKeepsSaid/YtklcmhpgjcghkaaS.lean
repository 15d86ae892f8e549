/- Own text of this session: a part of the proof; no condition of its own. -/
import Derived.Test.YtklcmhpgjcghkaaR
set_option linter.unusedVariables false
set_option linter.unusedSimpArgs false
set_option maxRecDepth 100000
namespace Go.L23a
open Go Go.Abs Go.Inc
theorem eta (v : Val) : (v.1, (v.2.1, (v.2.2.1, ()))) = v := rfl
theorem wsame7 (N : Nat) {β : Type} (x0 : Bool → Option β) (x1 : Unit → Option β) (a b : List Int) (hl : a.length = b.length) (hs : a.length ≤ 9223372036854775807) : ∀ (n k : Nat), a.length - k < n →
    W7_4 N x0 x1 n a b (k : Int) = bif (a.drop k == b.drop k) then x1 () else x0 false
  | 0, k, h => by omega
  | n + 1, k, h => by
    unfold W7_4
    by_cases hd : k < a.length
    · rw [cond_dec (by omega), cond_t (in_dec hd), cond_t (in_dec (by omega)), Int.toNat_natCast, drop_getD (d := 0) hd, drop_getD (l := b) (d := 0) (by omega), wi64 _ (by omega) (by omega), show ((k : Int) + 1) = ((k + 1 : Nat) : Int) by omega,
        wsame7 N x0 x1 a b hl hs n (k + 1) (by omega), List.cons_beq_cons]
      show (bif (!(a.getD k 0 == b.getD k 0)) then _ else _) = _
      cases (a.getD k 0 == b.getD k 0) <;> rfl
    · rw [cond_dec' (by omega), List.drop_eq_nil_of_le (by omega), List.drop_eq_nil_of_le (by omega)]; rfl
def fuel7 (a b : List Int) : Nat := a.length + 1
theorem plain7 (a b : List Int) (h : okSame a b = true) : F7 (fuel7 a b) a b = some (eqL a b, ()) := by
  simp only [okSame, Bool.and_eq_true, okIs_iff] at h
  have := maxLen_le
  unfold F7 eqL fuel7
  by_cases hl : a.length = b.length
  · have hw := fun x0 x1 => wsame7 (β := Bool × Unit) (a.length + 1) x0 x1 a b hl (by omega) (a.length + 1) 0 (by omega)
    rw [show ((0 : Nat) : Int) = 0 from rfl] at hw
    rw [hw, List.drop_zero, List.drop_zero, hl, bne_self_eq_false, cond_false]
    cases (a == b) <;> rfl
  · have e1 : (((a.length : Nat) : Int) != ((b.length : Nat) : Int)) = true := bne_iff_ne.2 (by omega)
    have e2 : (a == b) = false := beq_false_of_ne (fun e => hl (by rw [e]))
    rw [e1, e2]; rfl

theorem find_idx {α : Type} {p : α → Bool} (d : α) : ∀ {l : List α} {i : Nat}, l.findIdx? p = some i → i < l.length ∧ l.find? p = some (l.getD i d)
  | [], i, h => by simp at h
  | x :: l, i, h => by
    rw [List.findIdx?_cons] at h
    rw [List.find?_cons]
    cases hp : p x with
    | true =>
      rw [hp] at h; simp only [if_true, Option.some.injEq] at h; subst h
      exact ⟨by simp, rfl⟩
    | false =>
      rw [hp] at h; simp only [Bool.false_eq_true, if_false, Option.map_eq_some_iff] at h
      obtain ⟨j, hj, rfl⟩ := h
      obtain ⟨h1, h2⟩ := find_idx d hj
      exact ⟨by rw [List.length_cons]; omega, by rw [h2]; rfl⟩
theorem find_none {α : Type} {p : α → Bool} : ∀ {l : List α}, l.findIdx? p = none → l.find? p = none
  | [], _ => rfl
  | x :: l, h => by
    rw [List.findIdx?_cons] at h
    rw [List.find?_cons]
    cases hp : p x with
    | true => rw [hp] at h; simp at h
    | false =>
      rw [hp] at h; simp only [Bool.false_eq_true, if_false, Option.map_eq_none_iff] at h
      exact find_none h
theorem tbl_in {m o : Int} {r : Row} (h : sfind m o = some r) : r ∈ tbl := List.mem_of_find?_eq_some h
theorem tbl_size : ∀ r ∈ tbl, r.2.2.1.size ≤ 2 := by
  have : (tbl.all fun r => decide (r.2.2.1.size ≤ 2)) = true := by decide +kernel
  simpa [List.all_eq_true] using this
theorem tbl_out : ∀ r ∈ tbl, r.2.2.2.1 = -1 ∨ r.2.2.2.1 = 2 ∨ r.2.2.2.1 = 4 ∨ r.2.2.2.1 = 5 ∨ r.2.2.2.1 = 6 ∨ r.2.2.2.1 = 99 := by
  have : (tbl.all fun r => decide (r.2.2.2.1 = -1 ∨ r.2.2.2.1 = 2 ∨ r.2.2.2.1 = 4 ∨ r.2.2.2.1 = 5 ∨ r.2.2.2.1 = 6 ∨ r.2.2.2.1 = 99)) = true := by decide +kernel
  simpa [List.all_eq_true] using this

theorem tm2 (k : Nat) : (Int.tmod (k : Int) 2 == 1) = decide (k % 2 = 1) := by
  rw [Int.tmod_eq_emod_of_nonneg (by omega), Bool.eq_iff_iff]
  simp only [beq_iff_eq, decide_eq_true_eq]; omega
theorem vnone (v : Val) : ((v.1 == (0 : Int)) && ((v.2.1 == (0 : Int)) && ((v.2.2.1 == ByteArray.empty) && true))) = (v == none') := by
  obtain ⟨k, n, s, ⟨⟩⟩ := v
  rfl
theorem d42 (k : Nat) : IntKind.wrap .i64 ((4 : Int) - IntKind.wrap .i64 (Int.tmod (k : Int) 2 * 2)) = dpair k := by
  rw [Int.tmod_eq_emod_of_nonneg (by omega), wi64 ((k : Int) % 2 * 2) (by omega) (by omega), wi64 _ (by omega) (by omega)]
  unfold dpair
  split <;> omega
theorem pairs_len : ∀ {l : List Val} {k : Nat} {r : List Int}, pairs k l = some r → r.length = l.length
  | [], k, r, h => by cases h; rfl
  | v :: l, k, r, h => by
    simp only [pairs] at h
    cases ht : takes (dpair k) v with
    | false => rw [ht] at h; cases h
    | true =>
      rw [ht, cond_true, Option.map_eq_some_iff] at h
      obtain ⟨t, h1, rfl⟩ := h
      simp [pairs_len h1]
theorem takesAll_len : ∀ {ds : List Int} {vs : List Val}, takesAll ds vs = true → ds.length = vs.length
  | [], [], _ => rfl
  | d :: ds, v :: vs, h => by
    simp only [takesAll, Bool.and_eq_true] at h
    simp [takesAll_len h.2]
  | [], _ :: _, h => by cases h
  | _ :: _, [], h => by cases h

end Go.L23a
