/- Own text of this session: a part of the proof; no condition of its own. -/
import Derived.Test.YtklcmhpgjcghkaaWalk
set_option linter.unusedVariables false
set_option linter.unusedSimpArgs false
set_option maxRecDepth 100000
namespace Go.L23a
open Go Go.Abs Go.Inc
/-! Orders merged -/
def fuel13 (a b : OpD) : Nat := 0
theorem plain13 (a b : OpD) (_ : true = true) : F13 0 a b = some (aheadO a b, ()) := by
  unfold F13 aheadO
  show (bif decide (retO a ≥ 0) then some (decide (retO a < callO b), ()) else some (false, ())) = some (decide (0 ≤ retO a) && decide (retO a < callO b), ())
  by_cases h : 0 ≤ retO a
  · rw [cond_dec h, decide_eq_true h, Bool.true_and]
  · rw [cond_dec' h, decide_eq_false h, Bool.false_and]
def fuel6 (a b : OpD) : Nat := 0
theorem plain6 (a b : OpD) (_ : true = true) : F6 0 a b = some (aheadO a b, ()) := by
  unfold F6 aheadO
  show (bif decide (retO a ≥ 0) then some (decide (retO a < callO b), ()) else some (false, ())) = some (decide (0 ≤ retO a) && decide (retO a < callO b), ())
  by_cases h : 0 ≤ retO a
  · rw [cond_dec h, decide_eq_true h, Bool.true_and]
  · rw [cond_dec' h, decide_eq_false h, Bool.false_and]
def fuel12 (k : Int) (ops : List OpD) (i : Int) : Nat := 0
theorem plain12 (k : Int) (ops : List OpD) (i : Int) (h : okAt k ops i = true) : F12 0 k ops i = some (aheadAt k ops i, ((ops, ()), ((i, ()), ()))) := by
  simp only [okAt, Bool.and_eq_true] at h
  have e1 : (decide ((0 : Int) ≤ k) && decide (k < ((ops.length : Nat) : Int))) = true := h.1
  have e2 : (decide ((0 : Int) ≤ i) && decide (i < ((ops.length : Nat) : Int))) = true := h.2
  unfold F12
  rw [e1, e2]; rfl
theorem w14 (N : Nat) {β : Type} (x0 : Int → List OpD → Int → Option β) (x1 : List OpD → Int → Option β) (l : List Int) (ops : List OpD) (i : Int) (hs : l.length ≤ 1000) (hi : inO ops i = true) (hl : ∀ k ∈ l, inO ops k = true) : ∀ (n k : Nat), l.length - k < n →
    W14_2 N x0 x1 n l (l.length : Int) (k : Int) ops i = match (l.drop k).findIdx? (fun k => aheadAt k ops i) with | some j => x0 ((k + j : Nat) : Int) ops i | none => x1 ops i
  | 0, k, h => by omega
  | n + 1, k, h => by
    unfold W14_2
    by_cases hd : k < l.length
    · have hm := getD_mem (d := (0 : Int)) hd
      rw [cond_dec (by omega), cond_t (in_dec hd), Int.toNat_natCast, drop_getD (d := (0 : Int)) hd, wi64 _ (by omega) (by omega), show ((k : Int) + 1) = ((k + 1 : Nat) : Int) by omega,
        w14 N x0 x1 l ops i hs hi hl n (k + 1) (by omega), List.findIdx?_cons]
      generalize List.getD l k (0 : Int) = v at hm
      have hok : okAt v ops i = true := by simp only [okAt, hl v hm, hi, Bool.and_self]
      rw [hok]
      cases aheadAt v ops i with
      | true => rfl
      | false =>
        simp only [cond_true, cond_false, Bool.false_eq_true, if_false]
        cases (l.drop (k + 1)).findIdx? (fun k => aheadAt k ops i) with
        | none => rfl
        | some j =>
          show x0 ((k + 1 + j : Nat) : Int) ops i = x0 ((k + (j + 1) : Nat) : Int) ops i
          congr 2; omega
    · rw [cond_dec' (by omega), List.drop_eq_nil_of_le (by omega)]; rfl
theorem okIdx_iff {l : List Int} {ops : List OpD} {i : Int} : okIdx l ops i = true ↔ l.length ≤ 1000 ∧ inO ops i = true ∧ ∀ k ∈ l, inO ops k = true := by
  simp only [okIdx, Bool.and_eq_true, decide_eq_true_eq, List.all_eq_true]
def fuel14 (l : List Int) (ops : List OpD) (i : Int) : Nat := l.length + 1
theorem plain14 (l : List Int) (ops : List OpD) (i : Int) (h : okIdx l ops i = true) : F14 (fuel14 l ops i) l ops i = some (idxA l ops i, ((ops, ()), ((i, ()), ()))) := by
  obtain ⟨hs, hi, hl⟩ := okIdx_iff.1 h
  unfold F14 idxA
  have hw := fun x0 x1 => w14 (β := HS.den X14.hout) (fuel14 l ops i) x0 x1 l ops i hs hi hl (fuel14 l ops i) 0 (by unfold fuel14; omega)
  rw [show ((0 : Nat) : Int) = 0 from rfl] at hw
  rw [hw, List.drop_zero]
  cases l.findIdx? (fun k => aheadAt k ops i) with
  | none => rfl
  | some j => show some (((0 + j : Nat) : Int), _) = _; rw [Nat.zero_add]
theorem idx_any {α : Type} (p : α → Bool) : ∀ (l : List α), (l.findIdx? p).isSome = l.any p
  | [] => rfl
  | x :: l => by
    rw [List.findIdx?_cons, List.any_cons]
    cases p x with
    | true => rfl
    | false => simp only [Bool.false_eq_true, if_false, Option.isSome_map, idx_any p l, Bool.false_or]
def fuel11 (l : List Int) (ops : List OpD) (i : Int) : Nat := 0
theorem plain11 (l : List Int) (ops : List OpD) (i : Int) (h : okIdx l ops i = true) : F11 0 l ops i = some (anyA l ops i, ((ops, ()), ((i, ()), ()))) := by
  unfold F11
  rw [h]
  have e : decide (idxA l ops i ≥ 0) = anyA l ops i := by
    unfold idxA anyA
    rw [← idx_any]
    cases l.findIdx? (fun k => aheadAt k ops i) with
    | none => rfl
    | some j => exact decide_eq_true (by show (0 : Int) ≤ (j : Int); omega)
  rw [e]; rfl
theorem w10 (N : Nat) {β : Type} (x0 : Bool → Nat → List OpD → List (List Int) → Option β) (x1 : Nat → List OpD → List (List Int) → Option β) (i : Int) (ops : List OpD) (left : List (List Int)) (hs : left.length ≤ 1000) (hl : ∀ l ∈ left, okIdx l ops i = true) (z : Nat) : ∀ (n k : Nat), left.length - k < n →
    W10_2 N x0 x1 n i left.length (left.length : Int) (k : Int) z ops left = bif (left.drop k).any (fun l => anyA l ops i) then x0 false z ops left else x1 z ops left
  | 0, k, h => by omega
  | n + 1, k, h => by
    unfold W10_2
    by_cases hd : k < left.length
    · have hm := hl _ (getD_mem (d := ([] : List Int)) hd)
      rw [cond_dec (by omega), cond_t (in_dec hd), Int.toNat_natCast, cond_dec hd, hm, drop_getD (d := ([] : List Int)) hd, wi64 _ (by omega) (by omega), show ((k : Int) + 1) = ((k + 1 : Nat) : Int) by omega,
        w10 N x0 x1 i ops left hs hl z n (k + 1) (by omega), List.any_cons]
      cases anyA (left.getD k []) ops i <;> rfl
    · rw [cond_dec' (by omega), List.drop_eq_nil_of_le (by omega)]; rfl
def fuel10 (i : Int) (n : Nat) (ops : List OpD) (left : List (List Int)) : Nat := left.length + 1
theorem plain10 (i : Int) (n : Nat) (ops : List OpD) (left : List (List Int)) (h : okFree i n ops left = true) : F10 (fuel10 i n ops left) i n ops left = some (freeGo i n ops left, ((n, ()), ((ops, ()), (left, ())))) := by
  simp only [okFree, Bool.and_eq_true, decide_eq_true_eq, List.all_eq_true] at h
  obtain ⟨rfl, hs, hl⟩ := h
  unfold F10 freeGo
  have hw := fun x0 x1 => w10 (β := HS.den X10.hout) (fuel10 i left.length ops left) x0 x1 i ops left hs hl left.length (fuel10 i left.length ops left) 0 (by unfold fuel10; omega)
  rw [show ((0 : Nat) : Int) = 0 from rfl] at hw
  rw [hw, List.drop_zero]
  cases left.any (fun l => anyA l ops i) <;> rfl

end Go.L23a
