/- Own text of this session: a part of the proof; no condition of its own. -/
import Derived.Test.YtiodlajaecaoaaaZ
set_option linter.unusedVariables false
set_option linter.unusedSimpArgs false
set_option maxRecDepth 100000
namespace Go.L19
open Go Go.Abs Go.Inc
instance : LawfulBEq ByteArray where
  eq_of_beq h := ba_ext (by rw [ba_beq] at h; exact eq_of_beq h)
  rfl {a} := by rw [ba_beq]; exact beq_self_eq_true _
theorem veqW (a b : Val) : ((a.1 == b.1) && ((a.2.1 == b.2.1) && ((a.2.2.1 == b.2.2.1) && true))) = (a == b) := by rfl
theorem w16 (N : Nat) {β : Type} (x0 : Bool → Option β) (x1 : Unit → Option β) (a b : List Val) (hl : a.length = b.length) (hs : a.length ≤ maxLen) : ∀ (n k : Nat), a.length - k < n →
    W16_4 N x0 x1 n a b (k : Int) = bif (a.drop k == b.drop k) then x1 () else x0 false
  | 0, k, h => by omega
  | n + 1, k, h => by
    have hm : maxLen = 9223372036854775807 := rfl
    unfold W16_4
    by_cases hd : k < a.length
    · rw [cond_dec (by omega), cond_t (in_dec hd), cond_t (in_dec (by omega)), Int.toNat_natCast, drop_getD (d := ((0 : Int), ((0 : Int), (ByteArray.empty, ())))) hd, drop_getD (l := b) (d := ((0 : Int), ((0 : Int), (ByteArray.empty, ())))) (by omega), wi64 _ (by omega) (by omega), show ((k : Int) + 1) = ((k + 1 : Nat) : Int) by omega,
        w16 N x0 x1 a b hl hs n (k + 1) (by omega), List.cons_beq_cons, veqW]
      cases (a.getD k ((0 : Int), ((0 : Int), (ByteArray.empty, ()))) == b.getD k ((0 : Int), ((0 : Int), (ByteArray.empty, ())))) <;> rfl
    · rw [cond_dec' (by omega), List.drop_eq_nil_of_le (by omega), List.drop_eq_nil_of_le (by omega)]; rfl
def fuel16 (a b : List Val) : Nat := a.length + 1
theorem plain16 (a b : List Val) (h : okSameW a b = true) : F16 (fuel16 a b) a b = some (sameV a b, ()) := by
  simp only [okSameW, Bool.and_eq_true, decide_eq_true_eq] at h
  unfold F16 sameV
  by_cases hl : a.length = b.length
  · have hw := fun x0 x1 => w16 (β := Bool × Unit) (fuel16 a b) x0 x1 a b hl h.1 (fuel16 a b) 0 (by unfold fuel16; omega)
    rw [show ((0 : Nat) : Int) = 0 from rfl] at hw
    rw [hw, List.drop_zero, List.drop_zero, hl, bne_self_eq_false, cond_false]
    cases (a == b) <;> rfl
  · have e1 : (((a.length : Nat) : Int) != ((b.length : Nat) : Int)) = true := bne_iff_ne.2 (by omega)
    have e2 : (a == b) = false := beq_false_of_ne (fun e => hl (by rw [e]))
    rw [e1, e2]; rfl
def fuel15 (a b : Opr) : Nat := 0
theorem plain15 (a b : Opr) (h : okOneW a b = true) : F15 (fuel15 a b) a b = some (oneO a b, ()) := by
  unfold okOneW at h
  rw [Bool.and_eq_true] at h
  have h1 : okSameW a.2.2.2.2.1 b.2.2.2.2.1 = true := h.1
  have h2 : okSameW a.2.2.2.2.2.1 b.2.2.2.2.2.1 = true := h.2
  unfold F15
  rw [h1, h2, veqW a.1 b.1, veqW a.2.2.1 b.2.2.1]
  have he : oneO a b = ((a.1 == b.1) && ((a.2.1 == b.2.1) && ((a.2.2.1 == b.2.2.1) && ((a.2.2.2.1 == b.2.2.2.1) && ((sameV a.2.2.2.2.1 b.2.2.2.2.1) && ((sameV a.2.2.2.2.2.1 b.2.2.2.2.2.1) && ((a.2.2.2.2.2.2.1 == b.2.2.2.2.2.2.1) && ((a.2.2.2.2.2.2.2.1 == b.2.2.2.2.2.2.2.1) && true)))))))) := rfl
  rw [he]
  cases (a.1 == b.1) <;> cases (a.2.1 == b.2.1) <;> cases (a.2.2.1 == b.2.2.1) <;> cases (a.2.2.2.1 == b.2.2.2.1) <;> cases (sameV a.2.2.2.2.1 b.2.2.2.2.1) <;> cases (sameV a.2.2.2.2.2.1 b.2.2.2.2.2.1) <;> cases (a.2.2.2.2.2.2.1 == b.2.2.2.2.2.2.1) <;> cases (a.2.2.2.2.2.2.2.1 == b.2.2.2.2.2.2.2.1) <;> rfl
theorem okOpsW_parts {a b : List Opr} (h : okOpsW a b = true) : a.length ≤ 1000 ∧ b.length ≤ 1000 ∧ (∀ x ∈ a, okOneW x x = true) ∧ ∀ y ∈ b, okOneW y y = true := by
  unfold okOpsW at h
  simp only [Bool.and_eq_true, decide_eq_true_eq, List.all_eq_true] at h
  exact ⟨h.1.1.1, h.1.1.2, h.1.2, h.2⟩
theorem okOneW_of {x y : Opr} (h : okOneW x x = true) (k : okOneW y y = true) : okOneW x y = true := by
  unfold okOneW at h k ⊢
  simp only [Bool.and_eq_true, decide_eq_true_eq] at h k ⊢
  exact ⟨⟨h.1.1, k.1.1⟩, ⟨h.2.1, k.2.1⟩⟩
theorem w11 (N : Nat) {β : Type} (x0 : Bool → Option β) (x1 : Unit → Option β) (a b : List Opr) (hl : a.length = b.length) (hs : okOpsW a b = true) : ∀ (n k : Nat), a.length - k < n →
    W11_4 N x0 x1 n a b (k : Int) = bif (a.drop k == b.drop k) then x1 () else x0 false
  | 0, k, h => by omega
  | n + 1, k, h => by
    obtain ⟨s1, s2, s3, s4⟩ := okOpsW_parts hs
    unfold W11_4
    by_cases hd : k < a.length
    · have hd' : k < b.length := by omega
      rw [cond_dec (by omega), cond_t (in_dec hd), cond_t (in_dec hd'), Int.toNat_natCast, cond_t (okOneW_of (s3 _ (getD_mem hd)) (s4 _ (getD_mem hd'))), drop_getD (d := (((0 : Int), ((0 : Int), (ByteArray.empty, ()))), ((0 : Int), (((0 : Int), ((0 : Int), (ByteArray.empty, ()))), ((0 : Int), ([], ([], ((0 : Int), ((0 : Int), ()))))))))) hd, drop_getD (l := b) (d := (((0 : Int), ((0 : Int), (ByteArray.empty, ()))), ((0 : Int), (((0 : Int), ((0 : Int), (ByteArray.empty, ()))), ((0 : Int), ([], ([], ((0 : Int), ((0 : Int), ()))))))))) (by omega), wi64 _ (by omega) (by omega), show ((k : Int) + 1) = ((k + 1 : Nat) : Int) by omega,
        w11 N x0 x1 a b hl hs n (k + 1) (by omega), List.cons_beq_cons]
      show (bif !(a.getD k (((0 : Int), ((0 : Int), (ByteArray.empty, ()))), ((0 : Int), (((0 : Int), ((0 : Int), (ByteArray.empty, ()))), ((0 : Int), ([], ([], ((0 : Int), ((0 : Int), ())))))))) == b.getD k (((0 : Int), ((0 : Int), (ByteArray.empty, ()))), ((0 : Int), (((0 : Int), ((0 : Int), (ByteArray.empty, ()))), ((0 : Int), ([], ([], ((0 : Int), ((0 : Int), ()))))))))) then _ else _) = _
      cases (a.getD k (((0 : Int), ((0 : Int), (ByteArray.empty, ()))), ((0 : Int), (((0 : Int), ((0 : Int), (ByteArray.empty, ()))), ((0 : Int), ([], ([], ((0 : Int), ((0 : Int), ())))))))) == b.getD k (((0 : Int), ((0 : Int), (ByteArray.empty, ()))), ((0 : Int), (((0 : Int), ((0 : Int), (ByteArray.empty, ()))), ((0 : Int), ([], ([], ((0 : Int), ((0 : Int), ()))))))))) <;> rfl
    · rw [cond_dec' (by omega), List.drop_eq_nil_of_le (by omega), List.drop_eq_nil_of_le (by omega)]; rfl
def fuel11 (a b : List Opr) : Nat := a.length + 1
theorem plain11 (a b : List Opr) (h : okOpsW a b = true) : F11 (fuel11 a b) a b = some (sameOps a b, ()) := by
  unfold F11 sameOps
  by_cases hl : a.length = b.length
  · have hw := fun x0 x1 => w11 (β := Bool × Unit) (fuel11 a b) x0 x1 a b hl h (fuel11 a b) 0 (by unfold fuel11; omega)
    rw [show ((0 : Nat) : Int) = 0 from rfl] at hw
    rw [hw, List.drop_zero, List.drop_zero, hl, bne_self_eq_false, cond_false]
    cases (a == b) <;> rfl
  · have e1 : (((a.length : Nat) : Int) != ((b.length : Nat) : Int)) = true := bne_iff_ne.2 (by omega)
    have e2 : (a == b) = false := beq_false_of_ne (fun e => hl (by rw [e]))
    rw [e1, e2]; rfl
theorem pickL_cons (ops : List Opr) (z : Int) (r : List Int) : pickL ops (z :: r) = (pickO ops z).toList ++ pickL ops r := by
  unfold pickL
  rw [List.filterMap_cons]
  cases pickO ops z <;> rfl
theorem w12 (N : Nat) {β : Type} (x1 : List Opr → Option β) (ops : List Opr) (pl : List Int) (h1 : ops.length ≤ 1000) (hl : pl.length ≤ 1000) : ∀ (n k : Nat) (out : List Opr), pl.length - k < n → out.length ≤ k →
    W12_3 N x1 n ops pl out (k : Int) = x1 (out ++ pickL ops (pl.drop k))
  | 0, k, out, h, _ => by omega
  | n + 1, k, out, h, ho => by
    unfold W12_3
    by_cases hd : k < pl.length
    · have ih := fun out => w12 N x1 ops pl h1 hl n (k + 1) out (by omega)
      have hcap : ∀ o : Opr, decide ((out.length + [o].length) * 144 ≤ 140737488351232) = true := fun o => decide_eq_true (by show (out.length + 1) * 144 ≤ _; omega)
      rw [cond_dec (by omega), cond_t (in_dec hd), Int.toNat_natCast, wi64 ((k : Int) + 1) (by omega) (by omega), show ((k : Int) + 1) = ((k + 1 : Nat) : Int) by omega, cond_t (in_dec hd), cond_t (in_dec hd), drop_getD (d := (0 : Int)) hd, pickL_cons]
      generalize pl.getD k (0 : Int) = z
      simp only [hcap, cond_true]
      by_cases hz0 : 0 ≤ z
      · rw [decide_eq_true (show z ≥ 0 by omega), cond_true, Bool.true_and]
        by_cases hz1 : z < (ops.length : Int)
        · have hp : pickO ops z = some (ops.getD z.toNat (((0 : Int), ((0 : Int), (ByteArray.empty, ()))), ((0 : Int), (((0 : Int), ((0 : Int), (ByteArray.empty, ()))), ((0 : Int), ([], ([], ((0 : Int), ((0 : Int), ()))))))))) := by
            unfold pickO
            rw [decide_eq_true hz0, decide_eq_true hz1, List.getD_eq_getElem?_getD, List.getElem?_eq_getElem (by omega)]; rfl
          rw [decide_eq_true hz1, cond_true, cond_true, hp]
          refine (ih _ (by rw [List.length_append, List.length_singleton]; omega)).trans ?_
          rw [List.append_assoc]; rfl
        · have hp : pickO ops z = none := by
            unfold pickO
            rw [decide_eq_false hz1, Bool.and_false]; rfl
          rw [decide_eq_false hz1, cond_false, hp]
          exact ih out (by omega)
      · have hp : pickO ops z = none := by
          unfold pickO
          rw [decide_eq_false hz0, Bool.false_and]; rfl
        rw [decide_eq_false (show ¬ z ≥ 0 by omega), cond_false, hp]
        exact ih out (by omega)
    · rw [cond_dec' (by omega), List.drop_eq_nil_of_le (by omega)]
      show x1 out = x1 (out ++ [])
      rw [List.append_nil]
def fuel12 (ops : List Opr) (pl : List Int) : Nat := pl.length + 1
theorem plain12 (ops : List Opr) (pl : List Int) (h : okPick ops pl = true) : F12 (fuel12 ops pl) ops pl = some (pickL ops pl, ()) := by
  simp only [okPick, Bool.and_eq_true, decide_eq_true_eq] at h
  unfold F12
  exact w12 _ _ ops pl h.1 h.2 _ 0 [] (by unfold fuel12; omega) (Nat.zero_le _)

end Go.L19
