/- Own text of this session: a part of the proof; no condition of its own. -/
import Derived.Test.YtiodlajaecaoaaaWalk
set_option linter.unusedVariables false
set_option linter.unusedSimpArgs false
set_option maxRecDepth 100000
namespace Go.L19
open Go Go.Abs Go.Inc
def fuel6 : Nat := 0
theorem plain6 (_ : true = true) : F6 0 = some (true, ()) := by kernel_rfl
abbrev OD : Opr := ((((0 : Int), ((0 : Int), (ByteArray.empty, ()))) : Val), ((0 : Int), (((0 : Int), ((0 : Int), (ByteArray.empty, ()))), ((0 : Int), (([] : List Val), (([] : List Val), ((0 : Int), ((0 : Int), ()))))))))
theorem w7_9 (N : Nat) {β : Type} (x0 : Bool → Option β) (x3 : List (List Int) → List (List Int) → Int → Option β) (a : List (List Int)) (ha : ∀ l ∈ a, l.length ≤ 1000) (i : Nat) (hi : i < a.length) :
    ∀ (n k : Nat), (a.getD i []).length - k < n → W7_9 N x0 x3 n a a (i : Int) (k : Int) = x3 a a (i : Int)
  | 0, k, h => by omega
  | n + 1, k, h => by
    unfold W7_9
    have hl := ha _ (getD_mem (d := ([] : List Int)) hi)
    rw [cond_t (in_dec hi), Int.toNat_natCast]
    by_cases hd : k < (a.getD i []).length
    · rw [cond_dec (by omega), cond_t (in_dec hd), cond_t (in_dec hd), Int.toNat_natCast, bne_self_eq_false, cond_false, wi64 _ (by omega) (by omega), show ((k : Int) + 1) = ((k + 1 : Nat) : Int) by omega]
      rw [cond_t (in_dec hi), cond_t (in_dec hi)]
      exact w7_9 N x0 x3 a ha i hi n (k + 1) (by omega)
    · rw [cond_dec' (by omega)]
theorem w7_4 (N : Nat) (hN : 2000 ≤ N) {β : Type} (x0 : Bool → Option β) (x1 : Unit → Option β) (a : List (List Int)) (ha : ∀ l ∈ a, l.length ≤ 1000) (hs : a.length ≤ 1000) :
    ∀ (n i : Nat), a.length - i < n → W7_4 N x0 x1 n a a (i : Int) = x1 ()
  | 0, i, h => by omega
  | n + 1, i, h => by
    unfold W7_4
    by_cases hd : i < a.length
    · have hl := ha _ (getD_mem (d := ([] : List Int)) hd)
      rw [cond_dec (by omega), cond_t (in_dec hd), cond_t (in_dec hd), bne_self_eq_false, cond_false]
      refine (w7_9 N _ _ a ha i hd N 0 (by omega)).trans ?_
      rw [wi64 _ (by omega) (by omega), show ((i : Int) + 1) = ((i + 1 : Nat) : Int) by omega]
      exact w7_4 N hN x0 x1 a ha hs n (i + 1) (by omega)
    · rw [cond_dec' (by omega)]
def fuel7 (a b : List (List Int)) : Nat := 2000
theorem plain7 (a b : List (List Int)) (h : okLL a b = true) : F7 (fuel7 a b) a b = some (sameLL a b, ()) := by
  simp only [okLL, Bool.and_eq_true, decide_eq_true_eq, List.all_eq_true] at h
  obtain ⟨h1, h2, h3⟩ := h
  obtain rfl := eq_of_beq h1
  unfold F7
  rw [bne_self_eq_false, cond_false]
  exact w7_4 _ (by unfold fuel7; omega) _ _ a h3 h2 _ 0 (by unfold fuel7; omega)
theorem w13 (N : Nat) {β : Type} (x0 x1 : Int → Option β) (ops : List Opr) (hs : ops.length ≤ 1000) (i : Nat) (hi : i < ops.length) (hx : x1 (i : Int) = x0 (i : Int)) :
    ∀ (n k : Nat), i - k < n → k ≤ i → (∀ q, q < k → keyAt ops q ≠ keyAt ops i) → W13_2 N x0 x1 n ops (i : Int) (k : Int) = x0 ((firstN ops i : Nat) : Int)
  | 0, k, h, _, _ => by omega
  | n + 1, k, h, hk, hq => by
    unfold W13_2
    by_cases hd : k < i
    · have hdl : k < ops.length := by omega
      have ih := fun hq => w13 N x0 x1 ops hs i hi hx n (k + 1) (by omega) (by omega) hq
      have hkb := key_beq (ops.getD k OD) (ops.getD i OD)
      rw [cond_dec (by omega), cond_t (in_dec hdl), cond_t (in_dec hi), Int.toNat_natCast, Int.toNat_natCast, wi64 _ (by omega) (by omega), show ((k : Int) + 1) = ((k + 1 : Nat) : Int) by omega]
      have key : (objK (ops.getD k OD) == objK (ops.getD i OD)) = true ∨ (objK (ops.getD k OD) == objK (ops.getD i OD)) = false := by cases (objK (ops.getD k OD) == objK (ops.getD i OD)) <;> simp
      have hne : (objK (ops.getD k OD) == objK (ops.getD i OD)) = false → W13_2 N x0 x1 n ops (i : Int) ((k + 1 : Nat) : Int) = x0 ((firstN ops i : Nat) : Int) := fun e => ih fun q hq' => by
        by_cases hqk : q < k
        · exact hq q hqk
        · obtain rfl : q = k := by omega
          intro e'
          have e'' : objK (ops.getD q OD) = objK (ops.getD i OD) := e'
          rw [e'', beq_self_eq_true] at e; cases e
      cases hm : ((ops.getD k OD).2.1 == (ops.getD i OD).2.1) with
      | false =>
        rw [hm, Bool.false_and] at hkb
        simp only [cond_false]
        exact hne hkb.symm
      | true =>
        rw [hm, Bool.true_and] at hkb
        simp only [cond_true]
        rw [cond_t (in_dec hdl), cond_t (in_dec hi), hkb]
        cases he : (objK (ops.getD k OD) == objK (ops.getD i OD)) with
        | false =>
          simp only [cond_false]
          exact hne he
        | true =>
          have e : keyAt ops k = keyAt ops i := eq_of_beq he
          have : firstN ops i = k := (first_iff hi).2 ⟨by omega, e, hq⟩
          rw [this]; rfl
    · obtain rfl : k = i := by omega
      rw [cond_dec' (by omega), hx]
      have : firstN ops k = k := (first_iff hi).2 ⟨Nat.le_refl _, rfl, hq⟩
      rw [this]
def fuel13 (ops : List Opr) (i : Int) : Nat := 2000
theorem plain13 (ops : List Opr) (i : Int) (h : okFirst ops i = true) : F13 (fuel13 ops i) ops i = some (firstO ops i, ()) := by
  simp only [okFirst, Bool.and_eq_true, decide_eq_true_eq] at h
  obtain ⟨h1, h2, h3⟩ := h
  obtain ⟨m, rfl⟩ : ∃ m : Nat, i = (m : Int) := ⟨i.toNat, (Int.toNat_of_nonneg h2).symm⟩
  unfold F13
  refine (w13 _ _ _ ops h1 m (by omega) rfl _ 0 (by unfold fuel13; omega) (Nat.zero_le _) (fun q hq => by omega)).trans ?_
  unfold firstO
  rw [Int.toNat_natCast]
theorem okF_at {ops : List Opr} (hs : ops.length ≤ 1000) {k : Nat} (hk : k < ops.length) : okFirst ops (k : Int) = true := by
  simp only [okFirst, Bool.and_eq_true, decide_eq_true_eq]; omega
theorem firstO_nat (ops : List Opr) (k : Nat) : firstO ops (k : Int) = ((firstN ops k : Nat) : Int) := by
  unfold firstO; rw [Int.toNat_natCast]
theorem w9_8 (N : Nat) {β : Type} (x3 : List Opr → List (List Int) → Int → List Int → Option β) (ops : List Opr) (hs : ops.length ≤ 1000) (out : List (List Int)) (i : Nat) :
    ∀ (n k : Nat) (acc : List Int), ops.length - k < n → acc.length ≤ k → W9_8 N x3 n ops out (i : Int) acc (k : Int) = x3 ops out (i : Int) (acc ++ ((((List.range ops.length).drop k).filter fun q => firstN ops q == i).map Int.ofNat))
  | 0, k, acc, h, _ => by omega
  | n + 1, k, acc, h, hk => by
    unfold W9_8
    by_cases hd : k < ops.length
    · have ih := fun acc h => w9_8 N x3 ops hs out i n (k + 1) acc (by omega) h
      have hr : (List.range ops.length).drop k = k :: (List.range ops.length).drop (k + 1) := by
        rw [List.drop_eq_getElem_cons (by simpa using hd)]; simp
      rw [cond_dec (by omega), okF_at hs hd, cond_true, firstO_nat, wi64 _ (by omega) (by omega), show ((k : Int) + 1) = ((k + 1 : Nat) : Int) by omega, hr, List.filter_cons]
      have hb : (((firstN ops k : Nat) : Int) == (i : Int)) = (firstN ops k == i) := by
        rw [Bool.eq_iff_iff]; simp only [beq_iff_eq]; omega
      rw [hb]
      cases (firstN ops k == i) with
      | true =>
        simp only [cond_true, if_true]
        rw [cond_dec (by simp only [List.length_cons, List.length_nil]; omega)]
        refine (ih _ (by simp only [List.length_append, List.length_cons, List.length_nil]; omega)).trans ?_
        rw [List.append_assoc]; rfl
      | false =>
        simp only [cond_false, Bool.false_eq_true, if_false]
        exact ih acc (by omega)
    · rw [cond_dec' (by omega), List.drop_of_length_le (by simp; omega)]
      simp
theorem w9_3 (N : Nat) (hN : 2000 ≤ N) {β : Type} (x1 : List (List Int) → Option β) (ops : List Opr) (hs : ops.length ≤ 1000) :
    ∀ (n i : Nat) (out : List (List Int)), ops.length - i < n → out.length ≤ i → W9_3 N x1 n ops out (i : Int) = x1 (out ++ (((List.range ops.length).drop i).filter fun q => firstN ops q == q).map (ownOf ops))
  | 0, i, out, h, _ => by omega
  | n + 1, i, out, h, hk => by
    unfold W9_3
    by_cases hd : i < ops.length
    · have ih := fun out h => w9_3 N hN x1 ops hs n (i + 1) out (by omega) h
      have hr : (List.range ops.length).drop i = i :: (List.range ops.length).drop (i + 1) := by
        rw [List.drop_eq_getElem_cons (by simpa using hd)]; simp
      rw [cond_dec (by omega), okF_at hs hd, cond_true, firstO_nat, hr, List.filter_cons]
      have hb : (((firstN ops i : Nat) : Int) != (i : Int)) = !(firstN ops i == i) := by
        rw [Bool.eq_iff_iff]; simp only [bne_iff_ne, Bool.not_eq_true', beq_eq_false_iff_ne, ne_eq]; omega
      rw [hb]
      cases (firstN ops i == i) with
      | false =>
        simp only [Bool.not_false, cond_true, Bool.false_eq_true, if_false]
        rw [wi64 _ (by omega) (by omega), show ((i : Int) + 1) = ((i + 1 : Nat) : Int) by omega]
        exact ih out (by omega)
      | true =>
        simp only [Bool.not_true, cond_false, if_true]
        refine (w9_8 N _ ops hs out i N i [] (by omega) (by simp)).trans ?_
        rw [List.nil_append]
        show (bif decide ((out.length + List.length [ownOf ops i]) * 24 ≤ 140737488351232) then W9_3 N x1 n ops (out ++ [ownOf ops i]) (IntKind.wrap .i64 ((i : Int) + 1)) else none) = _
        rw [wi64 _ (by omega) (by omega), show ((i : Int) + 1) = ((i + 1 : Nat) : Int) by omega, cond_dec (by simp only [List.length_cons, List.length_nil]; omega)]
        refine (ih _ (by simp only [List.length_append, List.length_cons, List.length_nil]; omega)).trans ?_
        rw [List.append_assoc]; rfl
    · rw [cond_dec' (by omega), List.drop_of_length_le (by simp; omega)]
      simp
def fuel9 (ops : List Opr) : Nat := 2000
theorem plain9 (ops : List Opr) (h : okObj ops = true) : F9 (fuel9 ops) ops = some (refObjs ops, ()) := by
  have hs : ops.length ≤ 1000 := of_decide_eq_true h
  unfold F9
  exact w9_3 _ (by unfold fuel9; omega) _ ops hs _ 0 [] (by unfold fuel9; omega) (by simp)
def fuel3 (ops : List Opr) : Nat := 0
theorem okLL_self {ops : List Opr} (hs : ops.length ≤ 1000) : okLL (objects ops) (refObjs ops) = true := by
  rw [objects_ref]
  simp only [okLL, Bool.and_eq_true, decide_eq_true_eq, List.all_eq_true, beq_self_eq_true, true_and]
  refine ⟨?_, fun l hl => ?_⟩
  · have := heads_len ops
    rw [refObjs_eq, List.length_map]; omega
  · rw [refObjs_eq] at hl
    obtain ⟨h, _, rfl⟩ := List.mem_map.1 hl
    have := own_len ops h
    rw [ownOf_eq, List.length_map]; omega
theorem plain3 (ops : List Opr) (h : okOps ops = true) : F3 0 ops = some (true, ()) := by
  unfold F3
  by_cases hl : ops.length ≤ 60
  · have ho : okObj ops = true := decide_eq_true (by omega)
    rw [cond_dec' (by omega), ho, okLL_self (by omega)]; rfl
  · rw [cond_dec (by omega)]

end Go.L19
