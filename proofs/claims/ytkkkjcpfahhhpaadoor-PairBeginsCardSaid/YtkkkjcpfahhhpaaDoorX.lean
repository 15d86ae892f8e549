/- Own text of this session: a part of the proof; no condition of its own. -/
import Derived.Test.YtkkkjcpfahhhpaaDoorT
set_option linter.unusedVariables false
set_option linter.unusedSimpArgs false
set_option maxRecDepth 100000
namespace Go.L12
open Go Go.Abs Go.Inc
def fuel15 (a b : Opr) : Nat := 0
theorem plain15 (a b : Opr) (h : okOne2 a b = true) : F15 (fuel15 a b) a b = some (oneO a b, ()) := by
  unfold okOne2 at h
  rw [Bool.and_eq_true] at h
  have h1 : okSame2 a.2.2.2.2.1 b.2.2.2.2.1 = true := h.1
  have h2 : okSame2 a.2.2.2.2.2.1 b.2.2.2.2.2.1 = true := h.2
  unfold F15
  rw [h1, h2, val_beq a.1 b.1, val_beq a.2.2.1 b.2.2.1]
  have he : oneO a b = ((a.1 == b.1) && ((a.2.1 == b.2.1) && ((a.2.2.1 == b.2.2.1) && ((a.2.2.2.1 == b.2.2.2.1) && ((sameV a.2.2.2.2.1 b.2.2.2.2.1) && ((sameV a.2.2.2.2.2.1 b.2.2.2.2.2.1) && ((a.2.2.2.2.2.2.1 == b.2.2.2.2.2.2.1) && ((a.2.2.2.2.2.2.2.1 == b.2.2.2.2.2.2.2.1) && true)))))))) := rfl
  rw [he]
  cases (a.1 == b.1) <;> cases (a.2.1 == b.2.1) <;> cases (a.2.2.1 == b.2.2.1) <;> cases (a.2.2.2.1 == b.2.2.2.1) <;> cases (sameV a.2.2.2.2.1 b.2.2.2.2.1) <;> cases (sameV a.2.2.2.2.2.1 b.2.2.2.2.2.1) <;> cases (a.2.2.2.2.2.2.1 == b.2.2.2.2.2.2.1) <;> cases (a.2.2.2.2.2.2.2.1 == b.2.2.2.2.2.2.2.1) <;> rfl
theorem okOps2_parts {a b : List Opr} (h : okOps2 a b = true) : a.length ≤ 1000 ∧ b.length ≤ 1000 ∧ (∀ x ∈ a, okOne2 x x = true) ∧ ∀ y ∈ b, okOne2 y y = true := by
  unfold okOps2 at h
  simp only [Bool.and_eq_true, decide_eq_true_eq, List.all_eq_true] at h
  exact ⟨h.1.1.1, h.1.1.2, h.1.2, h.2⟩
theorem okOne2_of {x y : Opr} (h : okOne2 x x = true) (k : okOne2 y y = true) : okOne2 x y = true := by
  unfold okOne2 at h k ⊢
  simp only [Bool.and_eq_true, decide_eq_true_eq] at h k ⊢
  exact ⟨⟨h.1.1, k.1.1⟩, ⟨h.2.1, k.2.1⟩⟩
theorem w13 (N : Nat) {β : Type} (x0 : Bool → Option β) (x1 : Unit → Option β) (a b : List Opr) (hl : a.length = b.length) (hs : okOps2 a b = true) : ∀ (n k : Nat), a.length - k < n →
    W13_4 N x0 x1 n a b (k : Int) = bif (a.drop k == b.drop k) then x1 () else x0 false
  | 0, k, h => by omega
  | n + 1, k, h => by
    obtain ⟨s1, s2, s3, s4⟩ := okOps2_parts hs
    unfold W13_4
    by_cases hd : k < a.length
    · have hd' : k < b.length := by omega
      rw [cond_dec (by omega), cond_t (in_dec hd), cond_t (in_dec hd'), Int.toNat_natCast, cond_t (okOne2_of (s3 _ (getD_mem hd)) (s4 _ (getD_mem hd'))), drop_getD (d := (((0 : Int), ((0 : Int), (ByteArray.empty, ()))), ((0 : Int), (((0 : Int), ((0 : Int), (ByteArray.empty, ()))), ((0 : Int), ([], ([], ((0 : Int), ((0 : Int), ()))))))))) hd, drop_getD (l := b) (d := (((0 : Int), ((0 : Int), (ByteArray.empty, ()))), ((0 : Int), (((0 : Int), ((0 : Int), (ByteArray.empty, ()))), ((0 : Int), ([], ([], ((0 : Int), ((0 : Int), ()))))))))) (by omega), wi64 _ (by omega) (by omega), show ((k : Int) + 1) = ((k + 1 : Nat) : Int) by omega,
        w13 N x0 x1 a b hl hs n (k + 1) (by omega), List.cons_beq_cons]
      show (bif !(a.getD k (((0 : Int), ((0 : Int), (ByteArray.empty, ()))), ((0 : Int), (((0 : Int), ((0 : Int), (ByteArray.empty, ()))), ((0 : Int), ([], ([], ((0 : Int), ((0 : Int), ())))))))) == b.getD k (((0 : Int), ((0 : Int), (ByteArray.empty, ()))), ((0 : Int), (((0 : Int), ((0 : Int), (ByteArray.empty, ()))), ((0 : Int), ([], ([], ((0 : Int), ((0 : Int), ()))))))))) then _ else _) = _
      cases (a.getD k (((0 : Int), ((0 : Int), (ByteArray.empty, ()))), ((0 : Int), (((0 : Int), ((0 : Int), (ByteArray.empty, ()))), ((0 : Int), ([], ([], ((0 : Int), ((0 : Int), ())))))))) == b.getD k (((0 : Int), ((0 : Int), (ByteArray.empty, ()))), ((0 : Int), (((0 : Int), ((0 : Int), (ByteArray.empty, ()))), ((0 : Int), ([], ([], ((0 : Int), ((0 : Int), ()))))))))) <;> rfl
    · rw [cond_dec' (by omega), List.drop_eq_nil_of_le (by omega), List.drop_eq_nil_of_le (by omega)]; rfl
def fuel13 (a b : List Opr) : Nat := a.length + 1
theorem plain13 (a b : List Opr) (h : okOps2 a b = true) : F13 (fuel13 a b) a b = some (sameOps a b, ()) := by
  unfold F13 sameOps
  by_cases hl : a.length = b.length
  · have hw := fun x0 x1 => w13 (β := Bool × Unit) (fuel13 a b) x0 x1 a b hl h (fuel13 a b) 0 (by unfold fuel13; omega)
    rw [show ((0 : Nat) : Int) = 0 from rfl] at hw
    rw [hw, List.drop_zero, List.drop_zero, hl, bne_self_eq_false, cond_false]
    cases (a == b) <;> rfl
  · have e1 : (((a.length : Nat) : Int) != ((b.length : Nat) : Int)) = true := bne_iff_ne.2 (by omega)
    have e2 : (a == b) = false := beq_false_of_ne (fun e => hl (by rw [e]))
    rw [e1, e2]; rfl
theorem refOper_def (h : List Evt) (i : Nat) : refOper h i = bif Ev.typ (h.getD i ((0 : Int), (((0 : Int), ((0 : Int), (ByteArray.empty, ()))), ((0 : Int), ((0 : Int), (((0 : Int), ((0 : Int), (ByteArray.empty, ()))), ((0 : Int), ([], ([], (false, (ByteArray.empty, ()))))))))))) != 1 then none else bif decide (0 ≤ nextE h i) && Ev.typ (h.getD (nextE h i).toNat ((0 : Int), (((0 : Int), ((0 : Int), (ByteArray.empty, ()))), ((0 : Int), ((0 : Int), (((0 : Int), ((0 : Int), (ByteArray.empty, ()))), ((0 : Int), ([], ([], (false, (ByteArray.empty, ()))))))))))) == 3 then none else
  bif decide (0 ≤ nextE h i) && Ev.typ (h.getD (nextE h i).toNat ((0 : Int), (((0 : Int), ((0 : Int), (ByteArray.empty, ()))), ((0 : Int), ((0 : Int), (((0 : Int), ((0 : Int), (ByteArray.empty, ()))), ((0 : Int), ([], ([], (false, (ByteArray.empty, ()))))))))))) == 2 then some (operOf (h.getD i ((0 : Int), (((0 : Int), ((0 : Int), (ByteArray.empty, ()))), ((0 : Int), ((0 : Int), (((0 : Int), ((0 : Int), (ByteArray.empty, ()))), ((0 : Int), ([], ([], (false, (ByteArray.empty, ()))))))))))) i (nextE h i) (Ev.out (h.getD (nextE h i).toNat ((0 : Int), (((0 : Int), ((0 : Int), (ByteArray.empty, ()))), ((0 : Int), ((0 : Int), (((0 : Int), ((0 : Int), (ByteArray.empty, ()))), ((0 : Int), ([], ([], (false, (ByteArray.empty, ()))))))))))))) else some (operOf (h.getD i ((0 : Int), (((0 : Int), ((0 : Int), (ByteArray.empty, ()))), ((0 : Int), ((0 : Int), (((0 : Int), ((0 : Int), (ByteArray.empty, ()))), ((0 : Int), ([], ([], (false, (ByteArray.empty, ()))))))))))) i (-1) []) := rfl
theorem w14 (N : Nat) {β : Type} (x1 : List Opr → Option β) (h : List Evt) (hk : Inc.okAll h = true) (hl : h.length ≤ 1000) : ∀ (n i : Nat) (out : List Opr), h.length - i < n → i ≤ h.length → out.length ≤ i →
    W14_3 N x1 n h out (i : Int) = x1 (out ++ (List.range' i (h.length - i)).filterMap (refOper h))
  | 0, i, out, hn, _, _ => by omega
  | n + 1, i, out, hn, hle, ho => by
    unfold W14_3
    by_cases hi : i < h.length
    · have hs : h.length - i = (h.length - (i + 1)) + 1 := by omega
      have ih := fun out => w14 N x1 h hk hl n (i + 1) out (by omega) (by omega)
      have hcap : ∀ o : Opr, decide ((out.length + [o].length) * 144 ≤ 140737488351232) = true := fun o => decide_eq_true (by show (out.length + 1) * 144 ≤ _; omega)
      rw [cond_dec (by omega), cond_t (in_dec hi), Int.toNat_natCast, wi64 ((i : Int) + 1) (by omega) (by omega), show ((i : Int) + 1) = ((i + 1 : Nat) : Int) by omega, cond_t (okAt_of hk hi), hs, List.range'_succ, List.filterMap_cons, refOper_def]
      simp only [hcap, cond_true]
      rcases next_cases h i with e | ⟨j, hij, hj, e⟩
      · simp only [e, show decide ((-1 : Int) ≥ 0) = false from rfl, show decide ((0 : Int) ≤ -1) = false from rfl, cond_false, Bool.false_and]
        generalize h.getD i ((0 : Int), (((0 : Int), ((0 : Int), (ByteArray.empty, ()))), ((0 : Int), ((0 : Int), (((0 : Int), ((0 : Int), (ByteArray.empty, ()))), ((0 : Int), ([], ([], (false, (ByteArray.empty, ())))))))))) = x
        show (bif Ev.typ x != 1 then _ else _) = _
        cases (Ev.typ x != 1) with
        | true => exact ih out (by omega)
        | false =>
          refine (ih _ (by rw [List.length_append, List.length_singleton]; omega)).trans ?_
          rw [List.append_assoc]; rfl
      · simp only [e, decide_eq_true (show (j : Int) ≥ 0 by omega), decide_eq_true (show (0 : Int) ≤ j by omega), cond_true, decide_eq_true (show (j : Int) < (h.length : Int) by omega), Bool.and_self, Int.toNat_natCast, Bool.true_and]
        generalize h.getD i ((0 : Int), (((0 : Int), ((0 : Int), (ByteArray.empty, ()))), ((0 : Int), ((0 : Int), (((0 : Int), ((0 : Int), (ByteArray.empty, ()))), ((0 : Int), ([], ([], (false, (ByteArray.empty, ())))))))))) = x
        generalize h.getD j ((0 : Int), (((0 : Int), ((0 : Int), (ByteArray.empty, ()))), ((0 : Int), ((0 : Int), (((0 : Int), ((0 : Int), (ByteArray.empty, ()))), ((0 : Int), ([], ([], (false, (ByteArray.empty, ())))))))))) = y
        show (bif Ev.typ x != 1 then _ else bif Ev.typ y == 3 then _ else bif Ev.typ y == 2 then _ else _) = _
        cases (Ev.typ x != 1) with
        | true => exact ih out (by omega)
        | false =>
          cases (Ev.typ y == 3) with
          | true => exact ih out (by omega)
          | false =>
            cases (Ev.typ y == 2) with
            | true =>
              refine (ih _ (by rw [List.length_append, List.length_singleton]; omega)).trans ?_
              rw [List.append_assoc]; rfl
            | false =>
              refine (ih _ (by rw [List.length_append, List.length_singleton]; omega)).trans ?_
              rw [List.append_assoc]; rfl
    · rw [cond_dec' (by omega), show h.length - i = 0 by omega]
      rw [List.range'_zero, List.filterMap_nil, List.append_nil]
def fuel14 (h : List Evt) : Nat := h.length + 1
theorem plain14 (h : List Evt) (hk : Inc.okAll h = true) : F14 (fuel14 h) h = some (refOpers h, ()) := by
  obtain ⟨hH, hl, hE⟩ := okAll_parts hk
  unfold F14
  refine (w14 _ _ h hk hl _ 0 _ (by unfold fuel14; omega) (by omega) (Nat.zero_le _)).trans ?_
  rw [Nat.sub_zero, ← List.range_eq_range']; rfl

theorem pairOper_def (h : List Evt) (c : Clk) (i : Nat) : pairOper h c i = bif Ev.typ (h.getD i ((0 : Int), (((0 : Int), ((0 : Int), (ByteArray.empty, ()))), ((0 : Int), ((0 : Int), (((0 : Int), ((0 : Int), (ByteArray.empty, ()))), ((0 : Int), ([], ([], (false, (ByteArray.empty, ()))))))))))) != 1 || (Ck.gone c).any (· == (i : Int)) then none else
  bif decide ((Ck.ends c).getD i 0 > 0) then some (operOf (h.getD i ((0 : Int), (((0 : Int), ((0 : Int), (ByteArray.empty, ()))), ((0 : Int), ((0 : Int), (((0 : Int), ((0 : Int), (ByteArray.empty, ()))), ((0 : Int), ([], ([], (false, (ByteArray.empty, ()))))))))))) i ((Ck.ends c).getD i 0) (Ev.out (h.getD ((Ck.ends c).getD i 0).toNat ((0 : Int), (((0 : Int), ((0 : Int), (ByteArray.empty, ()))), ((0 : Int), ((0 : Int), (((0 : Int), ((0 : Int), (ByteArray.empty, ()))), ((0 : Int), ([], ([], (false, (ByteArray.empty, ()))))))))))))) else some (operOf (h.getD i ((0 : Int), (((0 : Int), ((0 : Int), (ByteArray.empty, ()))), ((0 : Int), ((0 : Int), (((0 : Int), ((0 : Int), (ByteArray.empty, ()))), ((0 : Int), ([], ([], (false, (ByteArray.empty, ()))))))))))) i (-1) []) := rfl
theorem w12 (N : Nat) {β : Type} (x1 : Int → Int → Int → Int → List Opr → Option β) (h : List Evt) (hW : WellF h) (hk : Inc.okAll h = true) (hl : h.length ≤ 1000) (c : Clk) (H : CInv h h.length c) (b3a b3ba b5a b5ba q : Int) : ∀ (n i : Nat) (out : List Opr), h.length - i < n → i ≤ h.length → out.length ≤ i →
    W12_6 N x1 n h b3a b3ba b5a b5ba out q (Ck.gone c) (Ck.ends c) h ((h.length : Nat) : Int) (i : Int) = x1 b3a b3ba b5a b5ba (out ++ (List.range' i (h.length - i)).filterMap (pairOper h c))
  | 0, i, out, hn, _, _ => by omega
  | n + 1, i, out, hn, hle, ho => by
    unfold W12_6
    by_cases hi : i < h.length
    · have hs : h.length - i = (h.length - (i + 1)) + 1 := by omega
      have ih := fun out => w12 N x1 h hW hk hl c H b3a b3ba b5a b5ba q n (i + 1) out (by omega) (by omega)
      have hcap : ∀ o : Opr, decide ((out.length + [o].length) * 144 ≤ 140737488351232) = true := fun o => decide_eq_true (by show (out.length + 1) * 144 ≤ _; omega)
      have hgl : okIdxI (Ck.gone c) (i : Int) = true := decide_eq_true (by have := H.glen; omega)
      have hel : i < (Ck.ends c).length := by rw [H.elen]; exact hi
      have hgo : hasI (Ck.gone c) (i : Int) = (Ck.gone c).any (· == (i : Int)) := rfl
      have hr := wrong_right (hW i hi)
      have hcl : okClone (Ev.args (h.getD i ((0 : Int), (((0 : Int), ((0 : Int), (ByteArray.empty, ()))), ((0 : Int), ((0 : Int), (((0 : Int), ((0 : Int), (ByteArray.empty, ()))), ((0 : Int), ([], ([], (false, (ByteArray.empty, ())))))))))))) = true := decide_eq_true (by have := (right_parts (e := h.getD i ((0 : Int), (((0 : Int), ((0 : Int), (ByteArray.empty, ()))), ((0 : Int), ((0 : Int), (((0 : Int), ((0 : Int), (ByteArray.empty, ()))), ((0 : Int), ([], ([], (false, (ByteArray.empty, ()))))))))))) hr).2.2.2.1.1; omega)
      rw [cond_dec (by omega), cond_t (in_dec hi), Int.toNat_natCast, wi64 ((i : Int) + 1) (by omega) (by omega), show ((i : Int) + 1) = ((i + 1 : Nat) : Int) by omega, cond_t hgl, hgo, hs, List.range'_succ, List.filterMap_cons, pairOper_def, cond_t (in_dec hel)]
      simp only [hcap, cond_true]
      rcases H.ends i hi with ⟨e, _⟩ | ⟨j, hj, e, hj2, hjl⟩
      · simp only [e, show decide ((0 : Int) > 0) = false from rfl, cond_false]
        generalize h.getD i ((0 : Int), (((0 : Int), ((0 : Int), (ByteArray.empty, ()))), ((0 : Int), ((0 : Int), (((0 : Int), ((0 : Int), (ByteArray.empty, ()))), ((0 : Int), ([], ([], (false, (ByteArray.empty, ())))))))))) = x at hcl
        rw [cond_t hcl]
        show (bif Ev.typ x != 1 then _ else _) = _
        cases (Ev.typ x != 1) with
        | true => exact ih out (by omega)
        | false =>
          cases (Ck.gone c).any (· == (i : Int)) with
          | true => exact ih out (by omega)
          | false =>
            refine (ih _ (by rw [List.length_append, List.length_singleton]; omega)).trans ?_
            rw [List.append_assoc]; rfl
      · have hij := ((lastN_iff h _ j i).1 hjl).1
        have hry := wrong_right (hW j hj)
        have hcy : okClone (Ev.out (h.getD j ((0 : Int), (((0 : Int), ((0 : Int), (ByteArray.empty, ()))), ((0 : Int), ((0 : Int), (((0 : Int), ((0 : Int), (ByteArray.empty, ()))), ((0 : Int), ([], ([], (false, (ByteArray.empty, ())))))))))))) = true := decide_eq_true (by
          have h1 := (okAll_parts hk).2.2 _ (getD_mem (d := ((0 : Int), (((0 : Int), ((0 : Int), (ByteArray.empty, ()))), ((0 : Int), ((0 : Int), (((0 : Int), ((0 : Int), (ByteArray.empty, ()))), ((0 : Int), ([], ([], (false, (ByteArray.empty, ()))))))))))) hj)
          unfold evLen at h1
          have hry' : rightE (h.getD j ((0 : Int), (((0 : Int), ((0 : Int), (ByteArray.empty, ()))), ((0 : Int), ((0 : Int), (((0 : Int), ((0 : Int), (ByteArray.empty, ()))), ((0 : Int), ([], ([], (false, (ByteArray.empty, ()))))))))))) = true := hry
          rw [hry', Bool.not_true, Bool.false_or, decide_eq_true_eq] at h1
          omega)
        simp only [e, decide_eq_true (show (j : Int) > 0 by omega), decide_eq_true (show (0 : Int) ≤ j by omega), cond_true, decide_eq_true (show (j : Int) < (h.length : Int) by omega), Bool.and_self, Int.toNat_natCast]
        generalize h.getD i ((0 : Int), (((0 : Int), ((0 : Int), (ByteArray.empty, ()))), ((0 : Int), ((0 : Int), (((0 : Int), ((0 : Int), (ByteArray.empty, ()))), ((0 : Int), ([], ([], (false, (ByteArray.empty, ())))))))))) = x at hcl
        generalize h.getD j ((0 : Int), (((0 : Int), ((0 : Int), (ByteArray.empty, ()))), ((0 : Int), ((0 : Int), (((0 : Int), ((0 : Int), (ByteArray.empty, ()))), ((0 : Int), ([], ([], (false, (ByteArray.empty, ())))))))))) = y at hcy
        rw [cond_t hcl, cond_t hcy]
        show (bif Ev.typ x != 1 then _ else _) = _
        cases (Ev.typ x != 1) with
        | true => exact ih out (by omega)
        | false =>
          cases (Ck.gone c).any (· == (i : Int)) with
          | true => exact ih out (by omega)
          | false =>
            refine (ih _ (by rw [List.length_append, List.length_singleton]; omega)).trans ?_
            rw [List.append_assoc]; rfl
    · rw [cond_dec' (by omega), show h.length - i = 0 by omega]
      rw [List.range'_zero, List.filterMap_nil, List.append_nil]
def fuel12 (h : List Evt) : Nat := h.length + 1
theorem plain12 (h : List Evt) (hk : Inc.okAll h = true) : F12 (fuel12 h) h = some (pairOpers h) := by
  obtain ⟨hH, hl, hE⟩ := okAll_parts hk
  unfold F12 pairOpers
  rw [cond_t hk]
  cases hz : ((pairAll h).2.1 != 0) with
  | true => rfl
  | false =>
    rw [cond_false, cond_false]
    have hz' : (pairAll h).2.1 = 0 := by
      have := hz
      rw [bne_eq_false_iff_eq] at this; exact this
    obtain ⟨k1, k2⟩ := all_ref h (h.length + 1) 0 _ (CInv.begin h) (by omega) (by omega)
    obtain ⟨k3, k4⟩ := k2 hz'
    refine (w12 _ _ h (fun j hj => k4 j (by omega) hj) hk hl (pairAll h).1 k3 _ _ _ _ _ _ 0 _ (by unfold fuel12; omega) (by omega) (Nat.zero_le _)).trans ?_
    rw [Nat.sub_zero, ← List.range_eq_range']; rfl

def fuel3 (h : List Evt) : Nat := 0
theorem plain3 (h : List Evt) (hk : Inc.okH h = true) : F3 (fuel3 h) h = some (true, ()) := by
  unfold F3
  rw [cond_t (show okGH h 60 = true from hk)]
  cases hg : greatH h 60 with
  | true => rfl
  | false =>
    have hA := all_of_great hk hg
    rw [cond_false, cond_t hA, cond_t hA, pairCheck_ref, beq_self_eq_true, beq_self_eq_true]; rfl
theorem pairOpers_cases (h : List Evt) : ((refCheck h).1 ≠ 0 ∧ pairOpers h = ([], (refCheck h, ()))) ∨ (refCheck h = (0, (0, ())) ∧ WellF h ∧ pairOpers h = (refOpers h, ((0, (0, ())), ()))) := by
  rw [pairOpers_ref]
  by_cases hz : (refCheck h).1 = 0
  · obtain ⟨a, b⟩ := check_zero h hz
    refine .inr ⟨a, b, ?_⟩
    rw [a]; rfl
  · refine .inl ⟨hz, ?_⟩
    rw [show ((refCheck h).1 != 0) = true from bne_iff_ne.2 hz]; rfl
def fuel4 (h : List Evt) : Nat := 0
theorem plain4 (h : List Evt) (hk : Inc.okH h = true) : F4 (fuel4 h) h = some (true, ()) := by
  unfold F4
  rw [cond_t (show okGH h 60 = true from hk)]
  cases hg : greatH h 60 with
  | true => rfl
  | false =>
    have hA := all_of_great hk hg
    rw [cond_false, cond_t hA, cond_t hA]
    rcases pairOpers_cases h with ⟨a, b⟩ | ⟨a, b, c⟩
    · rw [b, bne_self_eq_false, bne_self_eq_false, cond_false, cond_false, show ((refCheck h).1 != 0) = true from bne_iff_ne.2 a]; rfl
    · rw [a, c]
      show (bif okAll h then (bif okOps2 (refOpers h) (refOpers h) then some (sameOps (refOpers h) (refOpers h), ()) else none) else none) = _
      rw [cond_t hA, cond_t (okOps2_refs hA b)]
      show some ((refOpers h == refOpers h), ()) = _
      rw [beq_self_eq_true]
theorem w5_14 (N : Nat) {β : Type} (x0 : Bool → Option β) (x3 : List Evt → List Opr → List Opr → Int → Int → Option β) (t0 : List Evt) (t3 t24 : List Opr) (t25 t26 : Int) (a : Opr) (l : List Opr) (hl : l.length ≤ 1000) (H : ∀ b ∈ l, Opn.cli a = Opn.cli b → 0 ≤ Opn.ret a ∧ Opn.ret a < Opn.call b) : ∀ (n k : Nat), l.length - k < n →
    W5_14 N x0 x3 n t0 t3 a.1.1 a.1.2.1 a.1.2.2.1 a.2.1 a.2.2.1.1 a.2.2.1.2.1 a.2.2.1.2.2.1 a.2.2.2.1 a.2.2.2.2.1 a.2.2.2.2.2.1 a.2.2.2.2.2.2.1 a.2.2.2.2.2.2.2.1 t24 t25 t26 l ((l.length : Nat) : Int) (k : Int) = x3 t0 t3 t24 t25 t26
  | 0, k, h => by omega
  | n + 1, k, h => by
    unfold W5_14
    by_cases hk : k < l.length
    · have ih := w5_14 N x0 x3 t0 t3 t24 t25 t26 a l hl H n (k + 1) (by omega)
      have hb := H _ (getD_mem (d := (((0 : Int), ((0 : Int), (ByteArray.empty, ()))), ((0 : Int), (((0 : Int), ((0 : Int), (ByteArray.empty, ()))), ((0 : Int), ([], ([], ((0 : Int), ((0 : Int), ()))))))))) hk)
      rw [cond_dec (by omega), cond_t (in_dec hk), Int.toNat_natCast, wi64 ((k : Int) + 1) (by omega) (by omega), show ((k : Int) + 1) = ((k + 1 : Nat) : Int) by omega, ih, val_beq a.1 (l.getD k (((0 : Int), ((0 : Int), (ByteArray.empty, ()))), ((0 : Int), (((0 : Int), ((0 : Int), (ByteArray.empty, ()))), ((0 : Int), ([], ([], ((0 : Int), ((0 : Int), ()))))))))).1]
      generalize l.getD k (((0 : Int), ((0 : Int), (ByteArray.empty, ()))), ((0 : Int), (((0 : Int), ((0 : Int), (ByteArray.empty, ()))), ((0 : Int), ([], ([], ((0 : Int), ((0 : Int), ())))))))) = b at hb
      cases hc : (a.1 == b.1) with
      | false => rfl
      | true =>
        obtain ⟨h1, h2⟩ := hb (eq_of_beq hc)
        rw [cond_true, cond_dec' (by show ¬ Opn.ret a < 0; omega), cond_dec' (by show ¬ Opn.ret a ≥ Opn.call b; omega)]
    · rw [cond_dec' (by omega)]
theorem w5_9 (N : Nat) {β : Type} (x0 : Bool → Option β) (x1 : Unit → Option β) (h : List Evt) (l : List Opr) (hN : 2000 ≤ N) (hl : l.length ≤ 1000) (hp : l.Pairwise TurnOk) (ha : ∀ o ∈ l, 0 ≤ Opn.call o ∧ Opn.call o < (h.length : Int) ∧ (Opn.ret o = -1 ∨ (Opn.call o < Opn.ret o ∧ Opn.ret o < (h.length : Int)))) : ∀ (n k : Nat), l.length - k < n →
    W5_9 N x0 x1 n h l l ((l.length : Nat) : Int) (k : Int) = x1 ()
  | 0, k, _ => by omega
  | n + 1, k, hn => by
    unfold W5_9
    by_cases hk : k < l.length
    · have ih := w5_9 N x0 x1 h l hN hl hp ha n (k + 1) (by omega)
      obtain ⟨h1, h2, h3⟩ := ha _ (getD_mem (d := (((0 : Int), ((0 : Int), (ByteArray.empty, ()))), ((0 : Int), (((0 : Int), ((0 : Int), (ByteArray.empty, ()))), ((0 : Int), ([], ([], ((0 : Int), ((0 : Int), ()))))))))) hk)
      have hw : IntKind.wrap .i64 ((k : Int) + 1) = ((k + 1 : Nat) : Int) := by rw [wi64 _ (by omega) (by omega)]; omega
      have hsub : Go.Abs.sub l ((k + 1 : Nat) : Int) ((l.length : Nat) : Int) = l.drop (k + 1) := by
        unfold Go.Abs.sub
        rw [Int.toNat_natCast, Int.toNat_natCast, List.take_length]
      have hin : (decide ((0 : Int) ≤ ((k + 1 : Nat) : Int)) && (decide (((k + 1 : Nat) : Int) ≤ ((l.length : Nat) : Int)) && decide (((l.length : Nat) : Int) ≤ ((l.length : Nat) : Int)))) = true := by
        rw [decide_eq_true (by omega), decide_eq_true (by omega), decide_eq_true (by omega)]; rfl
      have hlt : ∀ b ∈ l.drop (k + 1), Opn.cli (l.getD k (((0 : Int), ((0 : Int), (ByteArray.empty, ()))), ((0 : Int), (((0 : Int), ((0 : Int), (ByteArray.empty, ()))), ((0 : Int), ([], ([], ((0 : Int), ((0 : Int), ()))))))))) = Opn.cli b → 0 ≤ Opn.ret (l.getD k (((0 : Int), ((0 : Int), (ByteArray.empty, ()))), ((0 : Int), (((0 : Int), ((0 : Int), (ByteArray.empty, ()))), ((0 : Int), ([], ([], ((0 : Int), ((0 : Int), ()))))))))) ∧ Opn.ret (l.getD k (((0 : Int), ((0 : Int), (ByteArray.empty, ()))), ((0 : Int), (((0 : Int), ((0 : Int), (ByteArray.empty, ()))), ((0 : Int), ([], ([], ((0 : Int), ((0 : Int), ()))))))))) < Opn.call b := fun b hb hc => by
        have hd := drop_getD (d := (((0 : Int), ((0 : Int), (ByteArray.empty, ()))), ((0 : Int), (((0 : Int), ((0 : Int), (ByteArray.empty, ()))), ((0 : Int), ([], ([], ((0 : Int), ((0 : Int), ()))))))))) hk
        have hp2 : (l.drop k).Pairwise TurnOk := hp.sublist (List.drop_sublist _ _)
        rw [hd, List.pairwise_cons] at hp2
        exact (hp2.1 b hb).2 hc
      have hprev : 0 < k → Opn.call (l.getD (k - 1) (((0 : Int), ((0 : Int), (ByteArray.empty, ()))), ((0 : Int), (((0 : Int), ((0 : Int), (ByteArray.empty, ()))), ((0 : Int), ([], ([], ((0 : Int), ((0 : Int), ()))))))))) < Opn.call (l.getD k (((0 : Int), ((0 : Int), (ByteArray.empty, ()))), ((0 : Int), (((0 : Int), ((0 : Int), (ByteArray.empty, ()))), ((0 : Int), ([], ([], ((0 : Int), ((0 : Int), ()))))))))) := fun h0 => by
        have := (List.pairwise_iff_getElem.1 hp (k - 1) k (by omega) hk (by omega)).1
        rw [List.getD_eq_getElem?_getD, List.getD_eq_getElem?_getD, List.getElem?_eq_getElem hk, List.getElem?_eq_getElem (show k - 1 < l.length by omega)]
        exact this
      have h14 := fun x0 (x3 : List Evt → List Opr → List Opr → Int → Int → Option β) => w5_14 N x0 x3 h l l ((l.length : Nat) : Int) (k : Int) (l.getD k (((0 : Int), ((0 : Int), (ByteArray.empty, ()))), ((0 : Int), (((0 : Int), ((0 : Int), (ByteArray.empty, ()))), ((0 : Int), ([], ([], ((0 : Int), ((0 : Int), ()))))))))) (l.drop (k + 1)) (by rw [List.length_drop]; omega) hlt N 0 (by rw [List.length_drop]; omega)
      rw [show ((0 : Nat) : Int) = 0 from rfl] at h14
      rw [cond_dec (by omega), cond_t (in_dec hk), Int.toNat_natCast, hw, hsub, hin]
      rw [cond_dec' (show ¬ (Opn.call (l.getD k (((0 : Int), ((0 : Int), (ByteArray.empty, ()))), ((0 : Int), (((0 : Int), ((0 : Int), (ByteArray.empty, ()))), ((0 : Int), ([], ([], ((0 : Int), ((0 : Int), ()))))))))) < 0) by omega), cond_dec' (show ¬ (Opn.call (l.getD k (((0 : Int), ((0 : Int), (ByteArray.empty, ()))), ((0 : Int), (((0 : Int), ((0 : Int), (ByteArray.empty, ()))), ((0 : Int), ([], ([], ((0 : Int), ((0 : Int), ()))))))))) ≥ ((h.length : Nat) : Int)) by omega)]
      have hz : decide ((k : Int) > 0) = decide (0 < k) := by rw [decide_eq_decide]; omega
      have hrest : (bif decide (0 < k) then (bif (decide ((0 : Int) ≤ IntKind.wrap .i64 ((k : Int) - 1)) && decide (IntKind.wrap .i64 ((k : Int) - 1) < ((l.length : Nat) : Int))) then (bif decide (Opn.call (l.getD (IntKind.wrap .i64 ((k : Int) - 1)).toNat (((0 : Int), ((0 : Int), (ByteArray.empty, ()))), ((0 : Int), (((0 : Int), ((0 : Int), (ByteArray.empty, ()))), ((0 : Int), ([], ([], ((0 : Int), ((0 : Int), ()))))))))) ≥ Opn.call (l.getD k (((0 : Int), ((0 : Int), (ByteArray.empty, ()))), ((0 : Int), (((0 : Int), ((0 : Int), (ByteArray.empty, ()))), ((0 : Int), ([], ([], ((0 : Int), ((0 : Int), ())))))))))) then x0 false else x1 ()) else none) else x1 ()) = x1 () := by
        by_cases h0 : 0 < k
        · have hw2 : IntKind.wrap .i64 ((k : Int) - 1) = ((k - 1 : Nat) : Int) := by rw [wi64 _ (by omega) (by omega)]; omega
          rw [cond_dec h0, hw2, cond_t (in_dec (by omega)), Int.toNat_natCast, cond_dec' (by have := hprev h0; omega)]
        · rw [cond_dec' h0]
      simp only [cond_true, h14, hw, ih, hz]
      by_cases hr : Opn.ret (l.getD k (((0 : Int), ((0 : Int), (ByteArray.empty, ()))), ((0 : Int), (((0 : Int), ((0 : Int), (ByteArray.empty, ()))), ((0 : Int), ([], ([], ((0 : Int), ((0 : Int), ()))))))))) = -1
      · rw [show ((l.getD k (((0 : Int), ((0 : Int), (ByteArray.empty, ()))), ((0 : Int), (((0 : Int), ((0 : Int), (ByteArray.empty, ()))), ((0 : Int), ([], ([], ((0 : Int), ((0 : Int), ()))))))))).2.2.2.2.2.2.2.1 != -1) = false from by rw [bne_eq_false_iff_eq]; exact hr, cond_false]
        exact hrest
      · rw [show ((l.getD k (((0 : Int), ((0 : Int), (ByteArray.empty, ()))), ((0 : Int), (((0 : Int), ((0 : Int), (ByteArray.empty, ()))), ((0 : Int), ([], ([], ((0 : Int), ((0 : Int), ()))))))))).2.2.2.2.2.2.2.1 != -1) = true from bne_iff_ne.2 hr, cond_true]
        have h4 : Opn.call (l.getD k (((0 : Int), ((0 : Int), (ByteArray.empty, ()))), ((0 : Int), (((0 : Int), ((0 : Int), (ByteArray.empty, ()))), ((0 : Int), ([], ([], ((0 : Int), ((0 : Int), ()))))))))) < Opn.ret (l.getD k (((0 : Int), ((0 : Int), (ByteArray.empty, ()))), ((0 : Int), (((0 : Int), ((0 : Int), (ByteArray.empty, ()))), ((0 : Int), ([], ([], ((0 : Int), ((0 : Int), ()))))))))) ∧ Opn.ret (l.getD k (((0 : Int), ((0 : Int), (ByteArray.empty, ()))), ((0 : Int), (((0 : Int), ((0 : Int), (ByteArray.empty, ()))), ((0 : Int), ([], ([], ((0 : Int), ((0 : Int), ()))))))))) < (h.length : Int) := by
          rcases h3 with q | q
          · exact absurd q hr
          · exact q
        rw [cond_dec' (show ¬ (Opn.ret (l.getD k (((0 : Int), ((0 : Int), (ByteArray.empty, ()))), ((0 : Int), (((0 : Int), ((0 : Int), (ByteArray.empty, ()))), ((0 : Int), ([], ([], ((0 : Int), ((0 : Int), ()))))))))) ≤ Opn.call (l.getD k (((0 : Int), ((0 : Int), (ByteArray.empty, ()))), ((0 : Int), (((0 : Int), ((0 : Int), (ByteArray.empty, ()))), ((0 : Int), ([], ([], ((0 : Int), ((0 : Int), ())))))))))) by omega), cond_dec' (show ¬ (Opn.ret (l.getD k (((0 : Int), ((0 : Int), (ByteArray.empty, ()))), ((0 : Int), (((0 : Int), ((0 : Int), (ByteArray.empty, ()))), ((0 : Int), ([], ([], ((0 : Int), ((0 : Int), ()))))))))) ≥ ((h.length : Nat) : Int)) by omega)]
        exact hrest
    · rw [cond_dec' (by omega)]
def fuel5 (h : List Evt) : Nat := 3000
theorem plain5 (h : List Evt) (hk : Inc.okH h = true) : F5 (fuel5 h) h = some (true, ()) := by
  unfold F5
  rw [cond_t (show okGH h 60 = true from hk)]
  cases hg : greatH h 60 with
  | true => rfl
  | false =>
    have hA := all_of_great hk hg
    have hl := (okAll_parts hA).2.1
    rw [cond_false, cond_t hA]
    rcases pairOpers_cases h with ⟨a, b⟩ | ⟨a, b, c⟩
    · rw [b]
      show (bif (refCheck h).1 != 0 then _ else _) = _
      rw [show ((refCheck h).1 != 0) = true from bne_iff_ne.2 a]; rfl
    · rw [c]
      have := opers_len h
      exact w5_9 _ _ _ h (refOpers h) (by unfold fuel5; omega) (by omega) (opers_pw b) (fun o ho => opers_at ho) _ 0 (by unfold fuel5; omega)

theorem w6 (N : Nat) {β : Type} (x0 : Bool → Option β) (x1 : Int → List Opr → Int → Option β) (h : List Evt) (hA : Inc.okAll h = true) (hW : WellF h) (n : Nat) (hn : n ≤ h.length) (X : Option β)
    (hX : ∀ k : Nat, k ≤ (refOpers h).length → (refOpers h).drop k = (List.range' n (h.length - n)).filterMap (refOper h) → x1 (n : Int) (refOpers h) (k : Int) = X) :
    ∀ (m i f idx k : Nat), n - i = m → i ≤ n → (refOpers (h.take n)).length - idx < f → k ≤ (refOpers h).length →
      (refOpers (h.take n)).drop idx = (List.range' i (n - i)).filterMap (refOper (h.take n)) → (refOpers h).drop k = (List.range' i (h.length - i)).filterMap (refOper h) →
      W6_12 N x0 x1 f (n : Int) (refOpers h) (k : Int) (refOpers (h.take n)) (((refOpers (h.take n)).length : Nat) : Int) (idx : Int) = X
  | 0, i, f, idx, k, hm, hi, hf, hk, hd1, hd2 => by
    have : i = n := by omega
    subst this
    rw [Nat.sub_self, List.range'_zero, List.filterMap_nil] at hd1
    have hidx : (refOpers (h.take i)).length ≤ idx := by
      rw [List.drop_eq_nil_iff] at hd1; exact hd1
    obtain ⟨f, rfl⟩ : ∃ q, f = q + 1 := ⟨f - 1, by omega⟩
    unfold W6_12
    rw [cond_dec' (by omega)]
    exact hX k hk hd2
  | m + 1, i, f, idx, k, hm, hi, hf, hk, hd1, hd2 => by
    have hl := (okAll_parts hA).2.1
    have ha1 := opers_len h
    have ha2 := opers_len (h.take n)
    rw [List.length_take] at ha2
    have hin : i < n := by omega
    obtain ⟨B1, B2⟩ := begin_oper hin hn
    have hs1 : n - i = (n - (i + 1)) + 1 := by omega
    have hs2 : h.length - i = (h.length - (i + 1)) + 1 := by omega
    rw [hs1, List.range'_succ, List.filterMap_cons] at hd1
    rw [hs2, List.range'_succ, List.filterMap_cons] at hd2
    have ih := w6 N x0 x1 h hA hW n hn X hX m (i + 1)
    have hstep : ∀ o, refOper (h.take n) i = some o → idx < (refOpers (h.take n)).length ∧ (refOpers (h.take n)).getD idx (((0 : Int), ((0 : Int), (ByteArray.empty, ()))), ((0 : Int), (((0 : Int), ((0 : Int), (ByteArray.empty, ()))), ((0 : Int), ([], ([], ((0 : Int), ((0 : Int), ())))))))) = o ∧ (refOpers (h.take n)).drop (idx + 1) = (List.range' (i + 1) (n - (i + 1))).filterMap (refOper (h.take n)) := fun o e => by
      rw [e] at hd1
      exact drop_cons_of hd1
    have hsm : ∀ o, refOper (h.take n) i = some o → okOne2 o o = true := fun o e => opers_small (okAll_take hA n) (wellF_take hW n) (by
      unfold refOpers
      rw [List.mem_filterMap]
      exact ⟨i, List.mem_range.2 (by rw [List.length_take]; omega), e⟩)
    cases hw : refOper h i with
    | some w =>
      rw [hw] at hd2
      obtain ⟨k1, k2, k3⟩ := drop_cons_of (d := (((0 : Int), ((0 : Int), (ByteArray.empty, ()))), ((0 : Int), (((0 : Int), ((0 : Int), (ByteArray.empty, ()))), ((0 : Int), ([], ([], ((0 : Int), ((0 : Int), ()))))))))) hd2
      have ho := B1 w hw
      obtain ⟨j1, j2, j3⟩ := hstep _ ho
      have hso := hsm _ ho
      have hsw : okOne2 w w = true := opers_small hA hW (by
        unfold refOpers
        rw [List.mem_filterMap]
        exact ⟨i, List.mem_range.2 (by omega), hw⟩)
      obtain ⟨f, rfl⟩ : ∃ q, f = q + 1 := ⟨f - 1, by omega⟩
      have hi2 := ih f (idx + 1) (k + 1) (by omega) (by omega) (by omega) (by omega) j3 k3
      have hc : (w.2.2.2.2.2.2.1 == (cutO n w).2.2.2.2.2.2.1) = true := by
        unfold cutO
        cases decide (Opn.ret w ≥ (n : Int)) <;> exact beq_self_eq_true _
      have hone : ∀ o : Opr, oneO o o = true := fun o => beq_self_eq_true o
      unfold W6_12
      rw [show (refOpers h).getD (Int.toNat (k : Int)) (((0 : Int), ((0 : Int), (ByteArray.empty, ()))), ((0 : Int), (((0 : Int), ((0 : Int), (ByteArray.empty, ()))), ((0 : Int), ([], ([], ((0 : Int), ((0 : Int), ())))))))) = w from k2, show (refOpers (h.take n)).getD (Int.toNat (idx : Int)) (((0 : Int), ((0 : Int), (ByteArray.empty, ()))), ((0 : Int), (((0 : Int), ((0 : Int), (ByteArray.empty, ()))), ((0 : Int), ([], ([], ((0 : Int), ((0 : Int), ())))))))) = cutO n w from j2]
      simp only [in_dec j1, in_dec k1, cond_true]
      rw [cond_dec (show ((idx : Nat) : Int) < _ by omega), cond_dec (show ((k : Nat) : Int) < _ by omega), cond_t hc, wi64 _ (by omega) (by omega), wi64 _ (by omega) (by omega), show ((k : Int) + 1) = ((k + 1 : Nat) : Int) by omega, show ((idx : Int) + 1) = ((idx + 1 : Nat) : Int) by omega, hi2]
      by_cases hr : Opn.ret w ≥ (n : Int)
      · have hcut : cutO n w = (w.1, (w.2.1, (w.2.2.1, (w.2.2.2.1, (w.2.2.2.2.1, ([], (w.2.2.2.2.2.2.1, (-1, ())))))))) := by unfold cutO; rw [decide_eq_true hr]; rfl
        rw [hcut] at hso ⊢
        rw [cond_dec hr]
        rw [cond_t hso, hone]; rfl
      · have hcut : cutO n w = w := by unfold cutO; rw [decide_eq_false hr]; rfl
        rw [hcut] at hso ⊢
        rw [cond_dec' hr]
        rw [cond_t hso, hone]; rfl
    | none =>
      rw [hw] at hd2
      rcases B2 hw with e | ⟨o, e, er, ec⟩
      · rw [e] at hd1
        exact ih f idx k (by omega) (by omega) hf hk hd1 hd2
      · obtain ⟨j1, j2, j3⟩ := hstep _ e
        obtain ⟨f, rfl⟩ : ∃ q, f = q + 1 := ⟨f - 1, by omega⟩
        have hi2 := ih f (idx + 1) k (by omega) (by omega) (by omega) hk j3 hd2
        have hr : (o.2.2.2.2.2.2.2.1 != (-1 : Int)) = false := by rw [bne_eq_false_iff_eq]; exact er
        unfold W6_12
        rw [show (refOpers (h.take n)).getD (Int.toNat (idx : Int)) (((0 : Int), ((0 : Int), (ByteArray.empty, ()))), ((0 : Int), (((0 : Int), ((0 : Int), (ByteArray.empty, ()))), ((0 : Int), ([], ([], ((0 : Int), ((0 : Int), ())))))))) = o from j2]
        simp only [in_dec j1, cond_true]
        rw [cond_dec (show ((idx : Nat) : Int) < _ by omega), wi64 ((idx : Int) + 1) (by omega) (by omega), show ((idx : Int) + 1) = ((idx + 1 : Nat) : Int) by omega, hi2]
        have hr2 : ∀ G : Option β, (bif (o.2.2.2.2.2.2.2.1 != (-(1 : Int))) then x0 false else G) = G := fun G => by
          rw [show (o.2.2.2.2.2.2.2.1 != (-(1 : Int))) = false from hr]; rfl
        rw [hr2]
        by_cases hkl : k < (refOpers h).length
        · have hd3 := hd2
          rw [drop_getD (d := (((0 : Int), ((0 : Int), (ByteArray.empty, ()))), ((0 : Int), (((0 : Int), ((0 : Int), (ByteArray.empty, ()))), ((0 : Int), ([], ([], ((0 : Int), ((0 : Int), ()))))))))) hkl] at hd3
          have hcall := from_call hd3.symm
          have hne : (((refOpers h).getD k (((0 : Int), ((0 : Int), (ByteArray.empty, ()))), ((0 : Int), (((0 : Int), ((0 : Int), (ByteArray.empty, ()))), ((0 : Int), ([], ([], ((0 : Int), ((0 : Int), ()))))))))).2.2.2.2.2.2.1 == o.2.2.2.2.2.2.1) = false := by
            rw [beq_eq_false_iff_ne]
            intro q
            have q' : Opn.call ((refOpers h).getD k (((0 : Int), ((0 : Int), (ByteArray.empty, ()))), ((0 : Int), (((0 : Int), ((0 : Int), (ByteArray.empty, ()))), ((0 : Int), ([], ([], ((0 : Int), ((0 : Int), ()))))))))) = Opn.call o := q
            rw [ec] at q'
            omega
          rw [cond_dec (by omega), cond_t (in_dec hkl), show (((refOpers h).getD (Int.toNat (k : Int)) (((0 : Int), ((0 : Int), (ByteArray.empty, ()))), ((0 : Int), (((0 : Int), ((0 : Int), (ByteArray.empty, ()))), ((0 : Int), ([], ([], ((0 : Int), ((0 : Int), ()))))))))).2.2.2.2.2.2.1 == o.2.2.2.2.2.2.1) = false from hne]; rfl
        · rw [cond_dec' (by omega)]

theorem plain8 (_ : true = true) : F8 fuel8 = some (true, ()) := by kernel_rfl
def fuel6 (h : List Evt) (c : Int) : Nat := 3000
theorem plain6 (h : List Evt) (c : Int) (hk : Inc.okBegins h c = true) : F6 (fuel6 h c) h c = some (true, ()) := by
  have hk' : (Inc.okH h && wfD (.int .u8) c) = true := hk
  rw [Bool.and_eq_true] at hk'
  obtain ⟨hH, hc⟩ := hk'
  have hc' := wf_u8.1 hc
  unfold F6
  rw [cond_t (show okGH h 60 = true from hH)]
  cases hg : greatH h 60 with
  | true => rfl
  | false =>
    have hA := all_of_great hH hg
    have hl := (okAll_parts hA).2.1
    rw [cond_false, cond_t hA]
    by_cases h0 : h.length = 0
    · rw [show (((h.length : Nat) : Int) == (0 : Int)) = true from beq_iff_eq.2 (by omega)]; rfl
    rw [show (((h.length : Nat) : Int) == (0 : Int)) = false from beq_eq_false_iff_ne.2 (by omega), cond_false, pairCheck_ref]
    rcases pairOpers_cases h with ⟨a, b⟩ | ⟨a, b, c'⟩
    · rw [show ((refCheck h).1 != 0) = true from bne_iff_ne.2 a]; rfl
    · rw [a]
      have hw1 : IntKind.wrap .i64 (((h.length : Nat) : Int) + 1) = ((h.length + 1 : Nat) : Int) := by rw [wi64 _ (by omega) (by omega)]; omega
      have hw2 : IntKind.wrap .i64 c = ((c.toNat : Nat) : Int) := by rw [wi64 _ (by omega) (by omega)]; omega
      have hmod : Int.tmod (IntKind.wrap .i64 c) (IntKind.wrap .i64 (((h.length : Nat) : Int) + 1)) = ((c.toNat % (h.length + 1) : Nat) : Int) := by
        rw [hw1, hw2, Int.tmod_eq_emod_of_nonneg (by omega)]; rfl
      have hnl : c.toNat % (h.length + 1) ≤ h.length := by have := Nat.mod_lt c.toNat (show 0 < h.length + 1 by omega); omega
      rw [hmod, hw1]
      generalize c.toNat % (h.length + 1) = n at hnl
      have hsub : Go.Abs.sub h 0 (n : Int) = h.take n := by
        unfold Go.Abs.sub
        rw [Int.toNat_natCast]; rfl
      rw [hsub]
      have hA2 := okAll_take hA n
      have hW2 := wellF_take b n
      rw [show ((((h.length + 1 : Nat) : Nat) : Int) == (0 : Int)) = false from beq_eq_false_iff_ne.2 (by omega)]
      have hin : (decide ((0 : Int) ≤ 0) && (decide ((0 : Int) ≤ (n : Int)) && decide ((n : Int) ≤ ((h.length : Nat) : Int)))) = true := by
        rw [decide_eq_true (by omega), decide_eq_true (by omega), decide_eq_true (by omega)]; rfl
      have hp2 : pairOpers (h.take n) = (refOpers (h.take n), ((0, (0, ())), ())) := by
        rcases pairOpers_cases (h.take n) with ⟨a', b'⟩ | ⟨a', b', c''⟩
        · exact absurd (by rw [check_of _ hW2]) a'
        · exact c''
      rw [hin, c', hp2, hA2, hA]
      simp only [bne_self_eq_false, cond_true, cond_false]
      generalize hfu : fuel6 h c = fu
      have hfu' : fu = 3000 := hfu.symm
      clear hfu
      have ha1 := opers_len h
      have ha2 := opers_len (h.take n)
      rw [List.length_take] at ha2
      refine w6 _ _ _ h hA b n hnl _ (fun k hkl hd => ?_) n 0 _ 0 0 (by omega) (by omega) (by omega) (Nat.zero_le _) ?_ ?_
      · by_cases hq : k < (refOpers h).length
        · have hd3 := hd
          rw [drop_getD (d := (((0 : Int), ((0 : Int), (ByteArray.empty, ()))), ((0 : Int), (((0 : Int), ((0 : Int), (ByteArray.empty, ()))), ((0 : Int), ([], ([], ((0 : Int), ((0 : Int), ()))))))))) hq] at hd3
          have hcall := from_call hd3.symm
          rw [show ((k : Int) == (((refOpers h).length : Nat) : Int)) = false from beq_eq_false_iff_ne.2 (by omega), cond_false, cond_t (in_dec hq), Int.toNat_natCast]
          rw [decide_eq_true (show ((refOpers h).getD k (((0 : Int), ((0 : Int), (ByteArray.empty, ()))), ((0 : Int), (((0 : Int), ((0 : Int), (ByteArray.empty, ()))), ((0 : Int), ([], ([], ((0 : Int), ((0 : Int), ()))))))))).2.2.2.2.2.2.1 ≥ (n : Int) from hcall)]
        · rw [show ((k : Int) == (((refOpers h).length : Nat) : Int)) = true from beq_iff_eq.2 (by omega)]; rfl
      · rw [Nat.sub_zero, ← List.range_eq_range', List.drop_zero]
        show (List.range (h.take n).length).filterMap _ = _
        rw [List.length_take, show min n h.length = n by omega]
      · rw [Nat.sub_zero, ← List.range_eq_range', List.drop_zero]; rfl

end Go.L12
