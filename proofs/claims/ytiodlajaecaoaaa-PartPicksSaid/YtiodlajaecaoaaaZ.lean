/- Own text of this session: a part of the proof; no condition of its own. -/
import Derived.Test.YtiodlajaecaoaaaY
set_option linter.unusedVariables false
set_option linter.unusedSimpArgs false
set_option maxRecDepth 100000
namespace Go.L19
open Go Go.Abs Go.Inc
def Seen (ops : List Opr) (S : Nat → Bool) (s : List Int) : Prop := s.length = ops.length ∧ ∀ i, i < ops.length → s.getD i 0 = bif S i then 1 else 0
theorem Seen.step {ops : List Opr} {S : Nat → Bool} {s : List Int} {q : Nat} (h : Seen ops S s) (hq : q < ops.length) (hS : S q = false) (T : Nat → Bool) (hT : ∀ i, T i = (S i || i == q)) : Seen ops T (s.set q (IntKind.wrap .i64 (s.getD q 0 + 1))) := by
  obtain ⟨h1, h2⟩ := h
  refine ⟨by rw [List.length_set]; exact h1, fun i hi => ?_⟩
  have hq0 := h2 q hq
  rw [hS] at hq0
  rw [hq0, hT, List.getD_eq_getElem?_getD, List.getElem?_set]
  by_cases e : q = i
  · subst e
    rw [if_pos rfl, if_pos (by omega)]
    simp [hS]
    rfl
  · rw [if_neg e, ← List.getD_eq_getElem?_getD, h2 i hi]
    have : (i == q) = false := beq_false_of_ne fun e' => e e'.symm
    rw [this, Bool.or_false]
theorem pos0 {n : Nat} (h : 0 < n) : (decide ((0 : Int) ≤ 0) && decide ((0 : Int) < (n : Int))) = true := by
  rw [Bool.and_eq_true]; exact ⟨rfl, decide_eq_true (by omega)⟩
theorem grp_get {ops : List Opr} {j : Nat} (hj : j < (heads ops).length) : (refObjs ops).getD j [] = ownOf ops ((heads ops)[j]) := by
  rw [refObjs_eq, List.getD_eq_getElem?_getD, List.getElem?_map, List.getElem?_eq_getElem hj]; rfl
theorem own_getD {ops : List Opr} {h k : Nat} (hk : k < (ownN ops h).length) : (ownOf ops h).getD k 0 = (((ownN ops h)[k] : Nat) : Int) := by
  rw [ownOf_eq, List.getD_eq_getElem?_getD, List.getElem?_map, List.getElem?_eq_getElem hk]; rfl
theorem grp_head {ops : List Opr} {j : Nat} (hj : j < (heads ops).length) : 0 < ((refObjs ops).getD j []).length ∧ ((refObjs ops).getD j []).getD 0 0 = (((heads ops)[j] : Nat) : Int) := by
  obtain ⟨h1, h2⟩ := mem_heads.1 (List.getElem_mem hj)
  obtain ⟨r, hr⟩ := own_head h1 h2
  rw [grp_get hj, ownOf_eq, hr]
  exact ⟨by simp, rfl⟩
theorem w4_15 (N : Nat) {β : Type} (x0 : Bool → Option β) (x3 : List Opr → Nat → Int → List (List Int) → List Int → Int → Int → Option β) (ops : List Opr) (hs : ops.length ≤ 60) (j : Nat) (hj : j < (heads ops).length) (t23 : Int) (y : Option β)
    (hx : ∀ s, Seen ops (fun i => decide (firstN ops i ∈ (heads ops).take (j + 1))) s → x3 ops ops.length (((heads ops)[j] : Nat) : Int) (refObjs ops) s t23 (j : Int) = y) :
    ∀ (n k : Nat) (s : List Int), (ownN ops (heads ops)[j]).length - k < n → k ≤ (ownN ops (heads ops)[j]).length →
      Seen ops (fun i => decide (firstN ops i ∈ (heads ops).take j) || decide (i ∈ (ownN ops (heads ops)[j]).take k)) s →
      W4_15 N x0 x3 n ops ops.length (((heads ops)[j] : Nat) : Int) (refObjs ops) (j : Int) s t23 (j : Int) (ownOf ops (heads ops)[j]) (((ownOf ops (heads ops)[j]).length : Nat) : Int) (k : Int) = y
  | 0, k, s, h, _, _ => by omega
  | n + 1, k, s, h, hk, hS => by
    obtain ⟨hhl, hhf⟩ := mem_heads.1 (List.getElem_mem hj)
    have hlen : (ownOf ops (heads ops)[j]).length = (ownN ops (heads ops)[j]).length := by rw [ownOf_eq, List.length_map]
    have hG : (refObjs ops).length = (heads ops).length := by rw [refObjs_eq, List.length_map]
    have hol := own_len ops (heads ops)[j]
    have hgg := grp_get hj
    have ih := fun s h1 => w4_15 N x0 x3 ops hs j hj t23 y hx n (k + 1) s (by omega) h1
    unfold W4_15
    rw [hlen]
    by_cases hd : k < (ownN ops (heads ops)[j]).length
    · have hm := mem_own.1 (List.getElem_mem hd)
      have hq1 : (ownOf ops (heads ops)[j]).getD k 0 = (((ownN ops (heads ops)[j])[k] : Nat) : Int) := own_getD hd
      have hsort := own_sorted ops (heads ops)[j]
      have hprev : 0 < k → (ownN ops (heads ops)[j])[k - 1] < (ownN ops (heads ops)[j])[k] := fun h0 => pw_get hsort (by omega) hd
      have hprev1 : 0 < k → (ownOf ops (heads ops)[j]).getD (k - 1) 0 = (((ownN ops (heads ops)[j])[k - 1] : Nat) : Int) := fun h0 => own_getD (by omega)
      have hnot : ¬ (firstN ops (ownN ops (heads ops)[j])[k] ∈ (heads ops).take j) := by
        rw [hm.2.2]
        intro hmem
        obtain ⟨m, hm1, hm2⟩ := List.mem_iff_getElem.1 hmem
        rw [List.length_take] at hm1
        rw [List.getElem_take] at hm2
        have := pw_get (heads_sorted ops) (show m < j by omega) hj
        omega
      have hnot2 : ¬ ((ownN ops (heads ops)[j])[k] ∈ (ownN ops (heads ops)[j]).take k) := by
        intro hmem
        obtain ⟨m, hm1, hm2⟩ := List.mem_iff_getElem.1 hmem
        rw [List.length_take] at hm1
        rw [List.getElem_take] at hm2
        have := pw_get hsort (show m < k by omega) hd
        omega
      have htk : (ownN ops (heads ops)[j]).take (k + 1) = (ownN ops (heads ops)[j]).take k ++ [(ownN ops (heads ops)[j])[k]] := by
        rw [List.take_add_one, List.getElem?_eq_getElem hd]; rfl
      have hkey : keyAt ops (ownN ops (heads ops)[j])[k] = keyAt ops (heads ops)[j] := by
        have := (first_spec hm.2.1).2.1
        rw [hm.2.2] at this; exact this.symm
      have e1 : (ops.getD (ownN ops (heads ops)[j])[k] OD).2.1 = (ops.getD (heads ops)[j] OD).2.1 := congrArg (fun q : ObjKey => q.1) hkey
      have e2 : (ops.getD (ownN ops (heads ops)[j])[k] OD).2.2.1 = (ops.getD (heads ops)[j] OD).2.2.1 := congrArg (fun q : ObjKey => q.2) hkey
      have hqs : (ownN ops (heads ops)[j])[k] < s.length := by rw [hS.1]; exact hm.2.1
      have hnext := ih (s.set (ownN ops (heads ops)[j])[k] (IntKind.wrap .i64 (s.getD (ownN ops (heads ops)[j])[k] 0 + 1))) (by omega) (hS.step hm.2.1 (by simp [hnot, hnot2]) _ (fun i => by
        simp only [htk, List.mem_append, List.mem_singleton, Bool.decide_or, Bool.or_assoc]
        congr 2))
      rw [hlen] at hnext
      rw [cond_dec (by omega), cond_t (in_dec hd), Int.toNat_natCast, hq1]
      generalize (ownN ops (heads ops)[j])[k] = q at hm hprev hkey e1 e2 hqs hnext
      rw [cond_dec' (by omega), cond_dec' (by have := hm.2.1; omega)]
      have hw : IntKind.wrap .i64 ((k : Int) + 1) = ((k + 1 : Nat) : Int) := by rw [wi64 _ (by omega) (by omega)]; omega
      by_cases h0 : 0 < k
      · have hp := hprev h0
        have hp1 := hprev1 h0
        have hwm : IntKind.wrap .i64 ((k : Int) - 1) = ((k - 1 : Nat) : Int) := by rw [wi64 _ (by omega) (by omega)]; omega
        rw [cond_dec (by omega), cond_t (in_dec (by omega)), hwm, Int.toNat_natCast, hgg, hlen, cond_t (in_dec (by omega)), Int.toNat_natCast, hp1, cond_dec' (by omega), cond_t (in_dec hm.2.1), cond_t (in_dec hhl), Int.toNat_natCast, Int.toNat_natCast, e1, bne_self_eq_false, cond_false,
          cond_t (in_dec hm.2.1), cond_t (in_dec hhl), e2]
        simp only [beq_self_eq_true, Bool.and_self, Bool.not_true, cond_false]
        rw [cond_t (in_dec hm.2.1), cond_dec hqs, cond_t (in_dec hm.2.1), cond_dec hqs, hw]
        exact hnext
      · rw [cond_dec' (by omega), cond_t (in_dec hm.2.1), cond_t (in_dec hhl), Int.toNat_natCast, Int.toNat_natCast, e1, bne_self_eq_false, cond_false,
          cond_t (in_dec hm.2.1), cond_t (in_dec hhl), e2]
        simp only [beq_self_eq_true, Bool.and_self, Bool.not_true, cond_false]
        rw [cond_t (in_dec hm.2.1), cond_dec hqs, cond_t (in_dec hm.2.1), cond_dec hqs, hw]
        exact hnext
    · rw [cond_dec' (by omega)]
      refine hx s ⟨hS.1, fun i hi => ?_⟩
      have htj : (heads ops).take (j + 1) = (heads ops).take j ++ [(heads ops)[j]] := by rw [List.take_add_one, List.getElem?_eq_getElem hj]; rfl
      have hb : (decide (firstN ops i ∈ (heads ops).take j) || decide (i ∈ (ownN ops (heads ops)[j]).take k)) = decide (firstN ops i ∈ (heads ops).take (j + 1)) := by
        have hf := (first_spec hi).1
        rw [← Bool.decide_or, decide_eq_decide, htj, List.mem_append, List.mem_singleton, List.take_of_length_le (l := ownN ops (heads ops)[j]) (by omega), mem_own]
        constructor
        · rintro (q | q)
          · exact .inl q
          · exact .inr q.2.2
        · rintro (q | q)
          · exact .inl q
          · exact .inr ⟨by omega, hi, q⟩
      rw [hS.2 i hi]
      dsimp only
      rw [hb]
theorem w4_9 (N : Nat) (hN : 100 ≤ N) {β : Type} (x0 : Bool → Option β) (x1 : List Opr → Nat → List (List Int) → List Int → Option β) (ops : List Opr) (hs : ops.length ≤ 60) (y : Option β)
    (hx : ∀ s, Seen ops (fun _ => true) s → x1 ops ops.length (refObjs ops) s = y) :
    ∀ (n j : Nat) (s : List Int) (last : Int), (heads ops).length - j < n → j ≤ (heads ops).length → (∀ hj : j < (heads ops).length, last < (((heads ops)[j] : Nat) : Int)) →
      Seen ops (fun i => decide (firstN ops i ∈ (heads ops).take j)) s →
      W4_9 N x0 x1 n ops ops.length last (refObjs ops) s (((refObjs ops).length : Nat) : Int) (j : Int) = y
  | 0, j, s, last, h, _, _, _ => by omega
  | n + 1, j, s, last, h, hj', hlast, hS => by
    have hG : (refObjs ops).length = (heads ops).length := by rw [refObjs_eq, List.length_map]
    have hhl := heads_len ops
    unfold W4_9
    rw [hG]
    by_cases hj : j < (heads ops).length
    · obtain ⟨g1, g2⟩ := grp_head hj
      have hl := hlast hj
      rw [cond_dec (by omega), cond_t (in_dec hj), Int.toNat_natCast, show (((((refObjs ops).getD j []).length : Nat) : Int) == (0 : Int)) = false from beq_false_of_ne (by omega), cond_false, cond_t (in_dec hj), cond_t (pos0 g1), show List.getD ((refObjs ops).getD j []) (Int.toNat 0) (0 : Int) = _ from g2, cond_dec' (by omega), cond_t (in_dec hj), cond_t (pos0 g1), cond_t (in_dec hj), grp_get hj]
      refine w4_15 N x0 _ ops hs j hj _ y (fun s' hs' => ?_) N 0 s (by have := own_len ops (heads ops)[j]; omega) (Nat.zero_le _) ⟨hS.1, fun i hi => by rw [hS.2 i hi]; simp⟩
      have hw : IntKind.wrap .i64 ((j : Int) + 1) = ((j + 1 : Nat) : Int) := by rw [wi64 _ (by omega) (by omega)]; omega
      rw [hw, ← hG]
      exact w4_9 N hN x0 x1 ops hs y hx n (j + 1) s' _ (by omega) (by omega) (fun hj2 => by have := pw_get (heads_sorted ops) (show j < j + 1 by omega) hj2; omega) hs'
    · rw [cond_dec' (by omega)]
      refine hx s ⟨hS.1, fun i hi => ?_⟩
      rw [hS.2 i hi]
      dsimp only
      rw [List.take_of_length_le (by omega)]
      have : firstN ops i ∈ heads ops := mem_heads.2 ⟨by have := (first_spec hi).1; omega, first_first hi⟩
      rw [decide_eq_true this]
theorem w4_28 (N : Nat) {β : Type} (x0 : Bool → Option β) (x7 : List Opr → List (List Int) → List Int → Nat → Int → Int → Option β) (ops : List Opr) (hs : ops.length ≤ 60) (i : Nat) (hi : i < ops.length) (s : List Int) (t117 : Nat) (t118 t119 : Int) :
    ∀ (n k : Nat), (heads ops).length - k < n → W4_28 N x0 x7 n ops (refObjs ops) (i : Int) s t117 t118 t119 (((refObjs ops).length : Nat) : Int) (k : Int) = x7 ops (refObjs ops) s t117 t118 t119
  | 0, k, h => by omega
  | n + 1, k, h => by
    have hG : (refObjs ops).length = (heads ops).length := by rw [refObjs_eq, List.length_map]
    have hhl := heads_len ops
    unfold W4_28
    rw [hG]
    by_cases hk : k < (heads ops).length
    · have ih := w4_28 N x0 x7 ops hs i hi s t117 t118 t119 n (k + 1) (by omega)
      rw [hG] at ih
      obtain ⟨g1, g2⟩ := grp_head hk
      obtain ⟨h1, h2⟩ := mem_heads.1 (List.getElem_mem hk)
      have hw : IntKind.wrap .i64 ((k : Int) + 1) = ((k + 1 : Nat) : Int) := by rw [wi64 _ (by omega) (by omega)]; omega
      have g2' : List.getD ((refObjs ops).getD k []) (Int.toNat 0) (0 : Int) = (((heads ops)[k] : Nat) : Int) := g2
      have g0 : (decide ((0 : Int) ≤ 0) && decide ((0 : Int) < ((((refObjs ops).getD k []).length : Nat) : Int))) = true := pos0 g1
      have hno : keyAt ops (heads ops)[k] = keyAt ops i → ¬ ((((heads ops)[k] : Nat) : Int) > (i : Int)) := fun e => by
        have e' := (first_key h1 hi).2 e
        rw [h2] at e'
        have := (first_spec hi).1
        omega
      rw [cond_dec (by omega), cond_t (in_dec hk), Int.toNat_natCast, cond_t g0, g2', hw]
      generalize (heads ops)[k] = q at h1 h2 hno
      have hkb := key_beq (ops.getD q OD) (ops.getD i OD)
      cases hb : ((q : Int) != (i : Int)) with
      | false => exact ih
      | true =>
        simp only [cond_true]
        rw [cond_t (in_dec hk), cond_t g0, cond_t (in_dec h1), cond_t (in_dec hi), Int.toNat_natCast, Int.toNat_natCast]
        cases hm : ((ops.getD q OD).2.1 == (ops.getD i OD).2.1) with
        | false => exact ih
        | true =>
          rw [hm, Bool.true_and] at hkb
          simp only [cond_true]
          rw [cond_t (in_dec hk), cond_t g0, cond_t (in_dec h1), cond_t (in_dec hi), hkb]
          cases he : (objK (ops.getD q OD) == objK (ops.getD i OD)) with
          | false => exact ih
          | true =>
            simp only [cond_true]
            rw [cond_t (in_dec hk), cond_t g0, cond_dec' (hno (eq_of_beq he))]
            exact ih
    · rw [cond_dec' (by omega)]
theorem w4_23 (N : Nat) (hN : 100 ≤ N) {β : Type} (x0 : Bool → Option β) (x5 : Unit → Option β) (ops : List Opr) (hs : ops.length ≤ 60) (s : List Int) (hS : Seen ops (fun _ => true) s) :
    ∀ (n i : Nat), ops.length - i < n → W4_23 N x0 x5 n ops (refObjs ops) s ops.length ((ops.length : Nat) : Int) (i : Int) = x5 ()
  | 0, i, h => by omega
  | n + 1, i, h => by
    have hhl := heads_len ops
    unfold W4_23
    by_cases hi : i < ops.length
    · have h1 := hS.2 i hi
      rw [cond_dec (by omega), cond_t (in_dec hi), Int.toNat_natCast, cond_dec (by rw [hS.1]; exact hi), h1]
      simp only [cond_true, bne_self_eq_false, cond_false]
      refine (w4_28 N x0 _ ops hs i hi s ops.length _ _ N 0 (by omega)).trans ?_
      have hw : IntKind.wrap .i64 ((i : Int) + 1) = ((i + 1 : Nat) : Int) := by rw [wi64 _ (by omega) (by omega)]; omega
      rw [hw]
      exact w4_23 N hN x0 x5 ops hs s hS n (i + 1) (by omega)
    · rw [cond_dec' (by omega)]
def fuel4 (ops : List Opr) : Nat := 200
theorem plain4 (ops : List Opr) (h : okOps ops = true) : F4 (fuel4 ops) ops = some (true, ()) := by
  unfold F4
  by_cases hl : ops.length ≤ 60
  · have ho : okObj ops = true := decide_eq_true (by omega)
    have hhl := heads_len ops
    have hc : ((decide ((0 : Int) ≤ ((ops.length : Nat) : Int))) && ((decide ((((ops.length : Nat) : Int) * ((8 : Nat) : Int)) ≤ (140737488351232 : Int))) && ((((ops.length : Nat) : Int)) == ((ops.length : Nat) : Int)))) = true := by
      simp only [Bool.and_eq_true, decide_eq_true_eq, beq_self_eq_true, and_true]; omega
    rw [cond_dec' (by omega), cond_t hc, ho, cond_true, objects_ref, Int.toNat_natCast]
    refine w4_9 _ (by unfold fuel4; omega) _ _ ops hl _ (fun s hs => ?_) _ 0 _ (-1) (by unfold fuel4; omega) (Nat.zero_le _) (fun _ => by omega) ⟨by simp, fun i hi => ?_⟩
    · exact w4_23 _ (by unfold fuel4; omega) _ _ ops hl s hs _ 0 (by unfold fuel4; omega)
    · rw [List.getD_eq_getElem?_getD, List.getElem?_replicate]
      simp [hi]
  · rw [cond_dec (by omega)]

end Go.L19
