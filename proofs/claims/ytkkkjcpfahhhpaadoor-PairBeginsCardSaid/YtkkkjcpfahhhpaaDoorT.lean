/- Own text of this session: a part of the proof; no condition of its own. -/
import Derived.Test.YtkkkjcpfahhhpaaDoorP
import Derived.Test.YtkkkjcpfahhhpaaDoorLook
set_option linter.unusedVariables false
set_option linter.unusedSimpArgs false
set_option maxRecDepth 100000
namespace Go.L12
open Go Go.Abs Go.Inc
theorem w43 (N : Nat) {β : Type} (x0 : Bool → Option β) (x1 : Unit → Option β) (vs : List Val) (hv : okVs vs = true) (ds : List Int) (hl : ds.length = vs.length) (hs : ds.length ≤ 1000) : ∀ (n k : Nat), ds.length - k < n →
    W43_4 N x0 x1 n vs ds (ds.length : Int) (k : Int) = bif takesAll (ds.drop k) (vs.drop k) then x1 () else x0 false
  | 0, k, h => by omega
  | n + 1, k, h => by
    unfold W43_4
    by_cases hd : k < ds.length
    · have hv' := (okVs_iff.1 hv).2 _ (getD_mem (d := ((0 : Int), ((0 : Int), (ByteArray.empty, ())))) (show k < vs.length by omega))
      rw [cond_dec (by omega), cond_t (in_dec hd), cond_t (in_dec (by omega)), Int.toNat_natCast, drop_getD (d := 0) hd, drop_getD (l := vs) (d := ((0 : Int), ((0 : Int), (ByteArray.empty, ())))) (by omega), wi64 _ (by omega) (by omega),
        show ((k : Int) + 1) = ((k + 1 : Nat) : Int) by omega, w43 N x0 x1 vs hv ds hl hs n (k + 1) (by omega)]
      try simp only [eta]
      generalize List.getD vs k ((0 : Int), ((0 : Int), (ByteArray.empty, ()))) = v at hv'
      have hok : ∀ d, okT d v = true := fun d => hv'
      simp only [hok, cond_true, takesAll]
      cases takes (ds.getD k 0) v <;> simp
    · rw [cond_dec' (by omega), List.drop_eq_nil_of_le (by omega), List.drop_eq_nil_of_le (by omega)]; rfl
def fuel43 (ds : List Int) (l : List Val) : Nat := l.length + 1
theorem plain43 (ds : List Int) (l : List Val) (h : okEvFits ds l = true) : F43 (fuel43 ds l) ds l = some (evFits ds l, ()) := by
  simp only [okEvFits, Bool.and_eq_true, decide_eq_true_eq] at h
  unfold F43 evFits
  by_cases hl : ds.length = l.length
  · have e1 : (((ds.length : Nat) : Int) != ((l.length : Nat) : Int)) = false := by rw [hl]; exact bne_self_eq_false _
    have hw := fun x0 x1 => w43 (β := Bool × Unit) (fuel43 ds l) x0 x1 l h.1 ds hl h.2 (l.length + 1) 0 (by omega)
    rw [show ((0 : Nat) : Int) = 0 from rfl, List.drop_zero, List.drop_zero] at hw
    rw [e1, cond_false]
    refine Eq.trans (hw _ _) ?_
    cases takesAll ds l <;> rfl
  · have e1 : (((ds.length : Nat) : Int) != ((l.length : Nat) : Int)) = true := bne_iff_ne.2 (by omega)
    rw [e1, cond_true]
    cases ht : takesAll ds l with
    | false => rfl
    | true => exact absurd (takesAll_len ht) hl
theorem fits_args (m o : Int) (l : List Val) : fits m o l = ((argsGo m o).2.1 && takesAll (argsGo m o).1 l) := by
  unfold fits argsGo
  cases sin m o <;> simp
theorem args_len (m o : Int) : (argsGo m o).1.length ≤ 1000 := by
  unfold argsGo sin
  cases h : sfind m o with
  | none => simp
  | some r =>
    have := tbl_size r (tbl_in h)
    have h2 : r.2.2.1.data.toList.length = r.2.2.1.size := rfl
    simp only [Option.map_some, List.length_map]
    omega
theorem takes_name (v : Val) : takes 0 v = name v := by simp [takes, name]
theorem takes_name1 (v : Val) : takes 1 v = name v := by simp [takes, name]
theorem len0 {α : Type} (l : List α) : (((List.length l : Nat) : Int) == (0 : Int)) = l.isEmpty := by cases l <;> simp; omega
theorem lenp {α : Type} (l : List α) : decide (((List.length l : Nat) : Int) > (0 : Int)) = !l.isEmpty := by cases l <;> simp
theorem okE_parts {e : Evt} (h : okE e = true) : okV (Ev.cli e) = true ∧ okV (Ev.key e) = true ∧ okVs (Ev.args e) = true ∧ okVs (Ev.out e) = true := by
  have h1 : (wfD (.int .i64) (Ev.time e) && (wfD VT (Ev.cli e) && (wfD (.int .i64) (Ev.typ e) && (wfD (.int .i64) (Ev.mod e) && (wfD VT (Ev.key e) && (wfD (.int .i64) (Ev.op e) && (wfD (.sl VT) (Ev.args e) && (wfD (.sl VT) (Ev.out e) && wfD (.pr .bool (.pr .str .un)) e.2.2.2.2.2.2.2.2)))))))) = true := h
  simp only [Bool.and_eq_true] at h1
  exact ⟨h1.2.1, h1.2.2.2.2.1, h1.2.2.2.2.2.2.1, h1.2.2.2.2.2.2.2.1⟩
theorem w33 (N : Nat) {β : Type} (x0 : Bool → Option β) (x1 : Int → Int → Int → ByteArray → Int → Int → Int → Int → ByteArray → Int → List Val → List Val → Bool → ByteArray → Option β) (a0 a1 a2 : Int) (a3 : ByteArray) (a4 a5 a6 a7 : Int) (a8 : ByteArray) (a9 : Int) (a10 a11 : List Val) (a12 : Bool) (a13 : ByteArray) (l : List Val) (hv : okVs l = true) (hs : l.length ≤ maxLen) : ∀ (n k : Nat), l.length - k < n →
    W33_9 N x0 x1 n a0 a1 a2 a3 a4 a5 a6 a7 a8 a9 a10 a11 a12 a13 l (l.length : Int) (k : Int) = bif (l.drop k).all right then x1 a0 a1 a2 a3 a4 a5 a6 a7 a8 a9 a10 a11 a12 a13 else x0 false
  | 0, k, h => by omega
  | n + 1, k, h => by
    unfold W33_9
    have hm : maxLen = 9223372036854775807 := rfl
    by_cases hd : k < l.length
    · have hv' := (okVs_iff.1 hv).2 _ (getD_mem (d := ((0 : Int), ((0 : Int), (ByteArray.empty, ())))) hd)
      rw [cond_dec (by omega), cond_t (in_dec hd), Int.toNat_natCast, drop_getD (d := ((0 : Int), ((0 : Int), (ByteArray.empty, ())))) hd, wi64 _ (by omega) (by omega),
        show ((k : Int) + 1) = ((k + 1 : Nat) : Int) by omega, w33 N x0 x1 a0 a1 a2 a3 a4 a5 a6 a7 a8 a9 a10 a11 a12 a13 l hv hs n (k + 1) (by omega)]
      try simp only [eta]
      generalize List.getD l k ((0 : Int), ((0 : Int), (ByteArray.empty, ()))) = v at hv'
      simp only [hv', cond_true, List.all_cons]
      cases right v <;> simp
    · rw [cond_dec' (by omega), List.drop_eq_nil_of_le (by omega)]; rfl
def fuel33 (e : Evt) : Nat := (Ev.out e).length + 1
theorem plain33 (e : Evt) (h : okEv e = true) : F33 (fuel33 e) e = some (rightE e, ()) := by
  have hE : okE e = true := h
  obtain ⟨p1, p2, p3, p4⟩ := okE_parts hE
  unfold F33 rightE
  have hw := fun x0 x1 => w33 (β := Bool × Unit) (fuel33 e) x0 x1 e.1 e.2.1.1 e.2.1.2.1 e.2.1.2.2.1 e.2.2.1 e.2.2.2.1 e.2.2.2.2.1.1 e.2.2.2.2.1.2.1 e.2.2.2.2.1.2.2.1 e.2.2.2.2.2.1 e.2.2.2.2.2.2.1 e.2.2.2.2.2.2.2.1 e.2.2.2.2.2.2.2.2.1 e.2.2.2.2.2.2.2.2.2.1 (Ev.out e) p4 (okVs_iff.1 p4).1 ((Ev.out e).length + 1) 0 (by omega)
  rw [show ((0 : Nat) : Int) = 0 from rfl, List.drop_zero] at hw
  have hokT : okT 0 (Ev.cli e) = true := p1
  have hokK : okT 1 (Ev.key e) = true := p2
  have hokF : okEvFits (argsGo (Ev.mod e) (Ev.op e)).1 (Ev.args e) = true := by
    simp only [okEvFits, p3, args_len, decide_true, Bool.and_self]
  have ht : decide (e.1 < (0 : Int)) = !decide (0 ≤ Ev.time e) := by rw [← decide_not, decide_eq_decide]; show e.1 < 0 ↔ ¬ 0 ≤ e.1; omega
  rw [ht]
  cases decide (0 ≤ Ev.time e) with
  | false => rfl
  | true =>
  rw [Bool.not_true, cond_false, hokT, cond_true, takes_name]
  cases name (Ev.cli e) with
  | false => rfl
  | true =>
  rw [Bool.not_true, cond_false, hE, cond_true]
  cases notedE e with
  | false => rfl
  | true =>
  rw [Bool.not_true, cond_false]
  simp only [Bool.true_and, Bool.and_self]
  cases hy : (e.2.2.1 == (1 : Int)) with
  | true =>
    simp only [cond_true]
    rw [fits_args]
    cases ((argsGo e.2.2.2.1 e.2.2.2.2.2.1).2).1 with
    | false => rfl
    | true =>
    rw [cond_true, hokK, cond_true, takes_name1]
    cases name (Ev.key e) with
    | false => simp
    | true =>
    rw [cond_true, hokF, cond_true, evFits]
    cases takesAll (argsGo e.2.2.2.1 e.2.2.2.2.2.1).1 e.2.2.2.2.2.2.1 with
    | false => rfl
    | true => simp only [cond_true, len0, Bool.true_and]
  | false =>
    simp only [cond_false, lenp, len0, vnone, bne]
    cases (e.2.2.2.1 == (0 : Int)) with
    | false => rfl
    | true =>
    cases (e.2.2.2.2.2.1 == (0 : Int)) with
    | false => rfl
    | true =>
    simp only [Bool.not_true, cond_false, Bool.true_and]
    cases (Ev.key e == none') with
    | false => rfl
    | true =>
    simp only [Bool.not_true, cond_false, Bool.true_and]
    cases (Ev.args e).isEmpty with
    | false => rfl
    | true =>
    simp only [Bool.not_true, cond_false, Bool.true_and]
    refine Eq.trans (hw _ _) ?_
    cases (Ev.out e).all right with
    | false => rfl
    | true =>
    simp only [cond_true, Bool.true_and]
    cases (e.2.2.1 == (2 : Int)) with
    | true => rfl
    | false =>
    cases (e.2.2.1 == (3 : Int)) with
    | true => simp
    | false =>
    cases (e.2.2.1 == (4 : Int)) with
    | true => simp
    | false => rfl

theorem w19_3 (N : Nat) {β : Type} (x1 : Int → Int → Int → ByteArray → Int → Int → Int → Int → ByteArray → Int → List Val → List Val → Bool → ByteArray → Int → Option β) (a0 a1 a2 : Int) (a3 : ByteArray) (a4 a5 a6 a7 : Int) (a8 : ByteArray) (a9 : Int) (a10 a11 : List Val) (a12 : Bool) (a13 : ByteArray) (hs : a10.length ≤ maxLen) : ∀ (n k : Nat) (t : Int), a10.length - k < n →
    W19_3 N x1 n a0 a1 a2 a3 a4 a5 a6 a7 a8 a9 a10 a11 a12 a13 t (k : Int) = x1 a0 a1 a2 a3 a4 a5 a6 a7 a8 a9 a10 a11 a12 a13 (addW t (a10.drop k))
  | 0, k, t, h => by omega
  | n + 1, k, t, h => by
    unfold W19_3
    have hm : maxLen = 9223372036854775807 := rfl
    by_cases hd : k < a10.length
    · rw [cond_dec (by omega), drop_getD (d := ((0 : Int), ((0 : Int), (ByteArray.empty, ())))) hd, addW]
      by_cases ht : t ≤ 2000
      · rw [cond_dec ht, cond_dec ht, cond_t (in_dec hd), Int.toNat_natCast, wi64 ((k : Int) + 1) (by omega) (by omega), show ((k : Int) + 1) = ((k + 1 : Nat) : Int) by omega]
        exact w19_3 N x1 a0 a1 a2 a3 a4 a5 a6 a7 a8 a9 a10 a11 a12 a13 hs n (k + 1) _ (by omega)
      · rw [cond_dec' ht, cond_dec' ht]
    · rw [cond_dec' (by omega), List.drop_eq_nil_of_le (by omega)]; rfl
theorem w19_7 (N : Nat) {β : Type} (x3 : Int → Option β) (a0 a1 a2 : Int) (a3 : ByteArray) (a4 a5 a6 a7 : Int) (a8 : ByteArray) (a9 : Int) (a10 a11 : List Val) (a12 : Bool) (a13 : ByteArray) (hs : a11.length ≤ maxLen) : ∀ (n k : Nat) (t : Int), a11.length - k < n →
    W19_7 N x3 n a0 a1 a2 a3 a4 a5 a6 a7 a8 a9 a10 a11 a12 a13 t (k : Int) = x3 (addW t (a11.drop k))
  | 0, k, t, h => by omega
  | n + 1, k, t, h => by
    unfold W19_7
    have hm : maxLen = 9223372036854775807 := rfl
    by_cases hd : k < a11.length
    · rw [cond_dec (by omega), drop_getD (d := ((0 : Int), ((0 : Int), (ByteArray.empty, ())))) hd, addW]
      by_cases ht : t ≤ 2000
      · rw [cond_dec ht, cond_dec ht, cond_t (in_dec hd), Int.toNat_natCast, wi64 ((k : Int) + 1) (by omega) (by omega), show ((k : Int) + 1) = ((k + 1 : Nat) : Int) by omega]
        exact w19_7 N x3 a0 a1 a2 a3 a4 a5 a6 a7 a8 a9 a10 a11 a12 a13 hs n (k + 1) _ (by omega)
      · rw [cond_dec' ht, cond_dec' ht]
    · rw [cond_dec' (by omega), List.drop_eq_nil_of_le (by omega)]; rfl
def fuel19 (e : Evt) : Nat := (Ev.args e).length + (Ev.out e).length + 1
theorem plain19 (e : Evt) (h : okE e = true) : F19 (fuel19 e) e = some (greatE e, ()) := by
  obtain ⟨_, _, p3, p4⟩ := okE_parts h
  unfold F19
  refine (w19_3 _ _ _ _ _ _ _ _ _ _ _ _ (Ev.args e) _ _ _ (okVs_iff.1 p3).1 _ 0 _ (by unfold fuel19; omega)).trans ?_
  refine (w19_7 _ _ _ _ _ _ _ _ _ _ _ _ _ (Ev.out e) _ _ (okVs_iff.1 p4).1 _ 0 _ (by unfold fuel19; omega)).trans ?_
  rfl
abbrev ED : Evt := ((0 : Int), (((0 : Int), ((0 : Int), (ByteArray.empty, ()))), ((0 : Int), ((0 : Int), (((0 : Int), ((0 : Int), (ByteArray.empty, ()))), ((0 : Int), ([], ([], (false, (ByteArray.empty, ()))))))))))
theorem okH_at {h : List Evt} (hk : Inc.okH h = true) : h.length ≤ maxLen ∧ ∀ e ∈ h, okE e = true := by
  have h1 : (decide (h.length ≤ maxLen) && List.all h (wfD EVT)) = true := hk
  rw [Bool.and_eq_true, decide_eq_true_eq, List.all_eq_true] at h1
  exact h1
theorem w9 (N : Nat) {β : Type} (x0 : Bool → Option β) (x1 : Unit → Option β) (l : List Evt) (hv : Inc.okH l = true) : ∀ (n k : Nat), l.length - k < n →
    W9_4 N x0 x1 n l (k : Int) = bif (l.drop k).any greatE then x0 true else x1 ()
  | 0, k, h => by omega
  | n + 1, k, h => by
    unfold W9_4
    have hm : maxLen = 9223372036854775807 := rfl
    have h1 := (okH_at hv).1
    by_cases hd : k < l.length
    · have hv' := (okH_at hv).2 _ (getD_mem (d := ED) hd)
      rw [cond_dec (by omega), cond_t (in_dec hd), Int.toNat_natCast, drop_getD (d := ED) hd, wi64 _ (by omega) (by omega), show ((k : Int) + 1) = ((k + 1 : Nat) : Int) by omega, w9 N x0 x1 l hv n (k + 1) (by omega), cond_t hv', List.any_cons]
      cases greatE (l.getD k ED) <;> simp
    · rw [cond_dec' (by omega), List.drop_eq_nil_of_le (by omega)]; rfl
def fuel9 (h : List Evt) (_ : Int) : Nat := h.length + 1
theorem plain9 (h : List Evt) (n : Int) (hk : okGH h n = true) : F9 (fuel9 h n) h n = some (greatH h n, ()) := by
  unfold F9 greatH
  cases decide ((((List.length h) : Nat) : Int) > n) with
  | true => rfl
  | false =>
    rw [cond_false, Bool.false_or]
    refine (w9 _ _ _ h hk (h.length + 1) 0 (by omega)).trans ?_
    rw [List.drop_zero]
    cases h.any greatE <;> rfl

theorem vnone2 (v : Val) : ((v.1 == (0 : Int)) && ((v.2.1 == (0 : Int)) && (v.2.2.1 == ByteArray.empty))) = (v == none') := by rw [← vnone]; simp only [Bool.and_true]
theorem w29_5 (N : Nat) {β : Type} (x0 : Bool → Option β) (x1 : Int → Int → Int → ByteArray → Int → Int → Int → Int → ByteArray → Int → List Val → List Val → Bool → ByteArray → Int → Int → ByteArray → Option β) (a0 a1 a2 : Int) (a3 : ByteArray) (a4 a5 a6 a7 : Int) (a8 : ByteArray) (a9 : Int) (a10 a11 : List Val) (a12 : Bool) (a13 : ByteArray) (b0 b1 : Int) (b2 : ByteArray) (hs : a13.size ≤ maxLen) : ∀ (n k : Nat), a13.size - k < n →
    W29_5 N x0 x1 n a0 a1 a2 a3 a4 a5 a6 a7 a8 a9 a10 a11 a12 a13 b0 b1 b2 (k : Int) = bif (a13.data.toList.drop k).any (fun x => (x.toNat : Int) == 10) then x0 false else x1 a0 a1 a2 a3 a4 a5 a6 a7 a8 a9 a10 a11 a12 a13 b0 b1 b2
  | 0, k, h => by omega
  | n + 1, k, h => by
    unfold W29_5
    have hm : maxLen = 9223372036854775807 := rfl
    have hz : a13.data.toList.length = a13.size := rfl
    by_cases hd : k < a13.size
    · rw [cond_dec (by omega), cond_t (in_dec hd), Int.toNat_natCast, drop_getD (l := a13.data.toList) (d := (0 : UInt8)) hd, wi64 _ (by omega) (by omega), show ((k : Int) + 1) = ((k + 1 : Nat) : Int) by omega, w29_5 N x0 x1 a0 a1 a2 a3 a4 a5 a6 a7 a8 a9 a10 a11 a12 a13 b0 b1 b2 hs n (k + 1) (by omega), List.any_cons]
      cases (((a13.data.toList.getD k (0 : UInt8)).toNat : Int) == 10) <;> simp
    · rw [cond_dec' (by omega), List.drop_eq_nil_of_le (by omega)]; rfl
theorem w29_14 (N : Nat) {β : Type} (x0 : Bool → Option β) (x3 : Int → Int → Int → ByteArray → Int → Int → Int → Int → ByteArray → Int → List Val → List Val → Bool → ByteArray → Option β) (a0 a1 a2 : Int) (a3 : ByteArray) (a4 a5 a6 a7 : Int) (a8 : ByteArray) (a9 : Int) (a10 a11 : List Val) (a12 : Bool) (a13 : ByteArray) (hv : okVs a11 = true) : ∀ (n k : Nat), a11.length - k < n →
    W29_14 N x0 x3 n a0 a1 a2 a3 a4 a5 a6 a7 a8 a9 a10 a11 a12 a13 (k : Int) = bif (a11.drop k).all right then x3 a0 a1 a2 a3 a4 a5 a6 a7 a8 a9 a10 a11 a12 a13 else x0 false
  | 0, k, h => by omega
  | n + 1, k, h => by
    unfold W29_14
    have hm : maxLen = 9223372036854775807 := rfl
    have hs := (okVs_iff.1 hv).1
    by_cases hd : k < a11.length
    · have hv' := (okVs_iff.1 hv).2 _ (getD_mem (d := ((0 : Int), ((0 : Int), (ByteArray.empty, ())))) hd)
      rw [cond_dec (by omega), cond_t (in_dec hd), Int.toNat_natCast, drop_getD (d := ((0 : Int), ((0 : Int), (ByteArray.empty, ())))) hd, wi64 _ (by omega) (by omega),
        show ((k : Int) + 1) = ((k + 1 : Nat) : Int) by omega, w29_14 N x0 x3 a0 a1 a2 a3 a4 a5 a6 a7 a8 a9 a10 a11 a12 a13 hv n (k + 1) (by omega)]
      try simp only [eta]
      generalize List.getD a11 k ((0 : Int), ((0 : Int), (ByteArray.empty, ()))) = v at hv'
      simp only [hv', cond_true, List.all_cons]
      cases right v <;> simp
    · rw [cond_dec' (by omega), List.drop_eq_nil_of_le (by omega)]; rfl
def fuel29 (e : Evt) : Nat := (Ev.note e).size + (Ev.out e).length + 1
theorem plain29 (e : Evt) (h : okEv e = true) : F29 (fuel29 e) e = some (rightE e, ()) := by
  have hE : okE e = true := h
  obtain ⟨p1, p2, p3, p4⟩ := okE_parts hE
  have hns : (Ev.note e).size ≤ maxLen := by
    have h1 : (wfD (.int .i64) (Ev.time e) && (wfD VT (Ev.cli e) && (wfD (.int .i64) (Ev.typ e) && (wfD (.int .i64) (Ev.mod e) && (wfD VT (Ev.key e) && (wfD (.int .i64) (Ev.op e) && (wfD (.sl VT) (Ev.args e) && (wfD (.sl VT) (Ev.out e) && (wfD .bool (Ev.ntd e) && (decide ((Ev.note e).size ≤ maxLen) && true)))))))))) = true := hE
    simp only [Bool.and_eq_true, decide_eq_true_eq] at h1
    exact h1.2.2.2.2.2.2.2.2.2.1
  unfold F29 rightE
  have ht : decide (e.1 < (0 : Int)) = !decide (0 ≤ Ev.time e) := by rw [← decide_not, decide_eq_decide]; show e.1 < 0 ↔ ¬ 0 ≤ e.1; omega
  have hg : decide ((((ByteArray.size e.2.2.2.2.2.2.2.2.2.1) : Nat) : Int) > (100 : Int)) = !decide ((Ev.note e).size ≤ 100) := by rw [← decide_not, decide_eq_decide]; show ((e.2.2.2.2.2.2.2.2.2.1.size : Nat) : Int) > 100 ↔ ¬ e.2.2.2.2.2.2.2.2.2.1.size ≤ 100; omega
  rw [ht]
  cases decide (0 ≤ Ev.time e) with
  | false => rfl
  | true =>
  rw [Bool.not_true, cond_false, cond_t p1]
  cases name (Ev.cli e) with
  | false => rfl
  | true =>
  rw [Bool.not_true, cond_false, hg]
  unfold notedE
  cases decide ((Ev.note e).size ≤ 100) with
  | false => rfl
  | true =>
  rw [Bool.not_true, cond_false, eqs_nil]
  have hw := fun x0 x1 => w29_5 (β := Bool × Unit) (fuel29 e) x0 x1 e.1 e.2.1.1 e.2.1.2.1 e.2.1.2.2.1 e.2.2.1 e.2.2.2.1 e.2.2.2.2.1.1 e.2.2.2.2.1.2.1 e.2.2.2.2.1.2.2.1 e.2.2.2.2.2.1 e.2.2.2.2.2.2.1 e.2.2.2.2.2.2.2.1 e.2.2.2.2.2.2.2.2.1 (Ev.note e) 0 0 ByteArray.empty hns (fuel29 e) 0 (by unfold fuel29; omega)
  rw [show ((0 : Nat) : Int) = 0 from rfl, List.drop_zero] at hw
  simp only [hw]
  have hh : (List.any (Ev.note e).data.toList fun x => (x.toNat : Int) == 10) = hasB (Ev.note e) 10 := rfl
  have hw2 := fun x0 x3 => w29_14 (β := Bool × Unit) (fuel29 e) x0 x3 e.1 e.2.1.1 e.2.1.2.1 e.2.1.2.2.1 e.2.2.1 e.2.2.2.1 e.2.2.2.2.1.1 e.2.2.2.2.1.2.1 e.2.2.2.2.1.2.2.1 e.2.2.2.2.2.1 e.2.2.2.2.2.2.1 (Ev.out e) e.2.2.2.2.2.2.2.2.1 (Ev.note e) p4 (fuel29 e) 0 (by unfold fuel29; omega)
  rw [show ((0 : Nat) : Int) = 0 from rfl, List.drop_zero] at hw2
  have hF : okF3 (Ev.mod e) (Ev.op e) (Ev.args e) = true := p3
  have hlo : decide (e.2.2.1 < (2 : Int)) = !decide (2 ≤ e.2.2.1) := by rw [← decide_not, decide_eq_decide]; omega
  simp only [hh, hw2, hF, cond_true, len0, lenp]
  cases hn : e.2.2.2.2.2.2.2.2.1 <;> cases emp (Ev.note e) <;> cases hasB (Ev.note e) 10 <;> simp only [Ev.ntd, hn, Bool.not_true, Bool.not_false, cond_true, cond_false, Bool.and_true, Bool.true_and, Bool.or_true, Bool.true_or, Bool.false_or, Bool.or_false, Bool.and_false, Bool.false_and]
  all_goals cases hy : (e.2.2.1 == (1 : Int))
  all_goals simp only [cond_true, cond_false]
  all_goals first
    | rfl
    | (rw [show okV (e.2.2.2.2.1.1, (e.2.2.2.2.1.2.1, (e.2.2.2.2.1.2.2.1, ()))) = true from p2, show name (e.2.2.2.2.1.1, (e.2.2.2.2.1.2.1, (e.2.2.2.2.1.2.2.1, ()))) = name (Ev.key e) from rfl]
       cases fits (Ev.mod e) (Ev.op e) (Ev.args e) <;> cases name (Ev.key e) <;> rfl)
    | (have hb : (e.2.2.1 < 2 ∨ e.2.2.1 > 4) ∨ e.2.2.1 = 2 ∨ e.2.2.1 = 3 ∨ e.2.2.1 = 4 := by omega
       rcases hb with (hb | hb) | hb | hb | hb
       · rw [show decide (e.2.2.1 < (2 : Int)) = true from decide_eq_true hb, show (Ev.typ e == 2) = false from beq_eq_false_iff_ne.2 (by show e.2.2.1 ≠ 2; omega), show (Ev.typ e == 3) = false from beq_eq_false_iff_ne.2 (by show e.2.2.1 ≠ 3; omega), show (Ev.typ e == 4) = false from beq_eq_false_iff_ne.2 (by show e.2.2.1 ≠ 4; omega)]
         simp
       · rw [show decide (e.2.2.1 < (2 : Int)) = false from decide_eq_false (by omega), show decide (e.2.2.1 > (4 : Int)) = true from decide_eq_true hb, show (Ev.typ e == 2) = false from beq_eq_false_iff_ne.2 (by show e.2.2.1 ≠ 2; omega), show (Ev.typ e == 3) = false from beq_eq_false_iff_ne.2 (by show e.2.2.1 ≠ 3; omega), show (Ev.typ e == 4) = false from beq_eq_false_iff_ne.2 (by show e.2.2.1 ≠ 4; omega)]
         simp
       all_goals
         rw [show decide (e.2.2.1 < (2 : Int)) = false from decide_eq_false (by omega), show decide (e.2.2.1 > (4 : Int)) = false from decide_eq_false (by omega)]
         simp only [cond_false, bne, vnone2, hb, Ev.typ]
         cases (Ev.mod e == (0 : Int)) <;> cases (Ev.op e == (0 : Int)) <;> cases (Ev.key e == none') <;> cases (Ev.args e).isEmpty <;> cases (Ev.out e).all right <;> cases (Ev.out e).isEmpty <;> rfl)

theorem val_beq (a b : Val) : ((a.1 == b.1) && ((a.2.1 == b.2.1) && ((a.2.2.1 == b.2.2.1) && true))) = (a == b) := by rfl
theorem noE_ED : noE = ED := rfl
theorem w30 (N : Nat) {β : Type} (x0 : Int → Option β) (x1 : Unit → Option β) (l : List Evt) (a : Nat) (ha : a < l.length) (hs : l.length ≤ 1000) : ∀ (n i : Nat), i < n → i ≤ a →
    W30_2 N x0 x1 n l (a : Int) ((i : Int) - 1) = bif decide (0 ≤ lastN l (Ev.cli (l.getD a noE)) i) then x0 (lastN l (Ev.cli (l.getD a noE)) i) else x1 ()
  | 0, i, h, _ => by omega
  | n + 1, 0, h, _ => by
    unfold W30_2
    rw [cond_dec' (by omega)]; rfl
  | n + 1, i + 1, h, hi => by
    unfold W30_2
    rw [show ((i + 1 : Nat) : Int) - 1 = (i : Int) by omega, cond_dec (by omega), cond_t (in_dec (by omega)), cond_t (in_dec ha), Int.toNat_natCast, Int.toNat_natCast, wi64 _ (by omega) (by omega), w30 N x0 x1 l a ha hs n i (by omega) (by omega), lastN]
    rw [val_beq (l.getD i ED).2.1 (l.getD a ED).2.1, noE_ED]
    show (bif (Ev.cli (l.getD i ED) == Ev.cli (l.getD a ED)) then _ else _) = _
    cases (Ev.cli (l.getD i ED) == Ev.cli (l.getD a ED)) with
    | false => rfl
    | true => rw [cond_true, cond_true, cond_dec (by omega)]

theorem okAll_parts {h : List Evt} (hk : Inc.okAll h = true) : Inc.okH h = true ∧ h.length ≤ 1000 ∧ ∀ e ∈ h, evLen e = true := by
  have h1 : (Inc.okH h && (decide (h.length ≤ 1000) && h.all evLen)) = true := hk
  rw [Bool.and_eq_true, Bool.and_eq_true, decide_eq_true_eq, List.all_eq_true] at h1
  exact h1
theorem okAt_nat {h : List Evt} {a : Int} (hk : Inc.okAt h a = true) : ∃ n : Nat, a = (n : Int) ∧ n < h.length ∧ Inc.okAll h = true := by
  have h1 : (Inc.okAll h && (decide (0 ≤ a) && decide (a < h.length))) = true := hk
  rw [Bool.and_eq_true, Bool.and_eq_true, decide_eq_true_eq, decide_eq_true_eq] at h1
  exact ⟨a.toNat, by omega, by omega, h1.1⟩
theorem okAt_of {h : List Evt} {n : Nat} (hk : Inc.okAll h = true) (hn : n < h.length) : Inc.okAt h (n : Int) = true := by
  show (Inc.okAll h && (decide (0 ≤ (n : Int)) && decide ((n : Int) < h.length))) = true
  rw [hk, in_dec hn]; rfl
def fuel30 (h : List Evt) (a : Int) : Nat := h.length + 2
theorem plain30 (h : List Evt) (a : Int) (hk : Inc.okAt h a = true) : F30 (fuel30 h a) h a = some (lastE h a, ()) := by
  obtain ⟨n, rfl, hn, hA⟩ := okAt_nat hk
  obtain ⟨hH, hl, hE⟩ := okAll_parts hA
  unfold F30
  rw [wi64 _ (by omega) (by omega)]
  refine (w30 _ _ _ h n hn hl _ n (by unfold fuel30; omega) (Nat.le_refl _)).trans ?_
  have he : lastE h (n : Int) = lastN h (Ev.cli (h.getD n noE)) n := rfl
  rw [he]
  rcases lastN_spec h (Ev.cli (h.getD n noE)) n with ⟨e, _⟩ | ⟨k, hk', e, _⟩
  · rw [e, cond_dec' (by omega)]
  · rw [e, cond_dec (by omega)]
theorem w24 (N : Nat) {β : Type} (x0 : Int → Option β) (x1 : Unit → Option β) (l : List Evt) (a : Nat) (ha : a < l.length) (hs : l.length ≤ 1000) : ∀ (n m i : Nat), l.length - i < n → l.length ≤ m + i →
    W24_2 N x0 x1 n l (a : Int) (i : Int) = bif decide (0 ≤ nextN l (Ev.cli (l.getD a noE)) m i) then x0 (nextN l (Ev.cli (l.getD a noE)) m i) else x1 ()
  | 0, m, i, h, _ => by omega
  | n + 1, m, i, h, hm => by
    unfold W24_2
    by_cases hi : i < l.length
    · obtain ⟨m, rfl⟩ : ∃ q, m = q + 1 := ⟨m - 1, by omega⟩
      rw [cond_dec (by omega), cond_t (in_dec hi), cond_t (in_dec ha), Int.toNat_natCast, Int.toNat_natCast, wi64 _ (by omega) (by omega), show ((i : Int) + 1) = ((i + 1 : Nat) : Int) by omega, w24 N x0 x1 l a ha hs n m (i + 1) (by omega) (by omega), nextN, decide_eq_true hi, cond_true]
      rw [val_beq (l.getD i ED).2.1 (l.getD a ED).2.1, noE_ED]
      show (bif (Ev.cli (l.getD i ED) == Ev.cli (l.getD a ED)) then _ else _) = _
      cases (Ev.cli (l.getD i ED) == Ev.cli (l.getD a ED)) with
      | false => rfl
      | true => rw [cond_true, cond_true, cond_dec (by omega)]
    · rw [cond_dec' (by omega)]
      have : nextN l (Ev.cli (l.getD a noE)) m i = -1 := by
        cases m with
        | zero => rfl
        | succ m => rw [nextN, decide_eq_false hi, cond_false]
      rw [this]; rfl
def fuel24 (h : List Evt) (a : Int) : Nat := h.length + 2
theorem plain24 (h : List Evt) (a : Int) (hk : Inc.okAt h a = true) : F24 (fuel24 h a) h a = some (nextE h a, ()) := by
  obtain ⟨n, rfl, hn, hA⟩ := okAt_nat hk
  obtain ⟨hH, hl, hE⟩ := okAll_parts hA
  unfold F24
  rw [wi64 _ (by omega) (by omega), show ((n : Int) + 1) = ((n + 1 : Nat) : Int) by omega]
  refine (w24 _ _ _ h n hn hl _ h.length (n + 1) (by unfold fuel24; omega) (by omega)).trans ?_
  have he : nextE h (n : Int) = nextN h (Ev.cli (h.getD n noE)) h.length (n + 1) := rfl
  rw [← he]
  rcases next_cases h n with e | ⟨k, hk', _, e⟩
  · rw [e, cond_dec' (by omega)]
  · rw [e, cond_dec (by omega)]
theorem w11 (N : Nat) {β : Type} (x0 : Int → Int → Option β) (x1 : Unit → Option β) (h : List Evt) (hk : Inc.okAll h = true) (hs : h.length ≤ 1000) (X : Int × (Int × Unit) → Option β) (h0 : ∀ a b, x0 a b = X (a, (b, ()))) (h1 : x1 () = X (0, (0, ()))) : ∀ (n m i : Nat), h.length - i < n → h.length < m + i → i ≤ h.length →
    W11_2 N x0 x1 n h (i : Int) = X (refCheckN h m i)
  | 0, m, i, hn, _, _ => by omega
  | n + 1, m, i, hn, hm, hle => by
    unfold W11_2
    obtain ⟨m, rfl⟩ : ∃ q, m = q + 1 := ⟨m - 1, by omega⟩
    rw [refCheckN]
    by_cases hi : i < h.length
    · rw [cond_dec (by omega), cond_t (okAt_of hk hi), wi64 _ (by omega) (by omega), decide_eq_true hi, cond_true, show wrongE h (i : Int) = wrongN h i from rfl]
      cases (wrongN h i != 0) with
      | true => exact h0 _ _
      | false =>
        rw [cond_false, cond_false, show ((i : Int) + 1) = ((i + 1 : Nat) : Int) by omega]
        exact w11 N x0 x1 h hk hs X h0 h1 n m (i + 1) (by omega) (by omega) (by omega)
    · rw [cond_dec' (by omega), decide_eq_false hi, cond_false]
      exact h1
def fuel11 (h : List Evt) : Nat := h.length + 2
theorem plain11 (h : List Evt) (hk : Inc.okAll h = true) : F11 (fuel11 h) h = some (refCheck h) := by
  obtain ⟨hH, hl, hE⟩ := okAll_parts hk
  unfold F11
  exact w11 _ _ _ h hk hl (fun q => some q) (fun _ _ => rfl) rfl _ (h.length + 1) 0 (by unfold fuel11; omega) (by omega) (by omega)

def fuel21 (h : List Evt) (a : Int) : Nat := 0
theorem plain21 (h : List Evt) (a : Int) (hk : Inc.okAt h a = true) : F21 (fuel21 h a) h a = some (wrongE h a, ()) := by
  obtain ⟨n, rfl, hn, hA⟩ := okAt_nat hk
  obtain ⟨hH, hl, hE⟩ := okAll_parts hA
  have hev : okEv (h.getD n ((0 : Int), (((0 : Int), ((0 : Int), (ByteArray.empty, ()))), ((0 : Int), ((0 : Int), (((0 : Int), ((0 : Int), (ByteArray.empty, ()))), ((0 : Int), ([], ([], (false, (ByteArray.empty, ()))))))))))) = true := (okH_at hH).2 _ (getD_mem hn)
  have hout : rightE (h.getD n ((0 : Int), (((0 : Int), ((0 : Int), (ByteArray.empty, ()))), ((0 : Int), ((0 : Int), (((0 : Int), ((0 : Int), (ByteArray.empty, ()))), ((0 : Int), ([], ([], (false, (ByteArray.empty, ()))))))))))) = true → okF2 0 0 (Ev.out (h.getD n ((0 : Int), (((0 : Int), ((0 : Int), (ByteArray.empty, ()))), ((0 : Int), ((0 : Int), (((0 : Int), ((0 : Int), (ByteArray.empty, ()))), ((0 : Int), ([], ([], (false, (ByteArray.empty, ())))))))))))) = true := fun hr => by
    have h1 := hE _ (getD_mem (d := ((0 : Int), (((0 : Int), ((0 : Int), (ByteArray.empty, ()))), ((0 : Int), ((0 : Int), (((0 : Int), ((0 : Int), (ByteArray.empty, ()))), ((0 : Int), ([], ([], (false, (ByteArray.empty, ()))))))))))) hn)
    unfold evLen at h1
    rw [hr, Bool.not_true, Bool.false_or] at h1
    show okL2 _ = true
    unfold okL2
    rw [(okE_parts hev).2.2.2, h1]; rfl
  have hw : wrongE h (n : Int) = wrongN h n := by show wrongN h (n : Int).toNat = _; rw [Int.toNat_natCast]
  rw [hw]
  unfold F21 wrongN
  dsimp only
  have hlast : lastE h (n : Int) = lastN h (Ev.cli (h.getD n noE)) n := rfl
  rw [← hlast]
  have hspec := lastN_spec h (Ev.cli (h.getD n noE)) n
  rw [← hlast] at hspec
  have hp : 0 < n → (decide ((0 : Int) ≤ IntKind.wrap .i64 ((n : Int) - 1)) && decide (IntKind.wrap .i64 ((n : Int) - 1) < (h.length : Int))) = true := fun h0 => by
    rw [wi64 _ (by omega) (by omega), show (n : Int) - 1 = ((n - 1 : Nat) : Int) by omega]; exact in_dec (by omega)
  have hp2 : 0 < n → IntKind.wrap .i64 ((n : Int) - 1) = ((n - 1 : Nat) : Int) := fun h0 => by
    rw [wi64 _ (by omega) (by omega)]; omega
  have h4 : decide ((n : Int) ≥ 4096) = decide (4096 ≤ n) := by rw [decide_eq_decide]; omega
  have h5 : decide ((n : Int) > 0) = decide (0 < n) := by rw [decide_eq_decide]; omega
  rw [h4, h5]
  cases decide (4096 ≤ n) with
  | true => rfl
  | false =>
  rw [cond_false, cond_t (in_dec hn), cond_false, Int.toNat_natCast, cond_t hev]
  show (bif !(rightE (h.getD n ((0 : Int), (((0 : Int), ((0 : Int), (ByteArray.empty, ()))), ((0 : Int), ((0 : Int), (((0 : Int), ((0 : Int), (ByteArray.empty, ()))), ((0 : Int), ([], ([], (false, (ByteArray.empty, ())))))))))))) then _ else _) = some ((bif !(rightE (h.getD n ((0 : Int), (((0 : Int), ((0 : Int), (ByteArray.empty, ()))), ((0 : Int), ((0 : Int), (((0 : Int), ((0 : Int), (ByteArray.empty, ()))), ((0 : Int), ([], ([], (false, (ByteArray.empty, ())))))))))))) then _ else _), ())
  cases hr : rightE (h.getD n ((0 : Int), (((0 : Int), ((0 : Int), (ByteArray.empty, ()))), ((0 : Int), ((0 : Int), (((0 : Int), ((0 : Int), (ByteArray.empty, ()))), ((0 : Int), ([], ([], (false, (ByteArray.empty, ()))))))))))) with
  | false => rfl
  | true =>
  have ho := hout hr
  rw [Bool.not_true, cond_false, cond_false]
  have key : ∀ (G : Option (Int × Unit)), (bif (Go.Inc.okAt h (n : Int)) then (bif decide ((Go.Inc.lastE h n) ≥ (0 : Int)) then G else G) else none) = G := fun G => by
    rw [hk, cond_true]; cases decide ((Go.Inc.lastE h n) ≥ (0 : Int)) <;> rfl
  show _ = some ((bif decide (0 < n) && decide (Ev.time (h.getD n ((0 : Int), (((0 : Int), ((0 : Int), (ByteArray.empty, ()))), ((0 : Int), ((0 : Int), (((0 : Int), ((0 : Int), (ByteArray.empty, ()))), ((0 : Int), ([], ([], (false, (ByteArray.empty, ()))))))))))) < Ev.time (h.getD (n - 1) ((0 : Int), (((0 : Int), ((0 : Int), (ByteArray.empty, ()))), ((0 : Int), ((0 : Int), (((0 : Int), ((0 : Int), (ByteArray.empty, ()))), ((0 : Int), ([], ([], (false, (ByteArray.empty, ())))))))))))) then (4 : Int) else bif Ev.typ (h.getD n ((0 : Int), (((0 : Int), ((0 : Int), (ByteArray.empty, ()))), ((0 : Int), ((0 : Int), (((0 : Int), ((0 : Int), (ByteArray.empty, ()))), ((0 : Int), ([], ([], (false, (ByteArray.empty, ()))))))))))) == 1 then (bif decide (0 ≤ lastE h n) && (Ev.typ (h.getD (lastE h n).toNat ((0 : Int), (((0 : Int), ((0 : Int), (ByteArray.empty, ()))), ((0 : Int), ((0 : Int), (((0 : Int), ((0 : Int), (ByteArray.empty, ()))), ((0 : Int), ([], ([], (false, (ByteArray.empty, ()))))))))))) == 1 || Ev.typ (h.getD (lastE h n).toNat ((0 : Int), (((0 : Int), ((0 : Int), (ByteArray.empty, ()))), ((0 : Int), ((0 : Int), (((0 : Int), ((0 : Int), (ByteArray.empty, ()))), ((0 : Int), ([], ([], (false, (ByteArray.empty, ()))))))))))) == 4) then 4 else 0) else
    bif !(decide (0 ≤ lastE h n) && Ev.typ (h.getD (lastE h n).toNat ((0 : Int), (((0 : Int), ((0 : Int), (ByteArray.empty, ()))), ((0 : Int), ((0 : Int), (((0 : Int), ((0 : Int), (ByteArray.empty, ()))), ((0 : Int), ([], ([], (false, (ByteArray.empty, ()))))))))))) == 1) then 4 else
    bif Ev.typ (h.getD n ((0 : Int), (((0 : Int), ((0 : Int), (ByteArray.empty, ()))), ((0 : Int), ((0 : Int), (((0 : Int), ((0 : Int), (ByteArray.empty, ()))), ((0 : Int), ([], ([], (false, (ByteArray.empty, ()))))))))))) == 2 && !(signOuts (Ev.mod (h.getD (lastE h n).toNat ((0 : Int), (((0 : Int), ((0 : Int), (ByteArray.empty, ()))), ((0 : Int), ((0 : Int), (((0 : Int), ((0 : Int), (ByteArray.empty, ()))), ((0 : Int), ([], ([], (false, (ByteArray.empty, ())))))))))))) (Ev.op (h.getD (lastE h n).toNat ((0 : Int), (((0 : Int), ((0 : Int), (ByteArray.empty, ()))), ((0 : Int), ((0 : Int), (((0 : Int), ((0 : Int), (ByteArray.empty, ()))), ((0 : Int), ([], ([], (false, (ByteArray.empty, ())))))))))))) (Ev.out (h.getD n ((0 : Int), (((0 : Int), ((0 : Int), (ByteArray.empty, ()))), ((0 : Int), ((0 : Int), (((0 : Int), ((0 : Int), (ByteArray.empty, ()))), ((0 : Int), ([], ([], (false, (ByteArray.empty, ()))))))))))))).2 then 4 else 0), ())
  by_cases h0 : 0 < n
  · rw [cond_dec h0, decide_eq_true h0, Bool.true_and, cond_t (hp h0), hp2 h0, Int.toNat_natCast]
    cases decide (Ev.time (h.getD n ((0 : Int), (((0 : Int), ((0 : Int), (ByteArray.empty, ()))), ((0 : Int), ((0 : Int), (((0 : Int), ((0 : Int), (ByteArray.empty, ()))), ((0 : Int), ([], ([], (false, (ByteArray.empty, ()))))))))))) < Ev.time (h.getD (n - 1) ((0 : Int), (((0 : Int), ((0 : Int), (ByteArray.empty, ()))), ((0 : Int), ((0 : Int), (((0 : Int), ((0 : Int), (ByteArray.empty, ()))), ((0 : Int), ([], ([], (false, (ByteArray.empty, ())))))))))))) with
    | true => rfl
    | false =>
    rw [cond_false, cond_false, cond_t hk]
    rcases hspec with ⟨e, _⟩ | ⟨k, hkn, e, _⟩
    · simp only [e, show decide ((-1 : Int) ≥ 0) = false from rfl, show decide ((0 : Int) ≤ -1) = false from rfl, cond_false, Bool.false_and, Bool.not_false, cond_true]
      generalize h.getD n ((0 : Int), (((0 : Int), ((0 : Int), (ByteArray.empty, ()))), ((0 : Int), ((0 : Int), (((0 : Int), ((0 : Int), (ByteArray.empty, ()))), ((0 : Int), ([], ([], (false, (ByteArray.empty, ())))))))))) = x
      show (bif (Ev.typ x == 1) then _ else _) = _
      cases (Ev.typ x == 1) <;> rfl
    · have hk' : k < h.length := by omega
      simp only [e, decide_eq_true (show (k : Int) ≥ 0 by omega), decide_eq_true (show (0 : Int) ≤ k by omega), cond_true, decide_eq_true (show (k : Int) < (h.length : Int) by omega), Bool.and_self, Int.toNat_natCast, Bool.true_and]
      have ho' : ∀ a b, okF2 a b (Ev.out (h.getD n ((0 : Int), (((0 : Int), ((0 : Int), (ByteArray.empty, ()))), ((0 : Int), ((0 : Int), (((0 : Int), ((0 : Int), (ByteArray.empty, ()))), ((0 : Int), ([], ([], (false, (ByteArray.empty, ())))))))))))) = true := fun _ _ => ho
      generalize h.getD n ((0 : Int), (((0 : Int), ((0 : Int), (ByteArray.empty, ()))), ((0 : Int), ((0 : Int), (((0 : Int), ((0 : Int), (ByteArray.empty, ()))), ((0 : Int), ([], ([], (false, (ByteArray.empty, ())))))))))) = x at ho'
      generalize h.getD k ((0 : Int), (((0 : Int), ((0 : Int), (ByteArray.empty, ()))), ((0 : Int), ((0 : Int), (((0 : Int), ((0 : Int), (ByteArray.empty, ()))), ((0 : Int), ([], ([], (false, (ByteArray.empty, ())))))))))) = y
      have hoo := ho' (Ev.mod y) (Ev.op y)
      rw [cond_t hoo]
      have hg : (outsGo (Ev.mod y) (Ev.op y) (Ev.out x)).2.1 = (signOuts (Ev.mod y) (Ev.op y) (Ev.out x)).2 := rfl
      simp only [Ev.mod, Ev.op, Ev.out, Ev.typ] at hg ⊢
      rw [hg]
      cases (x.2.2.1 == 1) <;> cases (y.2.2.1 == 1) <;> cases (y.2.2.1 == 4) <;> cases (x.2.2.1 == 2) <;> cases (signOuts y.2.2.2.1 y.2.2.2.2.2.1 x.2.2.2.2.2.2.2.1).2 <;> rfl
  · rw [cond_dec' h0, decide_eq_false h0, Bool.false_and, cond_false, cond_t hk]
    rcases hspec with ⟨e, _⟩ | ⟨k, hkn, e, _⟩
    · simp only [e, show decide ((-1 : Int) ≥ 0) = false from rfl, show decide ((0 : Int) ≤ -1) = false from rfl, cond_false, Bool.false_and, Bool.not_false, cond_true]
      generalize h.getD n ((0 : Int), (((0 : Int), ((0 : Int), (ByteArray.empty, ()))), ((0 : Int), ((0 : Int), (((0 : Int), ((0 : Int), (ByteArray.empty, ()))), ((0 : Int), ([], ([], (false, (ByteArray.empty, ())))))))))) = x
      show (bif (Ev.typ x == 1) then _ else _) = _
      cases (Ev.typ x == 1) <;> rfl
    · have hk' : k < h.length := by omega
      simp only [e, decide_eq_true (show (k : Int) ≥ 0 by omega), decide_eq_true (show (0 : Int) ≤ k by omega), cond_true, decide_eq_true (show (k : Int) < (h.length : Int) by omega), Bool.and_self, Int.toNat_natCast, Bool.true_and]
      have ho' : ∀ a b, okF2 a b (Ev.out (h.getD n ((0 : Int), (((0 : Int), ((0 : Int), (ByteArray.empty, ()))), ((0 : Int), ((0 : Int), (((0 : Int), ((0 : Int), (ByteArray.empty, ()))), ((0 : Int), ([], ([], (false, (ByteArray.empty, ())))))))))))) = true := fun _ _ => ho
      generalize h.getD n ((0 : Int), (((0 : Int), ((0 : Int), (ByteArray.empty, ()))), ((0 : Int), ((0 : Int), (((0 : Int), ((0 : Int), (ByteArray.empty, ()))), ((0 : Int), ([], ([], (false, (ByteArray.empty, ())))))))))) = x at ho'
      generalize h.getD k ((0 : Int), (((0 : Int), ((0 : Int), (ByteArray.empty, ()))), ((0 : Int), ((0 : Int), (((0 : Int), ((0 : Int), (ByteArray.empty, ()))), ((0 : Int), ([], ([], (false, (ByteArray.empty, ())))))))))) = y
      have hoo := ho' (Ev.mod y) (Ev.op y)
      rw [cond_t hoo]
      have hg : (outsGo (Ev.mod y) (Ev.op y) (Ev.out x)).2.1 = (signOuts (Ev.mod y) (Ev.op y) (Ev.out x)).2 := rfl
      simp only [Ev.mod, Ev.op, Ev.out, Ev.typ] at hg ⊢
      rw [hg]
      cases (x.2.2.1 == 1) <;> cases (y.2.2.1 == 1) <;> cases (y.2.2.1 == 4) <;> cases (x.2.2.1 == 2) <;> cases (signOuts y.2.2.2.1 y.2.2.2.2.2.1 x.2.2.2.2.2.2.2.1).2 <;> rfl

end Go.L12
