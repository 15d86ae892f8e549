/- Own text of this session: a part of the proof; no condition of its own. -/
import Derived.Test.YtjhkmflnelbbmaaDoorP
set_option linter.unusedVariables false
set_option linter.unusedSimpArgs false
set_option maxRecDepth 100000
namespace Go.L14
open Go Go.Abs Go.Inc
theorem eta (v : Val) : (v.1, (v.2.1, (v.2.2.1, ()))) = v := rfl
def fuel48 (a b : Int) (c : ByteArray) (d : Int) (e : Bool) (m o : Int) : Nat := 0
theorem plain48 (a b : Int) (c : ByteArray) (d : Int) (e : Bool) (m o : Int) (_ : true = true) : F48 0 a b c d e m o = some (hitA a b c d e m o, ((m, ()), ((o, ()), ()))) := by
  unfold F48 hitA
  cases (a == m) <;> rfl

theorem widx (N : Nat) {β : Type} (x0 : Int → Int → Int → Option β) (x1 : Int → Int → Option β) (l : List Row) (m o : Int) (hs : l.length ≤ 1000) : ∀ (n k : Nat), l.length - k < n →
    W47_2 N x0 x1 n l (l.length : Int) (k : Int) m o = match (l.drop k).findIdx? (hit m o) with | some i => x0 ((k + i : Nat) : Int) m o | none => x1 m o
  | 0, k, h => by omega
  | n + 1, k, h => by
    unfold W47_2
    by_cases hd : k < l.length
    · rw [cond_dec (by omega), cond_t (in_dec hd), Int.toNat_natCast, drop_getD (d := ((0 : Int), ((0 : Int), (ByteArray.empty, ((0 : Int), (false, ())))))) hd, wi64 _ (by omega) (by omega), show ((k : Int) + 1) = ((k + 1 : Nat) : Int) by omega,
        widx N x0 x1 l m o hs n (k + 1) (by omega), List.findIdx?_cons]
      generalize List.getD l k ((0 : Int), ((0 : Int), (ByteArray.empty, ((0 : Int), (false, ()))))) = r
      have e : hitA r.1 r.2.1 r.2.2.1 r.2.2.2.1 r.2.2.2.2.1 m o = hit m o r := rfl
      rw [e]
      cases hit m o r with
      | true => rfl
      | false =>
        simp only [cond_false, Bool.false_eq_true, if_false]
        cases (l.drop (k + 1)).findIdx? (hit m o) with
        | none => rfl
        | some i =>
          show x0 ((k + 1 + i : Nat) : Int) m o = x0 ((k + (i + 1) : Nat) : Int) m o
          congr 2; omega
    · rw [cond_dec' (by omega), List.drop_eq_nil_of_le (by omega)]; rfl
def fuel47 (l : List Row) (m o : Int) : Nat := l.length + 1
theorem plain47 (l : List Row) (m o : Int) (h : okX l m o = true) : F47 (fuel47 l m o) l m o = some (idxR l m o, ((m, ()), ((o, ()), ()))) := by
  have hs : l.length ≤ 1000 := of_decide_eq_true h
  unfold F47 fuel47 idxR
  have hw := fun x0 x1 => widx (β := HS.den X47.hout) (l.length + 1) x0 x1 l m o hs (l.length + 1) 0 (by omega)
  rw [show ((0 : Nat) : Int) = 0 from rfl] at hw
  rw [hw, List.drop_zero]
  cases l.findIdx? (hit m o) with
  | none => rfl
  | some i => show some (((0 + i : Nat) : Int), _) = _; rw [Nat.zero_add]

theorem find_idx {α : Type} {p : α → Bool} (d : α) : ∀ {l : List α} {i : Nat}, l.findIdx? p = some i → i < l.length ∧ l.find? p = some (l.getD i d)
  | [], i, h => by simp at h
  | x :: l, i, h => by
    rw [List.findIdx?_cons] at h
    rw [List.find?_cons]
    cases hp : p x with
    | true =>
      rw [hp] at h; simp only [if_true, Option.some.injEq] at h; subst h
      exact ⟨by simp, rfl⟩
    | false =>
      rw [hp] at h; simp only [Bool.false_eq_true, if_false, Option.map_eq_some_iff] at h
      obtain ⟨j, hj, rfl⟩ := h
      obtain ⟨h1, h2⟩ := find_idx d hj
      exact ⟨by rw [List.length_cons]; omega, by rw [h2]; rfl⟩
theorem find_none {α : Type} {p : α → Bool} : ∀ {l : List α}, l.findIdx? p = none → l.find? p = none
  | [], _ => rfl
  | x :: l, h => by
    rw [List.findIdx?_cons] at h
    rw [List.find?_cons]
    cases hp : p x with
    | true => rw [hp] at h; simp at h
    | false =>
      rw [hp] at h; simp only [Bool.false_eq_true, if_false, Option.map_eq_none_iff] at h
      exact find_none h
theorem f32 (N : Nat) (m o : Int) : F32 N m o = bif decide (idxR tbl m o < 0) then some (((0 : Int), ((0 : Int), (ByteArray.empty, ((0 : Int), (false, ()))))), (false, ())) else
    bif (decide (0 ≤ idxR tbl m o) && decide (idxR tbl m o < ((tbl.length : Nat) : Int))) then some (tbl.getD (Int.toNat (idxR tbl m o)) ((0 : Int), ((0 : Int), (ByteArray.empty, ((0 : Int), (false, ()))))), (true, ())) else none := rfl
def fuel32 (m o : Int) : Nat := 0
theorem plain32 (m o : Int) (_ : true = true) : F32 0 m o = some (findGo m o, ()).1 := by
  rw [f32]
  unfold findGo sfind idxR
  cases h : tbl.findIdx? (hit m o) with
  | none => rw [find_none h]; rfl
  | some i =>
    obtain ⟨h1, h2⟩ := find_idx ((0 : Int), ((0 : Int), (ByteArray.empty, ((0 : Int), (false, ()))))) h
    rw [h2]
    simp only
    rw [cond_dec' (by omega), cond_t (in_dec h1), Int.toNat_natCast]

theorem tbl_in {m o : Int} {r : Row} (h : sfind m o = some r) : r ∈ tbl := List.mem_of_find?_eq_some h
theorem tbl_size : ∀ r ∈ tbl, r.2.2.1.size ≤ 2 := by
  have : (tbl.all fun r => decide (r.2.2.1.size ≤ 2)) = true := by decide +kernel
  simpa [List.all_eq_true] using this
theorem tbl_out : ∀ r ∈ tbl, r.2.2.2.1 = -1 ∨ r.2.2.2.1 = 2 ∨ r.2.2.2.1 = 4 ∨ r.2.2.2.1 = 5 ∨ r.2.2.2.1 = 6 ∨ r.2.2.2.1 = 99 := by
  have : (tbl.all fun r => decide (r.2.2.2.1 = -1 ∨ r.2.2.2.1 = 2 ∨ r.2.2.2.1 = 4 ∨ r.2.2.2.1 = 5 ∨ r.2.2.2.1 = 6 ∨ r.2.2.2.1 = 99)) = true := by decide +kernel
  simpa [List.all_eq_true] using this

theorem w36 (N : Nat) {β : Type} (x1 : List Int → Option β) (a b : Int) (s : ByteArray) (c : Int) (d : Bool) (hs : s.size ≤ 1000) : ∀ (n k : Nat) (acc : List Int), s.size - k < n → acc.length + s.size ≤ 1000 + k → k ≤ s.size →
    W36_6 N x1 n a b s c d acc (s.size : Int) (k : Int) = x1 (acc ++ (s.data.toList.drop k).map dom8)
  | 0, k, acc, h, _, _ => by omega
  | n + 1, k, acc, h, hb, hk => by
    have ih := w36 N x1 a b s c d hs n (k + 1)
    unfold W36_6
    rw [size_eq] at h hb hk ih hs ⊢
    by_cases hd : k < s.data.toList.length
    · rw [cond_dec (by omega), cond_t (in_dec hd), Int.toNat_natCast, cond_dec (by simp only [List.length_cons, List.length_nil]; omega), wi64 _ (by omega) (by omega), show ((k : Int) + 1) = ((k + 1 : Nat) : Int) by omega,
        ih _ (by omega) (by simp only [List.length_append, List.length_cons, List.length_nil]; omega) (by omega), drop_getD (d := 0) hd, List.map_cons, List.append_assoc]
      rfl
    · rw [cond_dec' (by omega), List.drop_eq_nil_of_le (by omega)]; simp
def fuel36 (m o : Int) : Nat := 10
theorem plain36 (m o : Int) (_ : true = true) : F36 (fuel36 m o) m o = some (argsGo m o) := by
  unfold F36 argsGo sin findGo
  cases h : sfind m o with
  | none => rfl
  | some r =>
    have hz := tbl_size r (tbl_in h)
    have hw := w36 (fuel36 m o) (fun t8 => some (t8, (true, ()))) r.1 r.2.1 r.2.2.1 r.2.2.2.1 r.2.2.2.2.1 (by omega) 10 0 [] (by omega) (by simp; omega) (by omega)
    rw [show ((0 : Nat) : Int) = 0 from rfl] at hw
    simp only [Bool.not_true, cond_false]
    exact hw

theorem tm2 (k : Nat) : (Int.tmod (k : Int) 2 == 1) = decide (k % 2 = 1) := by
  rw [Int.tmod_eq_emod_of_nonneg (by omega), Bool.eq_iff_iff]
  simp only [beq_iff_eq, decide_eq_true_eq]; omega
theorem vnone (v : Val) : ((v.1 == (0 : Int)) && ((v.2.1 == (0 : Int)) && ((v.2.2.1 == ByteArray.empty) && true))) = (v == none') := by
  obtain ⟨k, n, s, ⟨⟩⟩ := v
  rfl
theorem d42 (k : Nat) : IntKind.wrap .i64 ((4 : Int) - IntKind.wrap .i64 (Int.tmod (k : Int) 2 * 2)) = dpair k := by
  rw [Int.tmod_eq_emod_of_nonneg (by omega), wi64 ((k : Int) % 2 * 2) (by omega) (by omega), wi64 _ (by omega) (by omega)]
  unfold dpair
  split <;> omega
theorem pairs_len : ∀ {l : List Val} {k : Nat} {r : List Int}, pairs k l = some r → r.length = l.length
  | [], k, r, h => by cases h; rfl
  | v :: l, k, r, h => by
    simp only [pairs] at h
    cases ht : takes (dpair k) v with
    | false => rw [ht] at h; cases h
    | true =>
      rw [ht, cond_true, Option.map_eq_some_iff] at h
      obtain ⟨t, h1, rfl⟩ := h
      simp [pairs_len h1]
theorem takesAll_len : ∀ {ds : List Int} {vs : List Val}, takesAll ds vs = true → ds.length = vs.length
  | [], [], _ => rfl
  | d :: ds, v :: vs, h => by
    simp only [takesAll, Bool.and_eq_true] at h
    simp [takesAll_len h.2]
  | [], _ :: _, h => by cases h
  | _ :: _, [], h => by cases h
theorem w23 (N : Nat) {β : Type} (x0 : Bool → Option β) (x1 : Unit → Option β) (vs : List Val) (hv : okVs vs = true) (ds : List Int) (hl : ds.length = vs.length) (hs : vs.length ≤ 1000) : ∀ (n k : Nat), ds.length - k < n →
    W23_5 N x0 x1 n vs ds (ds.length : Int) (k : Int) = bif takesAll (ds.drop k) (vs.drop k) then x1 () else x0 false
  | 0, k, h => by omega
  | n + 1, k, h => by
    unfold W23_5
    by_cases hd : k < ds.length
    · have hv' := (okVs_iff.1 hv).2 _ (getD_mem (d := ((0 : Int), ((0 : Int), (ByteArray.empty, ())))) (show k < vs.length by omega))
      rw [cond_dec (by omega), cond_t (in_dec hd), cond_t (in_dec (by omega)), Int.toNat_natCast, drop_getD (d := 0) hd, drop_getD (l := vs) (d := ((0 : Int), ((0 : Int), (ByteArray.empty, ())))) (by omega), wi64 _ (by omega) (by omega),
        show ((k : Int) + 1) = ((k + 1 : Nat) : Int) by omega, w23 N x0 x1 vs hv ds hl hs n (k + 1) (by omega)]
      try simp only [eta]
      generalize List.getD vs k ((0 : Int), ((0 : Int), (ByteArray.empty, ()))) = v at hv'
      have hok : ∀ d, okT d v = true := fun d => hv'
      simp only [hok, cond_true, takesAll]
      cases takes (ds.getD k 0) v <;> simp
    · rw [cond_dec' (by omega), List.drop_eq_nil_of_le (by omega), List.drop_eq_nil_of_le (by omega)]; rfl
def fuel23 (m o : Int) (l : List Val) : Nat := l.length + 1
theorem plain23 (m o : Int) (l : List Val) (h : okF m o l = true) : F23 (fuel23 m o l) m o l = some (fits m o l, ()) := by
  have h' : okL l = true := h
  simp only [okL, Bool.and_eq_true, decide_eq_true_eq] at h'
  unfold F23 fits argsGo
  cases hf : sin m o with
  | none => rfl
  | some ds =>
    simp only [Bool.not_true, cond_false]
    by_cases hl : ds.length = l.length
    · have e1 : (((ds.length : Nat) : Int) != ((l.length : Nat) : Int)) = false := by rw [hl]; exact bne_self_eq_false _
      have hw := fun x0 x1 => w23 (β := Bool × Unit) (fuel23 m o l) x0 x1 l h'.1 ds hl h'.2 (l.length + 1) 0 (by omega)
      rw [show ((0 : Nat) : Int) = 0 from rfl, List.drop_zero, List.drop_zero] at hw
      rw [e1, cond_false]
      refine Eq.trans (hw _ _) ?_
      cases takesAll ds l <;> rfl
    · have e1 : (((ds.length : Nat) : Int) != ((l.length : Nat) : Int)) = true := bne_iff_ne.2 (by omega)
      rw [e1, cond_true]
      cases ht : takesAll ds l with
      | false => rfl
      | true => exact absurd (takesAll_len ht) hl
theorem w29 (N : Nat) {β : Type} (x0 : Bool → Option β) (x1 : Unit → Option β) (vs : List Val) (hv : okVs vs = true) (ds : List Int) (hl : ds.length = vs.length) (hs : vs.length ≤ 1000) (q : Int) (r s : Bool) : ∀ (n k : Nat), ds.length - k < n →
    W29_5 N x0 x1 n vs ds q r s (k : Int) = bif takesAll (ds.drop k) (vs.drop k) then x1 () else x0 false
  | 0, k, h => by omega
  | n + 1, k, h => by
    unfold W29_5
    by_cases hd : k < ds.length
    · have hv' := (okVs_iff.1 hv).2 _ (getD_mem (d := ((0 : Int), ((0 : Int), (ByteArray.empty, ())))) (show k < vs.length by omega))
      rw [cond_dec (by omega), cond_t (in_dec hd), cond_t (in_dec (by omega)), Int.toNat_natCast, drop_getD (d := 0) hd, drop_getD (l := vs) (d := ((0 : Int), ((0 : Int), (ByteArray.empty, ())))) (by omega), wi64 _ (by omega) (by omega),
        show ((k : Int) + 1) = ((k + 1 : Nat) : Int) by omega, w29 N x0 x1 vs hv ds hl hs q r s n (k + 1) (by omega)]
      try simp only [eta]
      generalize List.getD vs k ((0 : Int), ((0 : Int), (ByteArray.empty, ()))) = v at hv'
      have hok : ∀ d, okT d v = true := fun d => hv'
      simp only [hok, cond_true, takesAll]
      cases takes (ds.getD k 0) v <;> simp
    · rw [cond_dec' (by omega), List.drop_eq_nil_of_le (by omega), List.drop_eq_nil_of_le (by omega)]; rfl
def fuel29 (m o : Int) (l : List Val) : Nat := l.length + 1
theorem plain29 (m o : Int) (l : List Val) (h : okF m o l = true) : F29 (fuel29 m o l) m o l = some (fits m o l, ()) := by
  have h' : okL l = true := h
  simp only [okL, Bool.and_eq_true, decide_eq_true_eq] at h'
  unfold F29 fits sin signRef
  cases hf : sfind m o with
  | none => rfl
  | some r =>
    simp only [Bool.not_true, cond_false, Option.map_some]
    generalize r.2.2.1.data.toList.map dom8 = ds
    by_cases hl : ds.length = l.length
    · have e1 : (((l.length : Nat) : Int) != ((ds.length : Nat) : Int)) = false := by rw [hl]; exact bne_self_eq_false _
      have hw := fun x0 x1 => w29 (β := Bool × Unit) (fuel29 m o l) x0 x1 l h'.1 ds hl h'.2 r.2.2.2.1 r.2.2.2.2.1 true (l.length + 1) 0 (by omega)
      rw [show ((0 : Nat) : Int) = 0 from rfl, List.drop_zero, List.drop_zero] at hw
      rw [e1, cond_false]
      refine Eq.trans (hw _ _) ?_
      cases takesAll ds l <;> rfl
    · have e1 : (((l.length : Nat) : Int) != ((ds.length : Nat) : Int)) = true := bne_iff_ne.2 (by omega)
      rw [e1, cond_true]
      cases ht : takesAll ds l with
      | false => rfl
      | true => exact absurd (takesAll_len ht) hl

end Go.L14
