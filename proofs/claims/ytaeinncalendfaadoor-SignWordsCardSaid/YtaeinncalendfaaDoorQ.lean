/- Own text of this session: a part of the proof; no condition of its own. -/
import Derived.Test.YtaeinncalendfaaDoorP
set_option linter.unusedVariables false
set_option linter.unusedSimpArgs false
set_option maxRecDepth 100000
namespace Go.L09
open Go Go.Abs Go.Inc
theorem eta (v : Val) : (v.1, (v.2.1, (v.2.2.1, ()))) = v := rfl
theorem wsame13 (N : Nat) {β : Type} (x0 : Bool → Option β) (x1 : Unit → Option β) (a b : List Int) (hl : a.length = b.length) (hs : a.length ≤ 9223372036854775807) : ∀ (n k : Nat), a.length - k < n →
    W13_4 N x0 x1 n a b (k : Int) = bif (a.drop k == b.drop k) then x1 () else x0 false
  | 0, k, h => by omega
  | n + 1, k, h => by
    unfold W13_4
    by_cases hd : k < a.length
    · rw [cond_dec (by omega), cond_t (in_dec hd), cond_t (in_dec (by omega)), Int.toNat_natCast, drop_getD (d := 0) hd, drop_getD (l := b) (d := 0) (by omega), wi64 _ (by omega) (by omega), show ((k : Int) + 1) = ((k + 1 : Nat) : Int) by omega,
        wsame13 N x0 x1 a b hl hs n (k + 1) (by omega), List.cons_beq_cons]
      show (bif (!(a.getD k 0 == b.getD k 0)) then _ else _) = _
      cases (a.getD k 0 == b.getD k 0) <;> rfl
    · rw [cond_dec' (by omega), List.drop_eq_nil_of_le (by omega), List.drop_eq_nil_of_le (by omega)]; rfl
def fuel13 (a b : List Int) : Nat := a.length + 1
theorem plain13 (a b : List Int) (h : okSame a b = true) : F13 (fuel13 a b) a b = some (eqL a b, ()) := by
  simp only [okSame, Bool.and_eq_true, okIs_iff] at h
  have := maxLen_le
  unfold F13 eqL fuel13
  by_cases hl : a.length = b.length
  · have hw := fun x0 x1 => wsame13 (β := Bool × Unit) (a.length + 1) x0 x1 a b hl (by omega) (a.length + 1) 0 (by omega)
    rw [show ((0 : Nat) : Int) = 0 from rfl] at hw
    rw [hw, List.drop_zero, List.drop_zero, hl, bne_self_eq_false, cond_false]
    cases (a == b) <;> rfl
  · have e1 : (((a.length : Nat) : Int) != ((b.length : Nat) : Int)) = true := bne_iff_ne.2 (by omega)
    have e2 : (a == b) = false := beq_false_of_ne (fun e => hl (by rw [e]))
    rw [e1, e2]; rfl

def fuel36 (a b : Int) (c : ByteArray) (d : Int) (e : Bool) (m o : Int) : Nat := 0
theorem plain36 (a b : Int) (c : ByteArray) (d : Int) (e : Bool) (m o : Int) (_ : true = true) : F36 0 a b c d e m o = some (hitA a b c d e m o, ((m, ()), ((o, ()), ()))) := by
  unfold F36 hitA
  cases (a == m) <;> rfl

theorem widx (N : Nat) {β : Type} (x0 : Int → Int → Int → Option β) (x1 : Int → Int → Option β) (l : List Row) (m o : Int) (hs : l.length ≤ 1000) : ∀ (n k : Nat), l.length - k < n →
    W35_2 N x0 x1 n l (l.length : Int) (k : Int) m o = match (l.drop k).findIdx? (hit m o) with | some i => x0 ((k + i : Nat) : Int) m o | none => x1 m o
  | 0, k, h => by omega
  | n + 1, k, h => by
    unfold W35_2
    by_cases hd : k < l.length
    · rw [cond_dec (by omega), cond_t (in_dec hd), Int.toNat_natCast, drop_getD (d := ((0 : Int), ((0 : Int), (ByteArray.empty, ((0 : Int), (false, ())))))) hd, wi64 _ (by omega) (by omega), show ((k : Int) + 1) = ((k + 1 : Nat) : Int) by omega,
        widx N x0 x1 l m o hs n (k + 1) (by omega), List.findIdx?_cons]
      generalize List.getD l k ((0 : Int), ((0 : Int), (ByteArray.empty, ((0 : Int), (false, ()))))) = r
      have e : hitA r.1 r.2.1 r.2.2.1 r.2.2.2.1 r.2.2.2.2.1 m o = hit m o r := rfl
      rw [e]
      cases hit m o r with
      | true => rfl
      | false =>
        simp only [cond_false, Bool.false_eq_true, if_false]
        cases (l.drop (k + 1)).findIdx? (hit m o) with
        | none => rfl
        | some i =>
          show x0 ((k + 1 + i : Nat) : Int) m o = x0 ((k + (i + 1) : Nat) : Int) m o
          congr 2; omega
    · rw [cond_dec' (by omega), List.drop_eq_nil_of_le (by omega)]; rfl
def fuel35 (l : List Row) (m o : Int) : Nat := l.length + 1
theorem plain35 (l : List Row) (m o : Int) (h : okX l m o = true) : F35 (fuel35 l m o) l m o = some (idxR l m o, ((m, ()), ((o, ()), ()))) := by
  have hs : l.length ≤ 1000 := of_decide_eq_true h
  unfold F35 fuel35 idxR
  have hw := fun x0 x1 => widx (β := HS.den X35.hout) (l.length + 1) x0 x1 l m o hs (l.length + 1) 0 (by omega)
  rw [show ((0 : Nat) : Int) = 0 from rfl] at hw
  rw [hw, List.drop_zero]
  cases l.findIdx? (hit m o) with
  | none => rfl
  | some i => show some (((0 + i : Nat) : Int), _) = _; rw [Nat.zero_add]

theorem find_idx {α : Type} {p : α → Bool} (d : α) : ∀ {l : List α} {i : Nat}, l.findIdx? p = some i → i < l.length ∧ l.find? p = some (l.getD i d)
  | [], i, h => by simp at h
  | x :: l, i, h => by
    rw [List.findIdx?_cons] at h
    rw [List.find?_cons]
    cases hp : p x with
    | true =>
      rw [hp] at h; simp only [if_true, Option.some.injEq] at h; subst h
      exact ⟨by simp, rfl⟩
    | false =>
      rw [hp] at h; simp only [Bool.false_eq_true, if_false, Option.map_eq_some_iff] at h
      obtain ⟨j, hj, rfl⟩ := h
      obtain ⟨h1, h2⟩ := find_idx d hj
      exact ⟨by rw [List.length_cons]; omega, by rw [h2]; rfl⟩
theorem find_none {α : Type} {p : α → Bool} : ∀ {l : List α}, l.findIdx? p = none → l.find? p = none
  | [], _ => rfl
  | x :: l, h => by
    rw [List.findIdx?_cons] at h
    rw [List.find?_cons]
    cases hp : p x with
    | true => rw [hp] at h; simp at h
    | false =>
      rw [hp] at h; simp only [Bool.false_eq_true, if_false, Option.map_eq_none_iff] at h
      exact find_none h
theorem f29 (N : Nat) (m o : Int) : F29 N m o = bif decide (idxR tbl m o < 0) then some (((0 : Int), ((0 : Int), (ByteArray.empty, ((0 : Int), (false, ()))))), (false, ())) else
    bif (decide (0 ≤ idxR tbl m o) && decide (idxR tbl m o < ((tbl.length : Nat) : Int))) then some (tbl.getD (Int.toNat (idxR tbl m o)) ((0 : Int), ((0 : Int), (ByteArray.empty, ((0 : Int), (false, ()))))), (true, ())) else none := rfl
def fuel29 (m o : Int) : Nat := 0
theorem plain29 (m o : Int) (_ : true = true) : F29 0 m o = some (findGo m o, ()).1 := by
  rw [f29]
  unfold findGo sfind idxR
  cases h : tbl.findIdx? (hit m o) with
  | none => rw [find_none h]; rfl
  | some i =>
    obtain ⟨h1, h2⟩ := find_idx ((0 : Int), ((0 : Int), (ByteArray.empty, ((0 : Int), (false, ()))))) h
    rw [h2]
    simp only
    rw [cond_dec' (by omega), cond_t (in_dec h1), Int.toNat_natCast]

theorem tbl_in {m o : Int} {r : Row} (h : sfind m o = some r) : r ∈ tbl := List.mem_of_find?_eq_some h
theorem tbl_size : ∀ r ∈ tbl, r.2.2.1.size ≤ 2 := by
  have : (tbl.all fun r => decide (r.2.2.1.size ≤ 2)) = true := by decide +kernel
  simpa [List.all_eq_true] using this
theorem tbl_out : ∀ r ∈ tbl, r.2.2.2.1 = -1 ∨ r.2.2.2.1 = 2 ∨ r.2.2.2.1 = 4 ∨ r.2.2.2.1 = 5 ∨ r.2.2.2.1 = 6 ∨ r.2.2.2.1 = 99 := by
  have : (tbl.all fun r => decide (r.2.2.2.1 = -1 ∨ r.2.2.2.1 = 2 ∨ r.2.2.2.1 = 4 ∨ r.2.2.2.1 = 5 ∨ r.2.2.2.1 = 6 ∨ r.2.2.2.1 = 99)) = true := by decide +kernel
  simpa [List.all_eq_true] using this

theorem w11 (N : Nat) {β : Type} (x1 : List Int → Option β) (a b : Int) (s : ByteArray) (c : Int) (d : Bool) (hs : s.size ≤ 1000) : ∀ (n k : Nat) (acc : List Int), s.size - k < n → acc.length + s.size ≤ 1000 + k → k ≤ s.size →
    W11_6 N x1 n a b s c d acc (s.size : Int) (k : Int) = x1 (acc ++ (s.data.toList.drop k).map dom8)
  | 0, k, acc, h, _, _ => by omega
  | n + 1, k, acc, h, hb, hk => by
    have ih := w11 N x1 a b s c d hs n (k + 1)
    unfold W11_6
    rw [size_eq] at h hb hk ih hs ⊢
    by_cases hd : k < s.data.toList.length
    · rw [cond_dec (by omega), cond_t (in_dec hd), Int.toNat_natCast, cond_dec (by simp only [List.length_cons, List.length_nil]; omega), wi64 _ (by omega) (by omega), show ((k : Int) + 1) = ((k + 1 : Nat) : Int) by omega,
        ih _ (by omega) (by simp only [List.length_append, List.length_cons, List.length_nil]; omega) (by omega), drop_getD (d := 0) hd, List.map_cons, List.append_assoc]
      rfl
    · rw [cond_dec' (by omega), List.drop_eq_nil_of_le (by omega)]; simp
def fuel11 (m o : Int) : Nat := 10
theorem plain11 (m o : Int) (_ : true = true) : F11 (fuel11 m o) m o = some (argsGo m o) := by
  unfold F11 argsGo sin findGo
  cases h : sfind m o with
  | none => rfl
  | some r =>
    have hz := tbl_size r (tbl_in h)
    have hw := w11 (fuel11 m o) (fun t8 => some (t8, (true, ()))) r.1 r.2.1 r.2.2.1 r.2.2.2.1 r.2.2.2.2.1 (by omega) 10 0 [] (by omega) (by simp; omega) (by omega)
    rw [show ((0 : Nat) : Int) = 0 from rfl] at hw
    simp only [Bool.not_true, cond_false]
    exact hw

theorem tm2 (k : Nat) : (Int.tmod (k : Int) 2 == 1) = decide (k % 2 = 1) := by
  rw [Int.tmod_eq_emod_of_nonneg (by omega), Bool.eq_iff_iff]
  simp only [beq_iff_eq, decide_eq_true_eq]; omega
theorem w31 (N : Nat) {β : Type} (x0 : List Int → Bool → Option β) (x1 : List Int → Option β) (y : Option β) (hx : x0 [] false = y) (l : List Val) (hl : okVs l = true) (hs : l.length ≤ 1000) :
    ∀ (n k : Nat) (acc : List Int), l.length - k < n → acc.length = k → k ≤ l.length →
    W31_5 N x0 x1 n acc l (l.length : Int) (k : Int) = match pairs k (l.drop k) with | some r => x1 (acc ++ r) | none => y
  | 0, k, acc, h, _, _ => by omega
  | n + 1, k, acc, h, hb, hk => by
    have ih := w31 N x0 x1 y hx l hl hs n (k + 1)
    unfold W31_5
    by_cases hd : k < l.length
    · have hv := (okVs_iff.1 hl).2 _ (getD_mem (d := ((0 : Int), ((0 : Int), (ByteArray.empty, ())))) hd)
      rw [cond_dec (by omega), cond_t (in_dec hd), Int.toNat_natCast, drop_getD (d := ((0 : Int), ((0 : Int), (ByteArray.empty, ())))) hd, tm2]
      simp only [eta, hx]
      generalize List.getD l k ((0 : Int), ((0 : Int), (ByteArray.empty, ()))) = v at hv
      have hok : ∀ d, okT d v = true := fun d => hv
      have hk1 : IntKind.wrap .i64 ((k : Int) + 1) = ((k + 1 : Nat) : Int) := by rw [wi64 _ (by omega) (by omega)]; omega
      have hlen : decide ((acc.length + (List.length ((4 : Int) :: ([] : List Int)))) * 8 ≤ 140737488351232) = true := decide_eq_true (by simp; omega)
      have hlen2 : decide ((acc.length + (List.length ((2 : Int) :: ([] : List Int)))) * 8 ≤ 140737488351232) = true := decide_eq_true (by simp; omega)
      simp only [hok, cond_true, hlen, hlen2, hk1, pairs, dpair]
      by_cases hp : k % 2 = 1
      · rw [cond_dec hp, if_pos hp]
        cases takes 2 v with
        | false => rfl
        | true =>
          simp only [Bool.not_true, cond_false, cond_true]
          rw [ih _ (by omega) (by simp; omega) (by omega)]
          cases pairs (k + 1) (l.drop (k + 1)) with
          | none => rfl
          | some r => simp
      · rw [cond_dec' hp, if_neg hp]
        cases takes 4 v with
        | false => rfl
        | true =>
          simp only [Bool.not_true, cond_false, cond_true]
          rw [ih _ (by omega) (by simp; omega) (by omega)]
          cases pairs (k + 1) (l.drop (k + 1)) with
          | none => rfl
          | some r => simp
    · rw [cond_dec' (by omega), List.drop_eq_nil_of_le (by omega)]; simp [pairs]
def fuel31 (l : List Val) : Nat := l.length + 1
theorem plain31 (l : List Val) (h : okL l = true) : F31 (fuel31 l) l = some (pairedGo l) := by
  simp only [okL, Bool.and_eq_true, decide_eq_true_eq] at h
  unfold F31 pairedGo
  have e : ((Int.tmod (((List.length l) : Nat) : Int) (2 : Int)) != (0 : Int)) = !decide (l.length % 2 = 0) := by
    rw [Int.tmod_eq_emod_of_nonneg (by omega)]
    show (!(_ == _)) = _
    congr 1
    rw [Bool.eq_iff_iff]; simp only [beq_iff_eq, decide_eq_true_eq]; omega
  rw [e]
  cases decide (l.length % 2 = 0) with
  | false => rfl
  | true =>
    have hw := w31 (fuel31 l) (fun t2 t3 => some (t2, (t3, ()))) (fun t4 => some (t4, (true, ()))) _ rfl l h.1 h.2 (l.length + 1) 0 [] (by omega) rfl (by omega)
    rw [show ((0 : Nat) : Int) = 0 from rfl, List.drop_zero] at hw
    simp only [Bool.not_true, cond_false, cond_true]
    refine Eq.trans hw ?_
    cases pairs 0 l <;> rfl

theorem vnone (v : Val) : ((v.1 == (0 : Int)) && ((v.2.1 == (0 : Int)) && ((v.2.2.1 == ByteArray.empty) && true))) = (v == none') := by
  obtain ⟨k, n, s, ⟨⟩⟩ := v
  rfl
def fuel14 (m o : Int) (l : List Val) : Nat := 0
theorem plain14 (m o : Int) (l : List Val) (h : okF m o l = true) : F14 0 m o l = some (outsGo m o l) := by
  have h' : okL l = true := h
  have h2 := h'
  simp only [okL, Bool.and_eq_true, decide_eq_true_eq] at h2
  unfold F14 outsGo signOuts findGo
  cases hf : sfind m o with
  | none => rfl
  | some r =>
    simp only [Bool.not_true, cond_false, h', cond_true]
    cases decide (r.2.2.2.1 < 0) with
    | true =>
      simp only [cond_true]
      cases l with
      | nil => rfl
      | cons a l => simp; omega
    | false =>
      simp only [cond_false]
      cases (r.2.2.2.1 == 99) with
      | true =>
        simp only [cond_true]
        unfold pairedGo
        cases decide (l.length % 2 = 0) with
        | false => rfl
        | true => cases pairs 0 l <;> rfl
      | false =>
        simp only [cond_false]
        match l, h2 with
        | [], _ => rfl
        | [v], h2 =>
          have hv : ∀ d, okT d v = true := fun d => (okVs_iff.1 h2.1).2 v (by simp)
          have e1 : (((List.length [v] : Nat) : Int) != 1) = false := rfl
          have e2 : (decide ((0 : Int) ≤ 0) && decide ((0 : Int) < ((List.length [v] : Nat) : Int))) = true := rfl
          rw [e1, e2]
          simp only [cond_false, cond_true, Int.toNat_zero, List.getD_cons_zero, eta, hv, vnone]
          cases takes r.2.2.2.1 v <;> cases r.2.2.2.2.1 <;> cases (v == none') <;> rfl
        | v :: w :: l, _ =>
          have e1 : (((List.length (v :: w :: l) : Nat) : Int) != 1) = true := bne_iff_ne.2 (by simp only [List.length_cons]; omega)
          rw [e1]; rfl

theorem d42 (k : Nat) : IntKind.wrap .i64 ((4 : Int) - IntKind.wrap .i64 (Int.tmod (k : Int) 2 * 2)) = dpair k := by
  rw [Int.tmod_eq_emod_of_nonneg (by omega), wi64 ((k : Int) % 2 * 2) (by omega) (by omega), wi64 _ (by omega) (by omega)]
  unfold dpair
  split <;> omega
theorem pairs_len : ∀ {l : List Val} {k : Nat} {r : List Int}, pairs k l = some r → r.length = l.length
  | [], k, r, h => by cases h; rfl
  | v :: l, k, r, h => by
    simp only [pairs] at h
    cases ht : takes (dpair k) v with
    | false => rw [ht] at h; cases h
    | true =>
      rw [ht, cond_true, Option.map_eq_some_iff] at h
      obtain ⟨t, h1, rfl⟩ := h
      simp [pairs_len h1]
theorem takesAll_len : ∀ {ds : List Int} {vs : List Val}, takesAll ds vs = true → ds.length = vs.length
  | [], [], _ => rfl
  | d :: ds, v :: vs, h => by
    simp only [takesAll, Bool.and_eq_true] at h
    simp [takesAll_len h.2]
  | [], _ :: _, h => by cases h
  | _ :: _, [], h => by cases h

end Go.L09
