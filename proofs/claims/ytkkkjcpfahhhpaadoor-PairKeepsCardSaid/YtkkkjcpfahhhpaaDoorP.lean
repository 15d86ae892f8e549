/- Own text of this session: a part of the proof; no condition of its own. -/
import Derived.Test.YtkkkjcpfahhhpaaDoorWalk
set_option linter.unusedVariables false
set_option linter.unusedSimpArgs false
set_option maxRecDepth 100000
namespace Go.K12
open Go Go.Abs Go.Inc
theorem kinds (k : Int) : k = 0 ∨ k = 1 ∨ k = 2 ∨ k = 3 ∨ (k ≠ 0 ∧ k ≠ 1 ∧ k ≠ 2 ∧ k ≠ 3) := by omega
theorem doms (k : Int) : k = 0 ∨ k = 1 ∨ k = 2 ∨ k = 3 ∨ k = 4 ∨ k = 5 ∨ k = 6 ∨ (k < 0 ∨ 6 < k) := by omega

/-! Words -/
/-- Letters from a place on. -/
def okFrom : Nat → List UInt8 → Bool
  | _, [] => true
  | 0, c :: l => lower c && okFrom 1 l
  | i + 1, c :: l => wordc c && okFrom (i + 1 + 1) l
theorem okFrom_all : ∀ (l : List UInt8) (i : Nat), okFrom (i + 1) l = l.all wordc
  | [], i => rfl
  | c :: l, i => by simp only [okFrom, List.all_cons, okFrom_all l]
theorem letter_u8 (c : UInt8) (b : Bool) : letterGo ((c.toNat : Nat) : Int) b = bif b then lower c else wordc c := by
  unfold letterGo wordc lower
  have e1 : decide ((97 : Int) ≤ ((c.toNat : Nat) : Int) ∧ ((c.toNat : Nat) : Int) ≤ 122) = decide (97 ≤ c.toNat ∧ c.toNat ≤ 122) := decide_eq_decide.2 (by omega)
  have e2 : decide ((48 : Int) ≤ ((c.toNat : Nat) : Int) ∧ ((c.toNat : Nat) : Int) ≤ 57) = decide (48 ≤ c.toNat ∧ c.toNat ≤ 57) := decide_eq_decide.2 (by omega)
  have e3 : decide (((c.toNat : Nat) : Int) = 95) = decide (c.toNat = 95) := decide_eq_decide.2 (by omega)
  rw [e1, e2, e3]
  cases b
  · simp only [Bool.not_false, Bool.true_and, cond_false]
    rw [Bool.or_comm (decide (c.toNat = 95))]
  · simp
theorem u8_wf (c : UInt8) : wfD (.int .u8) ((c.toNat : Nat) : Int) = true := by
  have := c.toNat_lt
  exact wf_u8.2 ⟨by omega, by omega⟩
theorem ok8_u8 (c : UInt8) (b : Bool) : ok8 ((c.toNat : Nat) : Int) b = true := u8_wf c
theorem lower_wordc {c : UInt8} (h : lower c = true) : wordc c = true := by simp [wordc, h]

theorem isWordL_eq (l : List UInt8) : isWordL l = (okFrom 0 l && decide (1 ≤ l.length ∧ l.length ≤ 40)) := by
  cases l with
  | nil => simp [isWordL, okFrom]
  | cons c l =>
    simp only [isWordL, okFrom, okFrom_all, List.length_cons]
    rw [Bool.and_comm]
    congr 1
    exact decide_eq_decide.2 (by omega)
theorem w52 (N : Nat) {β : Type} (x0 : Bool → Option β) (x1 : Unit → Option β) (s : ByteArray) (hs : s.size ≤ 9223372036854775807) : ∀ (n k : Nat), s.size - k < n →
    W52_4 N x0 x1 n s (s.size : Int) (k : Int) = bif (s.data.toList.drop k).all wordc then x1 () else x0 false
  | 0, k, h => by omega
  | n + 1, k, h => by
    have ih := w52 N x0 x1 s hs n (k + 1)
    unfold W52_4
    rw [size_eq] at h hs ih ⊢
    by_cases hd : k < s.data.toList.length
    · rw [cond_dec (by omega), cond_t (in_dec hd), Int.toNat_natCast, drop_getD (d := 0) hd, wi64 _ (by omega) (by omega), show ((k : Int) + 1) = ((k + 1 : Nat) : Int) by omega, ih (by omega), List.all_cons]
      generalize s.data.toList.getD k 0 = c
      have e : wordc c = (decide (((c.toNat : Nat) : Int) ≥ 97) && decide (((c.toNat : Nat) : Int) ≤ 122) || (decide (((c.toNat : Nat) : Int) ≥ 48) && decide (((c.toNat : Nat) : Int) ≤ 57) || ((c.toNat : Nat) : Int) == 95)) := by
        unfold wordc lower
        rw [Bool.eq_iff_iff]
        simp only [Bool.or_eq_true, Bool.and_eq_true, decide_eq_true_eq, beq_iff_eq]
        omega
      rw [e]
      generalize (List.drop (k + 1) s.data.toList).all wordc = r
      cases decide (((c.toNat : Nat) : Int) ≥ 97) <;> cases decide (((c.toNat : Nat) : Int) ≤ 122) <;> cases decide (((c.toNat : Nat) : Int) ≥ 48) <;> cases decide (((c.toNat : Nat) : Int) ≤ 57) <;> cases (((c.toNat : Nat) : Int) == 95) <;> rfl
    · rw [cond_dec' (by omega), List.drop_eq_nil_of_le (by omega)]; rfl
def fuel52 (s : ByteArray) : Nat := s.size + 1
theorem plain52 (s : ByteArray) (h : okS s = true) : F52 (fuel52 s) s = some (isWord s, ()) := by
  have hs := okS_iff.1 h
  have := maxLen_le
  unfold F52 isWord
  have hw := fun x0 x1 => w52 (β := Bool × Unit) (fuel52 s) x0 x1 s (by omega) (s.size + 1) 0 (by omega)
  rw [show ((0 : Nat) : Int) = 0 from rfl] at hw
  unfold fuel52 at hw ⊢
  rw [hw, eqs_nil, List.drop_zero, isWordL_eq]
  cases hl : s.data.toList with
  | nil =>
    have : emp s = true := by unfold emp; rw [size_eq, hl]; rfl
    rw [this]; rfl
  | cons c l =>
    have hz : s.size = l.length + 1 := by rw [size_eq, hl]; rfl
    have : emp s = false := by unfold emp; simp [hz]
    rw [this, cond_false]
    by_cases h40 : ((s.size : Nat) : Int) > 40
    · rw [cond_dec h40]
      congr 2
      rw [List.length_cons, Bool.and_comm]
      have : decide (1 ≤ l.length + 1 ∧ l.length + 1 ≤ 40) = false := decide_eq_false (by omega)
      rw [this]; rfl
    · have hin : (decide ((0 : Int) ≤ 0) && decide ((0 : Int) < ((s.size : Nat) : Int))) = true := by simp; omega
      rw [cond_dec' h40, cond_t hin, cond_t hin]
      have e : okFrom 0 (c :: l) = (lower c && l.all wordc) := by simp only [okFrom, okFrom_all]
      have e2 : decide (1 ≤ (c :: l).length ∧ (c :: l).length ≤ 40) = true := decide_eq_true (by rw [List.length_cons]; omega)
      rw [e, e2, Bool.and_true]
      simp only [Int.toNat_zero, List.getD_cons_zero, List.all_cons]
      by_cases q1 : ((c.toNat : Nat) : Int) < 97
      · rw [cond_dec q1]
        have : lower c = false := decide_eq_false (by omega)
        rw [this]; rfl
      · rw [cond_dec' q1]
        by_cases q2 : ((c.toNat : Nat) : Int) > 122
        · rw [cond_dec q2]
          have : lower c = false := decide_eq_false (by omega)
          rw [this]; rfl
        · rw [cond_dec' q2]
          have : lower c = true := decide_eq_true (by omega)
          rw [this, lower_wordc this]
          cases l.all wordc <;> rfl

/-! Values -/
def fuel44 (v : Val) : Nat := 0
theorem plain44 (v : Val) (h : okV v = true) : F44 0 v = some (right v, ()) := by
  obtain ⟨h1, h2, h3⟩ := okV_iff.1 h
  obtain ⟨k, n, s, ⟨⟩⟩ := v
  simp only at h1 h2 h3
  unfold F44 right
  simp only [eqs_nil, eq_empty, h3, cond_true, Bool.and_true]
  rcases kinds k with rfl | rfl | rfl | rfl | ⟨a, b, c, d⟩
  · simp
  · simp
  · cases h : (n == 0) <;> simp
  · cases h : (n == 1) <;> cases h' : (n == 0) <;> cases emp s <;> simp
  · rw [beq_false_of_ne a, beq_false_of_ne b, beq_false_of_ne c, beq_false_of_ne d]; rfl
def fuel40 (d : Int) (v : Val) : Nat := 0
theorem plain40 (d : Int) (v : Val) (h : okT d v = true) : F40 0 d v = some (takes d v, ()) := by
  have h' : okV v = true := h
  obtain ⟨k, n, s, ⟨⟩⟩ := v
  unfold F40 takes named
  simp only [h', cond_true]
  cases right (k, n, s, ())
  · simp
  · rcases doms d with rfl | rfl | rfl | rfl | rfl | rfl | rfl | a
    all_goals first
      | (simp; done)
      | (cases (k == 1) <;> simp; done)
      | skip
    have q : ∀ j : Int, 0 ≤ j → j ≤ 6 → (d == j) = false := fun j _ _ => by simp; omega
    simp [q]; omega
/-! Signs -/
def fuel51 (c : Int) : Nat := 0
theorem plain51 (c : Int) (_ : true = true) : F51 0 c = some (domain c, ()) := by
  unfold F51 domain
  cases (c == 118) <;> cases (c == 102) <;> cases (c == 111) <;> rfl

theorem eta (v : Val) : (v.1, (v.2.1, (v.2.2.1, ()))) = v := rfl
def fuel54 (a b : Int) (c : ByteArray) (d : Int) (e : Bool) (m o : Int) : Nat := 0
theorem plain54 (a b : Int) (c : ByteArray) (d : Int) (e : Bool) (m o : Int) (_ : true = true) : F54 0 a b c d e m o = some (hitA a b c d e m o, ((m, ()), ((o, ()), ()))) := by
  unfold F54 hitA
  cases (a == m) <;> rfl

theorem widx (N : Nat) {β : Type} (x0 : Int → Int → Int → Option β) (x1 : Int → Int → Option β) (l : List Row) (m o : Int) (hs : l.length ≤ 1000) : ∀ (n k : Nat), l.length - k < n →
    W53_2 N x0 x1 n l (l.length : Int) (k : Int) m o = match (l.drop k).findIdx? (hit m o) with | some i => x0 ((k + i : Nat) : Int) m o | none => x1 m o
  | 0, k, h => by omega
  | n + 1, k, h => by
    unfold W53_2
    by_cases hd : k < l.length
    · rw [cond_dec (by omega), cond_t (in_dec hd), Int.toNat_natCast, drop_getD (d := ((0 : Int), ((0 : Int), (ByteArray.empty, ((0 : Int), (false, ())))))) hd, wi64 _ (by omega) (by omega), show ((k : Int) + 1) = ((k + 1 : Nat) : Int) by omega,
        widx N x0 x1 l m o hs n (k + 1) (by omega), List.findIdx?_cons]
      generalize List.getD l k ((0 : Int), ((0 : Int), (ByteArray.empty, ((0 : Int), (false, ()))))) = r
      have e : hitA r.1 r.2.1 r.2.2.1 r.2.2.2.1 r.2.2.2.2.1 m o = hit m o r := rfl
      rw [e]
      cases hit m o r with
      | true => rfl
      | false =>
        simp only [cond_false, Bool.false_eq_true, if_false]
        cases (l.drop (k + 1)).findIdx? (hit m o) with
        | none => rfl
        | some i =>
          show x0 ((k + 1 + i : Nat) : Int) m o = x0 ((k + (i + 1) : Nat) : Int) m o
          congr 2; omega
    · rw [cond_dec' (by omega), List.drop_eq_nil_of_le (by omega)]; rfl
def fuel53 (l : List Row) (m o : Int) : Nat := l.length + 1
theorem plain53 (l : List Row) (m o : Int) (h : okX l m o = true) : F53 (fuel53 l m o) l m o = some (idxR l m o, ((m, ()), ((o, ()), ()))) := by
  have hs : l.length ≤ 1000 := of_decide_eq_true h
  unfold F53 fuel53 idxR
  have hw := fun x0 x1 => widx (β := HS.den X53.hout) (l.length + 1) x0 x1 l m o hs (l.length + 1) 0 (by omega)
  rw [show ((0 : Nat) : Int) = 0 from rfl] at hw
  rw [hw, List.drop_zero]
  cases l.findIdx? (hit m o) with
  | none => rfl
  | some i => show some (((0 + i : Nat) : Int), _) = _; rw [Nat.zero_add]

theorem find_idx {α : Type} {p : α → Bool} (d : α) : ∀ {l : List α} {i : Nat}, l.findIdx? p = some i → i < l.length ∧ l.find? p = some (l.getD i d)
  | [], i, h => by simp at h
  | x :: l, i, h => by
    rw [List.findIdx?_cons] at h
    rw [List.find?_cons]
    cases hp : p x with
    | true =>
      rw [hp] at h; simp only [if_true, Option.some.injEq] at h; subst h
      exact ⟨by simp, rfl⟩
    | false =>
      rw [hp] at h; simp only [Bool.false_eq_true, if_false, Option.map_eq_some_iff] at h
      obtain ⟨j, hj, rfl⟩ := h
      obtain ⟨h1, h2⟩ := find_idx d hj
      exact ⟨by rw [List.length_cons]; omega, by rw [h2]; rfl⟩
theorem find_none {α : Type} {p : α → Bool} : ∀ {l : List α}, l.findIdx? p = none → l.find? p = none
  | [], _ => rfl
  | x :: l, h => by
    rw [List.findIdx?_cons] at h
    rw [List.find?_cons]
    cases hp : p x with
    | true => rw [hp] at h; simp at h
    | false =>
      rw [hp] at h; simp only [Bool.false_eq_true, if_false, Option.map_eq_none_iff] at h
      exact find_none h
theorem f45 (N : Nat) (m o : Int) : F45 N m o = bif decide (idxR tbl m o < 0) then some (((0 : Int), ((0 : Int), (ByteArray.empty, ((0 : Int), (false, ()))))), (false, ())) else
    bif (decide (0 ≤ idxR tbl m o) && decide (idxR tbl m o < ((tbl.length : Nat) : Int))) then some (tbl.getD (Int.toNat (idxR tbl m o)) ((0 : Int), ((0 : Int), (ByteArray.empty, ((0 : Int), (false, ()))))), (true, ())) else none := rfl
def fuel45 (m o : Int) : Nat := 0
theorem plain45 (m o : Int) (_ : true = true) : F45 0 m o = some (findGo m o, ()).1 := by
  rw [f45]
  unfold findGo sfind idxR
  cases h : tbl.findIdx? (hit m o) with
  | none => rw [find_none h]; rfl
  | some i =>
    obtain ⟨h1, h2⟩ := find_idx ((0 : Int), ((0 : Int), (ByteArray.empty, ((0 : Int), (false, ()))))) h
    rw [h2]
    simp only
    rw [cond_dec' (by omega), cond_t (in_dec h1), Int.toNat_natCast]

theorem tbl_in {m o : Int} {r : Row} (h : sfind m o = some r) : r ∈ tbl := List.mem_of_find?_eq_some h
theorem tbl_size : ∀ r ∈ tbl, r.2.2.1.size ≤ 2 := by
  have : (tbl.all fun r => decide (r.2.2.1.size ≤ 2)) = true := by decide +kernel
  simpa [List.all_eq_true] using this
theorem tbl_out : ∀ r ∈ tbl, r.2.2.2.1 = -1 ∨ r.2.2.2.1 = 2 ∨ r.2.2.2.1 = 4 ∨ r.2.2.2.1 = 5 ∨ r.2.2.2.1 = 6 ∨ r.2.2.2.1 = 99 := by
  have : (tbl.all fun r => decide (r.2.2.2.1 = -1 ∨ r.2.2.2.1 = 2 ∨ r.2.2.2.1 = 4 ∨ r.2.2.2.1 = 5 ∨ r.2.2.2.1 = 6 ∨ r.2.2.2.1 = 99)) = true := by decide +kernel
  simpa [List.all_eq_true] using this

theorem w42 (N : Nat) {β : Type} (x1 : List Int → Option β) (a b : Int) (s : ByteArray) (c : Int) (d : Bool) (hs : s.size ≤ 1000) : ∀ (n k : Nat) (acc : List Int), s.size - k < n → acc.length + s.size ≤ 1000 + k → k ≤ s.size →
    W42_6 N x1 n a b s c d acc (s.size : Int) (k : Int) = x1 (acc ++ (s.data.toList.drop k).map dom8)
  | 0, k, acc, h, _, _ => by omega
  | n + 1, k, acc, h, hb, hk => by
    have ih := w42 N x1 a b s c d hs n (k + 1)
    unfold W42_6
    rw [size_eq] at h hb hk ih hs ⊢
    by_cases hd : k < s.data.toList.length
    · rw [cond_dec (by omega), cond_t (in_dec hd), Int.toNat_natCast, cond_dec (by simp only [List.length_cons, List.length_nil]; omega), wi64 _ (by omega) (by omega), show ((k : Int) + 1) = ((k + 1 : Nat) : Int) by omega,
        ih _ (by omega) (by simp only [List.length_append, List.length_cons, List.length_nil]; omega) (by omega), drop_getD (d := 0) hd, List.map_cons, List.append_assoc]
      rfl
    · rw [cond_dec' (by omega), List.drop_eq_nil_of_le (by omega)]; simp
def fuel42 (m o : Int) : Nat := 10
theorem plain42 (m o : Int) (_ : true = true) : F42 (fuel42 m o) m o = some (argsGo m o) := by
  unfold F42 argsGo sin findGo
  cases h : sfind m o with
  | none => rfl
  | some r =>
    have hz := tbl_size r (tbl_in h)
    have hw := w42 (fuel42 m o) (fun t8 => some (t8, (true, ()))) r.1 r.2.1 r.2.2.1 r.2.2.2.1 r.2.2.2.2.1 (by omega) 10 0 [] (by omega) (by simp; omega) (by omega)
    rw [show ((0 : Nat) : Int) = 0 from rfl] at hw
    simp only [Bool.not_true, cond_false]
    exact hw

theorem tm2 (k : Nat) : (Int.tmod (k : Int) 2 == 1) = decide (k % 2 = 1) := by
  rw [Int.tmod_eq_emod_of_nonneg (by omega), Bool.eq_iff_iff]
  simp only [beq_iff_eq, decide_eq_true_eq]; omega
theorem w46 (N : Nat) {β : Type} (x0 : List Int → Bool → Option β) (x1 : List Int → Option β) (y : Option β) (hx : x0 [] false = y) (l : List Val) (hl : okVs l = true) (hs : l.length ≤ 2000) :
    ∀ (n k : Nat) (acc : List Int), l.length - k < n → acc.length = k → k ≤ l.length →
    W46_5 N x0 x1 n acc l (l.length : Int) (k : Int) = match pairs k (l.drop k) with | some r => x1 (acc ++ r) | none => y
  | 0, k, acc, h, _, _ => by omega
  | n + 1, k, acc, h, hb, hk => by
    have ih := w46 N x0 x1 y hx l hl hs n (k + 1)
    unfold W46_5
    by_cases hd : k < l.length
    · have hv := (okVs_iff.1 hl).2 _ (getD_mem (d := ((0 : Int), ((0 : Int), (ByteArray.empty, ())))) hd)
      rw [cond_dec (by omega), cond_t (in_dec hd), Int.toNat_natCast, drop_getD (d := ((0 : Int), ((0 : Int), (ByteArray.empty, ())))) hd, tm2]
      simp only [eta, hx]
      generalize List.getD l k ((0 : Int), ((0 : Int), (ByteArray.empty, ()))) = v at hv
      have hok : ∀ d, okT d v = true := fun d => hv
      have hk1 : IntKind.wrap .i64 ((k : Int) + 1) = ((k + 1 : Nat) : Int) := by rw [wi64 _ (by omega) (by omega)]; omega
      have hlen : decide ((acc.length + (List.length ((4 : Int) :: ([] : List Int)))) * 8 ≤ 140737488351232) = true := decide_eq_true (by simp; omega)
      have hlen2 : decide ((acc.length + (List.length ((2 : Int) :: ([] : List Int)))) * 8 ≤ 140737488351232) = true := decide_eq_true (by simp; omega)
      simp only [hok, cond_true, hlen, hlen2, hk1, pairs, dpair]
      by_cases hp : k % 2 = 1
      · rw [cond_dec hp, if_pos hp]
        cases takes 2 v with
        | false => rfl
        | true =>
          simp only [Bool.not_true, cond_false, cond_true]
          rw [ih _ (by omega) (by simp; omega) (by omega)]
          cases pairs (k + 1) (l.drop (k + 1)) with
          | none => rfl
          | some r => simp
      · rw [cond_dec' hp, if_neg hp]
        cases takes 4 v with
        | false => rfl
        | true =>
          simp only [Bool.not_true, cond_false, cond_true]
          rw [ih _ (by omega) (by simp; omega) (by omega)]
          cases pairs (k + 1) (l.drop (k + 1)) with
          | none => rfl
          | some r => simp
    · rw [cond_dec' (by omega), List.drop_eq_nil_of_le (by omega)]; simp [pairs]
def fuel46 (l : List Val) : Nat := l.length + 1
theorem plain46 (l : List Val) (h : okL2 l = true) : F46 (fuel46 l) l = some (pairedGo l) := by
  simp only [okL2, Bool.and_eq_true, decide_eq_true_eq] at h
  unfold F46 pairedGo
  have e : ((Int.tmod (((List.length l) : Nat) : Int) (2 : Int)) != (0 : Int)) = !decide (l.length % 2 = 0) := by
    rw [Int.tmod_eq_emod_of_nonneg (by omega)]
    show (!(_ == _)) = _
    congr 1
    rw [Bool.eq_iff_iff]; simp only [beq_iff_eq, decide_eq_true_eq]; omega
  rw [e]
  cases decide (l.length % 2 = 0) with
  | false => rfl
  | true =>
    have hw := w46 (fuel46 l) (fun t2 t3 => some (t2, (t3, ()))) (fun t4 => some (t4, (true, ()))) _ rfl l h.1 h.2 (l.length + 1) 0 [] (by omega) rfl (by omega)
    rw [show ((0 : Nat) : Int) = 0 from rfl, List.drop_zero] at hw
    simp only [Bool.not_true, cond_false, cond_true]
    refine Eq.trans hw ?_
    cases pairs 0 l <;> rfl

theorem vnone (v : Val) : ((v.1 == (0 : Int)) && ((v.2.1 == (0 : Int)) && ((v.2.2.1 == ByteArray.empty) && true))) = (v == none') := by
  obtain ⟨k, n, s, ⟨⟩⟩ := v
  rfl
def fuel34 (m o : Int) (l : List Val) : Nat := 0
theorem plain34 (m o : Int) (l : List Val) (h : okF2 m o l = true) : F34 0 m o l = some (outsGo m o l) := by
  have h' : okL2 l = true := h
  have h2 := h'
  simp only [okL2, Bool.and_eq_true, decide_eq_true_eq] at h2
  unfold F34 outsGo signOuts findGo
  cases hf : sfind m o with
  | none => rfl
  | some r =>
    simp only [Bool.not_true, cond_false, h', cond_true]
    cases decide (r.2.2.2.1 < 0) with
    | true =>
      simp only [cond_true]
      cases l with
      | nil => rfl
      | cons a l => simp; omega
    | false =>
      simp only [cond_false]
      cases (r.2.2.2.1 == 99) with
      | true =>
        simp only [cond_true]
        unfold pairedGo
        cases decide (l.length % 2 = 0) with
        | false => rfl
        | true => cases pairs 0 l <;> rfl
      | false =>
        simp only [cond_false]
        match l, h2 with
        | [], _ => rfl
        | [v], h2 =>
          have hv : ∀ d, okT d v = true := fun d => (okVs_iff.1 h2.1).2 v (by simp)
          have e1 : (((List.length [v] : Nat) : Int) != 1) = false := rfl
          have e2 : (decide ((0 : Int) ≤ 0) && decide ((0 : Int) < ((List.length [v] : Nat) : Int))) = true := rfl
          rw [e1, e2]
          simp only [cond_false, cond_true, Int.toNat_zero, List.getD_cons_zero, eta, hv, vnone]
          cases takes r.2.2.2.1 v <;> cases r.2.2.2.2.1 <;> cases (v == none') <;> rfl
        | v :: w :: l, _ =>
          have e1 : (((List.length (v :: w :: l) : Nat) : Int) != 1) = true := bne_iff_ne.2 (by simp only [List.length_cons]; omega)
          rw [e1]; rfl

theorem d42 (k : Nat) : IntKind.wrap .i64 ((4 : Int) - IntKind.wrap .i64 (Int.tmod (k : Int) 2 * 2)) = dpair k := by
  rw [Int.tmod_eq_emod_of_nonneg (by omega), wi64 ((k : Int) % 2 * 2) (by omega) (by omega), wi64 _ (by omega) (by omega)]
  unfold dpair
  split <;> omega
theorem pairs_len : ∀ {l : List Val} {k : Nat} {r : List Int}, pairs k l = some r → r.length = l.length
  | [], k, r, h => by cases h; rfl
  | v :: l, k, r, h => by
    simp only [pairs] at h
    cases ht : takes (dpair k) v with
    | false => rw [ht] at h; cases h
    | true =>
      rw [ht, cond_true, Option.map_eq_some_iff] at h
      obtain ⟨t, h1, rfl⟩ := h
      simp [pairs_len h1]
theorem takesAll_len : ∀ {ds : List Int} {vs : List Val}, takesAll ds vs = true → ds.length = vs.length
  | [], [], _ => rfl
  | d :: ds, v :: vs, h => by
    simp only [takesAll, Bool.and_eq_true] at h
    simp [takesAll_len h.2]
  | [], _ :: _, h => by cases h
  | _ :: _, [], h => by cases h

/-! The document's table -/
def q' (m o : Int) (l : List UInt8) : Bool := (modelName m).data.toList ++ [32] ++ (opName o).data.toList == l
theorem modelName_out {m : Int} (h : m < 1 ∨ 10 < m) : modelName m = strL [] := by
  unfold modelName
  split <;> first | rfl | omega
theorem opName_out {o : Int} (h : o < 1 ∨ 13 < o) : opName o = strL [] := by
  unfold opName
  split <;> first | rfl | omega
theorem ref_none {m o : Int} (h : (m < 1 ∨ 10 < m) ∨ (o < 1 ∨ 13 < o)) : sfind m o = none := by
  unfold sfind
  rw [List.find?_eq_none]
  intro r hr
  have hb : ∀ r ∈ tbl, 1 ≤ r.1 ∧ r.1 ≤ 10 ∧ 1 ≤ r.2.1 ∧ r.2.1 ≤ 13 := by
    have : (tbl.all fun r => decide (1 ≤ r.1 ∧ r.1 ≤ 10 ∧ 1 ≤ r.2.1 ∧ r.2.1 ≤ 13)) = true := by decide +kernel
    simpa [List.all_eq_true] using this
  have := hb r hr
  unfold hit
  simp only [Bool.and_eq_true, beq_iff_eq]
  omega

theorem dom8_ok (c : UInt8) : okI (dom8 c) = true := by
  rw [okI_iff]; unfold dom8 domain
  cases ((c.toNat : Int) == 118) <;> cases ((c.toNat : Int) == 102) <;> cases ((c.toNat : Int) == 111) <;> simp
theorem okIs_short {l : List Int} (h : l.length ≤ 1000) (h2 : ∀ v ∈ l, okI v = true) : okIs l = true := by
  rw [okIs_iff]
  have : (1000 : Nat) ≤ maxLen := by decide
  exact ⟨by omega, h2⟩
theorem signRef_ok (m o : Int) : okIs (signRef m o).1 = true := by
  unfold signRef
  cases h : sfind m o with
  | none => rfl
  | some r =>
    have hz := tbl_size r (tbl_in h)
    rw [size_eq] at hz
    refine okIs_short (by simp only [List.length_map]; omega) (fun v hv => ?_)
    obtain ⟨c, _, rfl⟩ := List.mem_map.1 hv
    exact dom8_ok c
theorem pairs_ok : ∀ {l : List Val} {k : Nat} {r : List Int}, pairs k l = some r → ∀ v ∈ r, okI v = true
  | [], k, r, h, v, hv => by cases h; cases hv
  | x :: l, k, r, h, v, hv => by
    simp only [pairs] at h
    cases ht : takes (dpair k) x with
    | false => rw [ht] at h; cases h
    | true =>
      rw [ht, cond_true, Option.map_eq_some_iff] at h
      obtain ⟨t, h1, rfl⟩ := h
      rcases List.mem_cons.1 hv with rfl | hv
      · unfold dpair; split <;> rfl
      · exact pairs_ok h1 v hv
theorem signOuts_ok (m o : Int) (l : List Val) (hl : l.length ≤ 1000) : okIs (signOuts m o l).1 = true := by
  unfold signOuts
  cases h : sfind m o with
  | none => rfl
  | some r =>
    simp only
    cases decide (r.2.2.2.1 < 0) with
    | true => rfl
    | false =>
      simp only [cond_false]
      cases (r.2.2.2.1 == 99) with
      | true =>
        simp only [cond_true]
        cases decide (l.length % 2 = 0) with
        | false => rfl
        | true =>
          simp only [cond_true]
          cases hp : pairs 0 l with
          | none => rfl
          | some t => exact okIs_short (by rw [pairs_len hp]; exact hl) (pairs_ok hp)
      | false =>
        simp only [cond_false]
        split
        · rename_i v
          cases (takes r.2.2.2.1 v || (r.2.2.2.2.1 && v == none')) with
          | false => rfl
          | true =>
            refine okIs_short (by simp) (fun x hx => ?_)
            simp only [cond_true, List.mem_cons, List.not_mem_nil, or_false] at hx
            subst hx
            rw [okI_iff]
            have := tbl_out r (tbl_in h)
            omega
        · rfl

/-! The statements -/

/-! Queues and stacks -/
theorem etaS (s : State) : (s.1, ((s.2.1.1, (s.2.1.2.1, (s.2.1.2.2.1, ()))), (s.2.2.1, (s.2.2.2.1, ())))) = s := rfl
def bigV (v : Val) : Bool := decide (100 < v.2.2.1.size)
theorem big_dec (n : Nat) (c : Nat) : decide (((n : Nat) : Int) > (c : Int)) = decide (c < n) := decide_eq_decide.2 (by omega)
def bigD (d : Deed) : Bool := decide (10 < d.2.2.1.length) || (decide (100 < d.1.2.2.1.size) || d.2.2.1.any bigV)
theorem greatD_eq (l : List Deed) : greatD l = (l.any bigD || decide (40 < l.length)) := rfl
theorem okDs_len {l : List Deed} (h : okDs l = true) : l.length ≤ 9223372036854775807 := Nat.le_trans (wfD_sl h).1 maxLen_le
theorem getD_at {α : Type} {a : List α} {x d : α} {b : List α} : (a ++ x :: b).getD a.length d = x := by
  rw [List.getD_eq_getElem?_getD, List.getElem?_append_right (Nat.le_refl _)]; simp
instance : LawfulBEq ByteArray where
  eq_of_beq h := ba_ext (by rw [ba_beq] at h; exact eq_of_beq h)
  rfl {a} := by rw [ba_beq]; exact beq_self_eq_true _
theorem veq (a b : Val) : ((a.1 == b.1) && ((a.2.1 == b.2.1) && ((a.2.2.1 == b.2.2.1) && true))) = (a == b) := by
  obtain ⟨k, n, s, ⟨⟩⟩ := a
  obtain ⟨k', n', s', ⟨⟩⟩ := b
  rfl
theorem w25 (N : Nat) {β : Type} (x0 : Bool → Option β) (x1 : Unit → Option β) (a b : List Val) (hl : a.length = b.length) (hs : a.length ≤ 1000000) : ∀ (n k : Nat), a.length - k < n →
    W25_4 N x0 x1 n a b (k : Int) = bif (a.drop k == b.drop k) then x1 () else x0 false
  | 0, k, h => by omega
  | n + 1, k, h => by
    unfold W25_4
    by_cases hd : k < a.length
    · rw [cond_dec (by omega), cond_t (in_dec hd), cond_t (in_dec (by omega)), Int.toNat_natCast, drop_getD (d := ((0 : Int), ((0 : Int), (ByteArray.empty, ())))) hd, drop_getD (l := b) (d := ((0 : Int), ((0 : Int), (ByteArray.empty, ())))) (by omega), wi64 _ (by omega) (by omega), show ((k : Int) + 1) = ((k + 1 : Nat) : Int) by omega,
        w25 N x0 x1 a b hl hs n (k + 1) (by omega), List.cons_beq_cons, veq]
      cases (a.getD k ((0 : Int), ((0 : Int), (ByteArray.empty, ()))) == b.getD k ((0 : Int), ((0 : Int), (ByteArray.empty, ())))) <;> rfl
    · rw [cond_dec' (by omega), List.drop_eq_nil_of_le (by omega), List.drop_eq_nil_of_le (by omega)]; rfl
def fuel25 (a b : List Val) : Nat := a.length + 1
theorem plain25 (a b : List Val) (h : okSame2 a b = true) : F25 (fuel25 a b) a b = some (sameV a b, ()) := by
  simp only [okSame2, Bool.and_eq_true, decide_eq_true_eq] at h
  unfold F25 sameV
  by_cases hl : a.length = b.length
  · have hw := fun x0 x1 => w25 (β := Bool × Unit) (fuel25 a b) x0 x1 a b hl h.1 (fuel25 a b) 0 (by unfold fuel25; omega)
    rw [show ((0 : Nat) : Int) = 0 from rfl] at hw
    rw [hw, List.drop_zero, List.drop_zero, hl, bne_self_eq_false, cond_false]
    cases (a == b) <;> rfl
  · have e1 : (((a.length : Nat) : Int) != ((b.length : Nat) : Int)) = true := bne_iff_ne.2 (by omega)
    have e2 : (a == b) = false := beq_false_of_ne (fun e => hl (by rw [e]))
    rw [e1, e2]; rfl
theorem takes0 (v : Val) : takes 0 v = name v := by unfold takes name; cases right v <;> cases named v <;> rfl
theorem takes2 (v : Val) : takes 2 v = name v := by unfold takes name; cases right v <;> cases named v <;> rfl
theorem fits_row {m o : Int} {args : List Val} (h : fits m o args = true) : ∃ r ∈ tbl, r.1 = m ∧ r.2.1 = o := by
  unfold fits sin at h
  cases hf : sfind m o with
  | none => rw [hf] at h; simp at h
  | some r =>
    have hh := List.find?_some hf
    simp only [hit, Bool.and_eq_true, beq_iff_eq] at hh
    exact ⟨r, tbl_in hf, hh.1, hh.2⟩
theorem sameV_self (l : List Val) : sameV l l = true := by unfold sameV; exact beq_self_eq_true _
theorem sameS_self (s : State) : sameS s s = true := by unfold sameS; rw [sameV_self]; simp
theorem okDs_mem {l : List Deed} (h : okDs l = true) {d : Deed} (hd : d ∈ l) : okDeed d = true := (wfD_sl h).2 d hd
theorem okDeed_parts {d : Deed} (h : okDeed d = true) : okV d.1 = true ∧ okVs d.2.2.1 = true := by
  simp only [okDeed, wfD, Bool.and_eq_true] at h
  exact ⟨by simp only [okV, wfD, Bool.and_eq_true]; exact h.1, by simp only [okVs, wfD, Bool.and_eq_true]; exact h.2.2.1⟩
theorem take_at {α : Type} {l : List α} {d : α} {i : Nat} (h : i < l.length) : l.take (i + 1) = l.take i ++ [l.getD i d] := by
  rw [List.getD_eq_getElem?_getD, List.getElem?_eq_getElem h, Option.getD_some, List.take_append_getElem]

def fuel8 : Nat := 0
def fuel18 (_ : ByteArray) : Nat := 0
theorem plain18 (s : ByteArray) (_ : true = true) : F18 0 s = some (callE s, ()) := by rfl
def fuel10 (_ : List Evt) : Nat := 0
theorem plain10 (h : List Evt) (hk : okAll h = true) : F10 0 h = some (pairCheck h, ()) := by
  unfold F10
  rw [hk]
  rfl
def fuel41 (_ : Evt) : Nat := 0
theorem plain41 (e : Evt) (_ : okE e = true) : F41 0 e = some (notedE e, ()) := by
  unfold F41 notedE
  rw [show (decide ((((ByteArray.size e.2.2.2.2.2.2.2.2.2.1) : Nat) : Int) ≤ (100 : Int))) = decide ((Ev.note e).size ≤ 100) from by rw [decide_eq_decide]; show ((e.2.2.2.2.2.2.2.2.2.1.size : Nat) : Int) ≤ 100 ↔ e.2.2.2.2.2.2.2.2.2.1.size ≤ 100; omega]
  rw [show containsOne e.2.2.2.2.2.2.2.2.2.1 (strL [10]) = hasB (Ev.note e) 10 from rfl, eqs_nil]
  cases decide ((Ev.note e).size ≤ 100) <;> cases hasB (Ev.note e) 10 <;> cases hn : e.2.2.2.2.2.2.2.2.1 <;> simp [Ev.ntd, hn]
def fuel32 (l : List Int) (_ : Int) : Nat := l.length + 1
theorem w32 (N : Nat) {β : Type} (x0 : Int → Option β) (x1 : Unit → Option β) (l : List Int) (x : Int) (hs : l.length ≤ 1000000) : ∀ (n k : Nat), l.length - k < n →
    W32_2 N x0 x1 n l x ((l.length : Nat) : Int) (k : Int) = match (l.drop k).findIdx? (· == x) with | some i => x0 ((k + i : Nat) : Int) | none => x1 ()
  | 0, k, h => by omega
  | n + 1, k, h => by
    unfold W32_2
    by_cases hd : k < l.length
    · rw [cond_dec (by omega), cond_t (in_dec hd), Int.toNat_natCast, List.drop_eq_getElem_cons hd, List.findIdx?_cons, List.getD_eq_getElem?_getD, List.getElem?_eq_getElem hd, Option.getD_some, wi64 _ (by omega) (by omega), show ((k : Int) + 1) = ((k + 1 : Nat) : Int) by omega, w32 N x0 x1 l x hs n (k + 1) (by omega)]
      by_cases hx : l[k] = x
      · rw [show (x == l[k]) = true from by simp [hx], show (l[k] == x) = true from by simp [hx]]; rfl
      · rw [show (l[k] == x) = false from by simpa using hx, show (x == l[k]) = false from by simpa using fun e => hx e.symm]
        simp only [Bool.false_eq_true, if_false, cond_false]
        cases List.findIdx? (fun y => y == x) (l.drop (k + 1)) with
        | none => rfl
        | some i => simp only [Option.map_some]; congr 1; omega
    · rw [cond_dec' (by omega), List.drop_eq_nil_of_le (by omega)]; rfl
theorem plain32 (l : List Int) (x : Int) (h : okIdxI l x = true) : F32 (fuel32 l x) l x = some (idxI l x, ()) := by
  have hs : l.length ≤ 1000000 := of_decide_eq_true h
  unfold F32
  have hw := fun x0 x1 => w32 (β := Int × Unit) (fuel32 l x) x0 x1 l x hs (l.length + 1) 0 (by omega)
  refine Eq.trans (hw _ _) ?_
  rw [List.drop_zero]
  unfold idxI
  cases List.findIdx? (fun y => y == x) l with
  | none => rfl
  | some i => simp
def fuel22 (_ : List Int) (_ : Int) : Nat := 0
theorem plain22 (l : List Int) (x : Int) (h : okIdxI l x = true) : F22 0 l x = some (hasI l x, ()) := by
  unfold F22
  rw [h, cond_true]
  have : decide (idxI l x ≥ (0 : Int)) = hasI l x := by
    unfold idxI hasI
    cases hf : List.findIdx? (fun y => y == x) l with
    | none => rw [List.findIdx?_eq_none_iff] at hf; simp; intro a ha e; have := hf a ha; simp [e] at this
    | some i =>
      have := List.findIdx?_isSome (p := fun y => y == x) (xs := l)
      rw [hf] at this
      simp only [Option.isSome_some] at this
      rw [← this]
      simp
  rw [this]

theorem w43 (N : Nat) {β : Type} (x0 : Bool → Option β) (x1 : Unit → Option β) (vs : List Val) (hv : okVs vs = true) (ds : List Int) (hl : ds.length = vs.length) (hs : ds.length ≤ 1000) : ∀ (n k : Nat), ds.length - k < n →
    W43_4 N x0 x1 n vs ds (ds.length : Int) (k : Int) = bif takesAll (ds.drop k) (vs.drop k) then x1 () else x0 false
  | 0, k, h => by omega
  | n + 1, k, h => by
    unfold W43_4
    by_cases hd : k < ds.length
    · have hv' := (okVs_iff.1 hv).2 _ (getD_mem (d := ((0 : Int), ((0 : Int), (ByteArray.empty, ())))) (show k < vs.length by omega))
      rw [cond_dec (by omega), cond_t (in_dec hd), cond_t (in_dec (by omega)), Int.toNat_natCast, drop_getD (d := 0) hd, drop_getD (l := vs) (d := ((0 : Int), ((0 : Int), (ByteArray.empty, ())))) (by omega), wi64 _ (by omega) (by omega),
        show ((k : Int) + 1) = ((k + 1 : Nat) : Int) by omega, w43 N x0 x1 vs hv ds hl hs n (k + 1) (by omega)]
      try simp only [eta]
      generalize List.getD vs k ((0 : Int), ((0 : Int), (ByteArray.empty, ()))) = v at hv'
      have hok : ∀ d, okT d v = true := fun d => hv'
      simp only [hok, cond_true, takesAll]
      cases takes (ds.getD k 0) v <;> simp
    · rw [cond_dec' (by omega), List.drop_eq_nil_of_le (by omega), List.drop_eq_nil_of_le (by omega)]; rfl
def fuel43 (ds : List Int) (l : List Val) : Nat := l.length + 1
theorem plain43 (ds : List Int) (l : List Val) (h : okEvFits ds l = true) : F43 (fuel43 ds l) ds l = some (evFits ds l, ()) := by
  simp only [okEvFits, Bool.and_eq_true, decide_eq_true_eq] at h
  unfold F43 evFits
  by_cases hl : ds.length = l.length
  · have e1 : (((ds.length : Nat) : Int) != ((l.length : Nat) : Int)) = false := by rw [hl]; exact bne_self_eq_false _
    have hw := fun x0 x1 => w43 (β := Bool × Unit) (fuel43 ds l) x0 x1 l h.1 ds hl h.2 (l.length + 1) 0 (by omega)
    rw [show ((0 : Nat) : Int) = 0 from rfl, List.drop_zero, List.drop_zero] at hw
    rw [e1, cond_false]
    refine Eq.trans (hw _ _) ?_
    cases takesAll ds l <;> rfl
  · have e1 : (((ds.length : Nat) : Int) != ((l.length : Nat) : Int)) = true := bne_iff_ne.2 (by omega)
    rw [e1, cond_true]
    cases ht : takesAll ds l with
    | false => rfl
    | true => exact absurd (takesAll_len ht) hl
theorem fits_args (m o : Int) (l : List Val) : fits m o l = ((argsGo m o).2.1 && takesAll (argsGo m o).1 l) := by
  unfold fits argsGo
  cases sin m o <;> simp
theorem args_len (m o : Int) : (argsGo m o).1.length ≤ 1000 := by
  unfold argsGo sin
  cases h : sfind m o with
  | none => simp
  | some r =>
    have := tbl_size r (tbl_in h)
    have h2 : r.2.2.1.data.toList.length = r.2.2.1.size := rfl
    simp only [Option.map_some, List.length_map]
    omega
theorem takes_name (v : Val) : takes 0 v = name v := by simp [takes, name]
theorem takes_name1 (v : Val) : takes 1 v = name v := by simp [takes, name]
theorem len0 {α : Type} (l : List α) : (((List.length l : Nat) : Int) == (0 : Int)) = l.isEmpty := by cases l <;> simp; omega
theorem lenp {α : Type} (l : List α) : decide (((List.length l : Nat) : Int) > (0 : Int)) = !l.isEmpty := by cases l <;> simp
theorem okE_parts {e : Evt} (h : okE e = true) : okV (Ev.cli e) = true ∧ okV (Ev.key e) = true ∧ okVs (Ev.args e) = true ∧ okVs (Ev.out e) = true := by
  have h1 : (wfD (.int .i64) (Ev.time e) && (wfD VT (Ev.cli e) && (wfD (.int .i64) (Ev.typ e) && (wfD (.int .i64) (Ev.mod e) && (wfD VT (Ev.key e) && (wfD (.int .i64) (Ev.op e) && (wfD (.sl VT) (Ev.args e) && (wfD (.sl VT) (Ev.out e) && wfD (.pr .bool (.pr .str .un)) e.2.2.2.2.2.2.2.2)))))))) = true := h
  simp only [Bool.and_eq_true] at h1
  exact ⟨h1.2.1, h1.2.2.2.2.1, h1.2.2.2.2.2.2.1, h1.2.2.2.2.2.2.2.1⟩
theorem w33 (N : Nat) {β : Type} (x0 : Bool → Option β) (x1 : Int → Int → Int → ByteArray → Int → Int → Int → Int → ByteArray → Int → List Val → List Val → Bool → ByteArray → Option β) (a0 a1 a2 : Int) (a3 : ByteArray) (a4 a5 a6 a7 : Int) (a8 : ByteArray) (a9 : Int) (a10 a11 : List Val) (a12 : Bool) (a13 : ByteArray) (l : List Val) (hv : okVs l = true) (hs : l.length ≤ maxLen) : ∀ (n k : Nat), l.length - k < n →
    W33_9 N x0 x1 n a0 a1 a2 a3 a4 a5 a6 a7 a8 a9 a10 a11 a12 a13 l (l.length : Int) (k : Int) = bif (l.drop k).all right then x1 a0 a1 a2 a3 a4 a5 a6 a7 a8 a9 a10 a11 a12 a13 else x0 false
  | 0, k, h => by omega
  | n + 1, k, h => by
    unfold W33_9
    have hm : maxLen = 9223372036854775807 := rfl
    by_cases hd : k < l.length
    · have hv' := (okVs_iff.1 hv).2 _ (getD_mem (d := ((0 : Int), ((0 : Int), (ByteArray.empty, ())))) hd)
      rw [cond_dec (by omega), cond_t (in_dec hd), Int.toNat_natCast, drop_getD (d := ((0 : Int), ((0 : Int), (ByteArray.empty, ())))) hd, wi64 _ (by omega) (by omega),
        show ((k : Int) + 1) = ((k + 1 : Nat) : Int) by omega, w33 N x0 x1 a0 a1 a2 a3 a4 a5 a6 a7 a8 a9 a10 a11 a12 a13 l hv hs n (k + 1) (by omega)]
      try simp only [eta]
      generalize List.getD l k ((0 : Int), ((0 : Int), (ByteArray.empty, ()))) = v at hv'
      simp only [hv', cond_true, List.all_cons]
      cases right v <;> simp
    · rw [cond_dec' (by omega), List.drop_eq_nil_of_le (by omega)]; rfl
def fuel33 (e : Evt) : Nat := (Ev.out e).length + 1
theorem plain33 (e : Evt) (h : okEv e = true) : F33 (fuel33 e) e = some (rightE e, ()) := by
  have hE : okE e = true := h
  obtain ⟨p1, p2, p3, p4⟩ := okE_parts hE
  unfold F33 rightE
  have hw := fun x0 x1 => w33 (β := Bool × Unit) (fuel33 e) x0 x1 e.1 e.2.1.1 e.2.1.2.1 e.2.1.2.2.1 e.2.2.1 e.2.2.2.1 e.2.2.2.2.1.1 e.2.2.2.2.1.2.1 e.2.2.2.2.1.2.2.1 e.2.2.2.2.2.1 e.2.2.2.2.2.2.1 e.2.2.2.2.2.2.2.1 e.2.2.2.2.2.2.2.2.1 e.2.2.2.2.2.2.2.2.2.1 (Ev.out e) p4 (okVs_iff.1 p4).1 ((Ev.out e).length + 1) 0 (by omega)
  rw [show ((0 : Nat) : Int) = 0 from rfl, List.drop_zero] at hw
  have hokT : okT 0 (Ev.cli e) = true := p1
  have hokK : okT 1 (Ev.key e) = true := p2
  have hokF : okEvFits (argsGo (Ev.mod e) (Ev.op e)).1 (Ev.args e) = true := by
    simp only [okEvFits, p3, args_len, decide_true, Bool.and_self]
  have ht : decide (e.1 < (0 : Int)) = !decide (0 ≤ Ev.time e) := by rw [← decide_not, decide_eq_decide]; show e.1 < 0 ↔ ¬ 0 ≤ e.1; omega
  rw [ht]
  cases decide (0 ≤ Ev.time e) with
  | false => rfl
  | true =>
  rw [Bool.not_true, cond_false, hokT, cond_true, takes_name]
  cases name (Ev.cli e) with
  | false => rfl
  | true =>
  rw [Bool.not_true, cond_false, hE, cond_true]
  cases notedE e with
  | false => rfl
  | true =>
  rw [Bool.not_true, cond_false]
  simp only [Bool.true_and, Bool.and_self]
  cases hy : (e.2.2.1 == (1 : Int)) with
  | true =>
    simp only [cond_true]
    rw [fits_args]
    cases ((argsGo e.2.2.2.1 e.2.2.2.2.2.1).2).1 with
    | false => rfl
    | true =>
    rw [cond_true, hokK, cond_true, takes_name1]
    cases name (Ev.key e) with
    | false => simp
    | true =>
    rw [cond_true, hokF, cond_true, evFits]
    cases takesAll (argsGo e.2.2.2.1 e.2.2.2.2.2.1).1 e.2.2.2.2.2.2.1 with
    | false => rfl
    | true => simp only [cond_true, len0, Bool.true_and]
  | false =>
    simp only [cond_false, lenp, len0, vnone, bne]
    cases (e.2.2.2.1 == (0 : Int)) with
    | false => rfl
    | true =>
    cases (e.2.2.2.2.2.1 == (0 : Int)) with
    | false => rfl
    | true =>
    simp only [Bool.not_true, cond_false, Bool.true_and]
    cases (Ev.key e == none') with
    | false => rfl
    | true =>
    simp only [Bool.not_true, cond_false, Bool.true_and]
    cases (Ev.args e).isEmpty with
    | false => rfl
    | true =>
    simp only [Bool.not_true, cond_false, Bool.true_and]
    refine Eq.trans (hw _ _) ?_
    cases (Ev.out e).all right with
    | false => rfl
    | true =>
    simp only [cond_true, Bool.true_and]
    cases (e.2.2.1 == (2 : Int)) with
    | true => rfl
    | false =>
    cases (e.2.2.1 == (3 : Int)) with
    | true => simp
    | false =>
    cases (e.2.2.1 == (4 : Int)) with
    | true => simp
    | false => rfl

theorem w19_3 (N : Nat) {β : Type} (x1 : Int → Int → Int → ByteArray → Int → Int → Int → Int → ByteArray → Int → List Val → List Val → Bool → ByteArray → Int → Option β) (a0 a1 a2 : Int) (a3 : ByteArray) (a4 a5 a6 a7 : Int) (a8 : ByteArray) (a9 : Int) (a10 a11 : List Val) (a12 : Bool) (a13 : ByteArray) (hs : a10.length ≤ maxLen) : ∀ (n k : Nat) (t : Int), a10.length - k < n →
    W19_3 N x1 n a0 a1 a2 a3 a4 a5 a6 a7 a8 a9 a10 a11 a12 a13 t (k : Int) = x1 a0 a1 a2 a3 a4 a5 a6 a7 a8 a9 a10 a11 a12 a13 (addW t (a10.drop k))
  | 0, k, t, h => by omega
  | n + 1, k, t, h => by
    unfold W19_3
    have hm : maxLen = 9223372036854775807 := rfl
    by_cases hd : k < a10.length
    · rw [cond_dec (by omega), drop_getD (d := ((0 : Int), ((0 : Int), (ByteArray.empty, ())))) hd, addW]
      by_cases ht : t ≤ 2000
      · rw [cond_dec ht, cond_dec ht, cond_t (in_dec hd), Int.toNat_natCast, wi64 ((k : Int) + 1) (by omega) (by omega), show ((k : Int) + 1) = ((k + 1 : Nat) : Int) by omega]
        exact w19_3 N x1 a0 a1 a2 a3 a4 a5 a6 a7 a8 a9 a10 a11 a12 a13 hs n (k + 1) _ (by omega)
      · rw [cond_dec' ht, cond_dec' ht]
    · rw [cond_dec' (by omega), List.drop_eq_nil_of_le (by omega)]; rfl
theorem w19_7 (N : Nat) {β : Type} (x3 : Int → Option β) (a0 a1 a2 : Int) (a3 : ByteArray) (a4 a5 a6 a7 : Int) (a8 : ByteArray) (a9 : Int) (a10 a11 : List Val) (a12 : Bool) (a13 : ByteArray) (hs : a11.length ≤ maxLen) : ∀ (n k : Nat) (t : Int), a11.length - k < n →
    W19_7 N x3 n a0 a1 a2 a3 a4 a5 a6 a7 a8 a9 a10 a11 a12 a13 t (k : Int) = x3 (addW t (a11.drop k))
  | 0, k, t, h => by omega
  | n + 1, k, t, h => by
    unfold W19_7
    have hm : maxLen = 9223372036854775807 := rfl
    by_cases hd : k < a11.length
    · rw [cond_dec (by omega), drop_getD (d := ((0 : Int), ((0 : Int), (ByteArray.empty, ())))) hd, addW]
      by_cases ht : t ≤ 2000
      · rw [cond_dec ht, cond_dec ht, cond_t (in_dec hd), Int.toNat_natCast, wi64 ((k : Int) + 1) (by omega) (by omega), show ((k : Int) + 1) = ((k + 1 : Nat) : Int) by omega]
        exact w19_7 N x3 a0 a1 a2 a3 a4 a5 a6 a7 a8 a9 a10 a11 a12 a13 hs n (k + 1) _ (by omega)
      · rw [cond_dec' ht, cond_dec' ht]
    · rw [cond_dec' (by omega), List.drop_eq_nil_of_le (by omega)]; rfl
def fuel19 (e : Evt) : Nat := (Ev.args e).length + (Ev.out e).length + 1
theorem plain19 (e : Evt) (h : okE e = true) : F19 (fuel19 e) e = some (greatE e, ()) := by
  obtain ⟨_, _, p3, p4⟩ := okE_parts h
  unfold F19
  refine (w19_3 _ _ _ _ _ _ _ _ _ _ _ _ (Ev.args e) _ _ _ (okVs_iff.1 p3).1 _ 0 _ (by unfold fuel19; omega)).trans ?_
  refine (w19_7 _ _ _ _ _ _ _ _ _ _ _ _ _ (Ev.out e) _ _ (okVs_iff.1 p4).1 _ 0 _ (by unfold fuel19; omega)).trans ?_
  rfl
abbrev ED : Evt := ((0 : Int), (((0 : Int), ((0 : Int), (ByteArray.empty, ()))), ((0 : Int), ((0 : Int), (((0 : Int), ((0 : Int), (ByteArray.empty, ()))), ((0 : Int), ([], ([], (false, (ByteArray.empty, ()))))))))))
theorem okH_at {h : List Evt} (hk : Inc.okH h = true) : h.length ≤ maxLen ∧ ∀ e ∈ h, okE e = true := by
  have h1 : (decide (h.length ≤ maxLen) && List.all h (wfD EVT)) = true := hk
  rw [Bool.and_eq_true, decide_eq_true_eq, List.all_eq_true] at h1
  exact h1
theorem w9 (N : Nat) {β : Type} (x0 : Bool → Option β) (x1 : Unit → Option β) (l : List Evt) (hv : Inc.okH l = true) : ∀ (n k : Nat), l.length - k < n →
    W9_4 N x0 x1 n l (k : Int) = bif (l.drop k).any greatE then x0 true else x1 ()
  | 0, k, h => by omega
  | n + 1, k, h => by
    unfold W9_4
    have hm : maxLen = 9223372036854775807 := rfl
    have h1 := (okH_at hv).1
    by_cases hd : k < l.length
    · have hv' := (okH_at hv).2 _ (getD_mem (d := ED) hd)
      rw [cond_dec (by omega), cond_t (in_dec hd), Int.toNat_natCast, drop_getD (d := ED) hd, wi64 _ (by omega) (by omega), show ((k : Int) + 1) = ((k + 1 : Nat) : Int) by omega, w9 N x0 x1 l hv n (k + 1) (by omega), cond_t hv', List.any_cons]
      cases greatE (l.getD k ED) <;> simp
    · rw [cond_dec' (by omega), List.drop_eq_nil_of_le (by omega)]; rfl
def fuel9 (h : List Evt) (_ : Int) : Nat := h.length + 1
theorem plain9 (h : List Evt) (n : Int) (hk : okGH h n = true) : F9 (fuel9 h n) h n = some (greatH h n, ()) := by
  unfold F9 greatH
  cases decide ((((List.length h) : Nat) : Int) > n) with
  | true => rfl
  | false =>
    rw [cond_false, Bool.false_or]
    refine (w9 _ _ _ h hk (h.length + 1) 0 (by omega)).trans ?_
    rw [List.drop_zero]
    cases h.any greatE <;> rfl

theorem val_beq (a b : Val) : ((a.1 == b.1) && ((a.2.1 == b.2.1) && ((a.2.2.1 == b.2.2.1) && true))) = (a == b) := by rfl
theorem noE_ED : noE = ED := rfl
theorem okAll_parts {h : List Evt} (hk : Inc.okAll h = true) : Inc.okH h = true ∧ h.length ≤ 1000 ∧ ∀ e ∈ h, evLen e = true := by
  have h1 : (Inc.okH h && (decide (h.length ≤ 1000) && h.all evLen)) = true := hk
  rw [Bool.and_eq_true, Bool.and_eq_true, decide_eq_true_eq, List.all_eq_true] at h1
  exact h1
theorem okAt_nat {h : List Evt} {a : Int} (hk : Inc.okAt h a = true) : ∃ n : Nat, a = (n : Int) ∧ n < h.length ∧ Inc.okAll h = true := by
  have h1 : (Inc.okAll h && (decide (0 ≤ a) && decide (a < h.length))) = true := hk
  rw [Bool.and_eq_true, Bool.and_eq_true, decide_eq_true_eq, decide_eq_true_eq] at h1
  exact ⟨a.toNat, by omega, by omega, h1.1⟩
theorem okAt_of {h : List Evt} {n : Nat} (hk : Inc.okAll h = true) (hn : n < h.length) : Inc.okAt h (n : Int) = true := by
  show (Inc.okAll h && (decide (0 ≤ (n : Int)) && decide ((n : Int) < h.length))) = true
  rw [hk, in_dec hn]; rfl

theorem pairOper_def (h : List Evt) (c : Clk) (i : Nat) : pairOper h c i = bif Ev.typ (h.getD i ((0 : Int), (((0 : Int), ((0 : Int), (ByteArray.empty, ()))), ((0 : Int), ((0 : Int), (((0 : Int), ((0 : Int), (ByteArray.empty, ()))), ((0 : Int), ([], ([], (false, (ByteArray.empty, ()))))))))))) != 1 || (Ck.gone c).any (· == (i : Int)) then none else
  bif decide ((Ck.ends c).getD i 0 > 0) then some (operOf (h.getD i ((0 : Int), (((0 : Int), ((0 : Int), (ByteArray.empty, ()))), ((0 : Int), ((0 : Int), (((0 : Int), ((0 : Int), (ByteArray.empty, ()))), ((0 : Int), ([], ([], (false, (ByteArray.empty, ()))))))))))) i ((Ck.ends c).getD i 0) (Ev.out (h.getD ((Ck.ends c).getD i 0).toNat ((0 : Int), (((0 : Int), ((0 : Int), (ByteArray.empty, ()))), ((0 : Int), ((0 : Int), (((0 : Int), ((0 : Int), (ByteArray.empty, ()))), ((0 : Int), ([], ([], (false, (ByteArray.empty, ()))))))))))))) else some (operOf (h.getD i ((0 : Int), (((0 : Int), ((0 : Int), (ByteArray.empty, ()))), ((0 : Int), ((0 : Int), (((0 : Int), ((0 : Int), (ByteArray.empty, ()))), ((0 : Int), ([], ([], (false, (ByteArray.empty, ()))))))))))) i (-1) []) := rfl
theorem w12 (N : Nat) {β : Type} (x1 : Int → Int → Int → Int → List Opr → Option β) (h : List Evt) (hW : WellF h) (hk : Inc.okAll h = true) (hl : h.length ≤ 1000) (c : Clk) (H : CInv h h.length c) (b3a b3ba b5a b5ba q : Int) : ∀ (n i : Nat) (out : List Opr), h.length - i < n → i ≤ h.length → out.length ≤ i →
    W12_6 N x1 n h b3a b3ba b5a b5ba out q (Ck.gone c) (Ck.ends c) h ((h.length : Nat) : Int) (i : Int) = x1 b3a b3ba b5a b5ba (out ++ (List.range' i (h.length - i)).filterMap (pairOper h c))
  | 0, i, out, hn, _, _ => by omega
  | n + 1, i, out, hn, hle, ho => by
    unfold W12_6
    by_cases hi : i < h.length
    · have hs : h.length - i = (h.length - (i + 1)) + 1 := by omega
      have ih := fun out => w12 N x1 h hW hk hl c H b3a b3ba b5a b5ba q n (i + 1) out (by omega) (by omega)
      have hcap : ∀ o : Opr, decide ((out.length + [o].length) * 144 ≤ 140737488351232) = true := fun o => decide_eq_true (by show (out.length + 1) * 144 ≤ _; omega)
      have hgl : okIdxI (Ck.gone c) (i : Int) = true := decide_eq_true (by have := H.glen; omega)
      have hel : i < (Ck.ends c).length := by rw [H.elen]; exact hi
      have hgo : hasI (Ck.gone c) (i : Int) = (Ck.gone c).any (· == (i : Int)) := rfl
      have hr := wrong_right (hW i hi)
      have hcl : okClone (Ev.args (h.getD i ((0 : Int), (((0 : Int), ((0 : Int), (ByteArray.empty, ()))), ((0 : Int), ((0 : Int), (((0 : Int), ((0 : Int), (ByteArray.empty, ()))), ((0 : Int), ([], ([], (false, (ByteArray.empty, ())))))))))))) = true := decide_eq_true (by have := (right_parts (e := h.getD i ((0 : Int), (((0 : Int), ((0 : Int), (ByteArray.empty, ()))), ((0 : Int), ((0 : Int), (((0 : Int), ((0 : Int), (ByteArray.empty, ()))), ((0 : Int), ([], ([], (false, (ByteArray.empty, ()))))))))))) hr).2.2.2.1.1; omega)
      rw [cond_dec (by omega), cond_t (in_dec hi), Int.toNat_natCast, wi64 ((i : Int) + 1) (by omega) (by omega), show ((i : Int) + 1) = ((i + 1 : Nat) : Int) by omega, cond_t hgl, hgo, hs, List.range'_succ, List.filterMap_cons, pairOper_def, cond_t (in_dec hel)]
      simp only [hcap, cond_true]
      rcases H.ends i hi with ⟨e, _⟩ | ⟨j, hj, e, hj2, hjl⟩
      · simp only [e, show decide ((0 : Int) > 0) = false from rfl, cond_false]
        generalize h.getD i ((0 : Int), (((0 : Int), ((0 : Int), (ByteArray.empty, ()))), ((0 : Int), ((0 : Int), (((0 : Int), ((0 : Int), (ByteArray.empty, ()))), ((0 : Int), ([], ([], (false, (ByteArray.empty, ())))))))))) = x at hcl
        rw [cond_t hcl]
        show (bif Ev.typ x != 1 then _ else _) = _
        cases (Ev.typ x != 1) with
        | true => exact ih out (by omega)
        | false =>
          cases (Ck.gone c).any (· == (i : Int)) with
          | true => exact ih out (by omega)
          | false =>
            refine (ih _ (by rw [List.length_append, List.length_singleton]; omega)).trans ?_
            rw [List.append_assoc]; rfl
      · have hij := ((lastN_iff h _ j i).1 hjl).1
        have hry := wrong_right (hW j hj)
        have hcy : okClone (Ev.out (h.getD j ((0 : Int), (((0 : Int), ((0 : Int), (ByteArray.empty, ()))), ((0 : Int), ((0 : Int), (((0 : Int), ((0 : Int), (ByteArray.empty, ()))), ((0 : Int), ([], ([], (false, (ByteArray.empty, ())))))))))))) = true := decide_eq_true (by
          have h1 := (okAll_parts hk).2.2 _ (getD_mem (d := ((0 : Int), (((0 : Int), ((0 : Int), (ByteArray.empty, ()))), ((0 : Int), ((0 : Int), (((0 : Int), ((0 : Int), (ByteArray.empty, ()))), ((0 : Int), ([], ([], (false, (ByteArray.empty, ()))))))))))) hj)
          unfold evLen at h1
          have hry' : rightE (h.getD j ((0 : Int), (((0 : Int), ((0 : Int), (ByteArray.empty, ()))), ((0 : Int), ((0 : Int), (((0 : Int), ((0 : Int), (ByteArray.empty, ()))), ((0 : Int), ([], ([], (false, (ByteArray.empty, ()))))))))))) = true := hry
          rw [hry', Bool.not_true, Bool.false_or, decide_eq_true_eq] at h1
          omega)
        simp only [e, decide_eq_true (show (j : Int) > 0 by omega), decide_eq_true (show (0 : Int) ≤ j by omega), cond_true, decide_eq_true (show (j : Int) < (h.length : Int) by omega), Bool.and_self, Int.toNat_natCast]
        generalize h.getD i ((0 : Int), (((0 : Int), ((0 : Int), (ByteArray.empty, ()))), ((0 : Int), ((0 : Int), (((0 : Int), ((0 : Int), (ByteArray.empty, ()))), ((0 : Int), ([], ([], (false, (ByteArray.empty, ())))))))))) = x at hcl
        generalize h.getD j ((0 : Int), (((0 : Int), ((0 : Int), (ByteArray.empty, ()))), ((0 : Int), ((0 : Int), (((0 : Int), ((0 : Int), (ByteArray.empty, ()))), ((0 : Int), ([], ([], (false, (ByteArray.empty, ())))))))))) = y at hcy
        rw [cond_t hcl, cond_t hcy]
        show (bif Ev.typ x != 1 then _ else _) = _
        cases (Ev.typ x != 1) with
        | true => exact ih out (by omega)
        | false =>
          cases (Ck.gone c).any (· == (i : Int)) with
          | true => exact ih out (by omega)
          | false =>
            refine (ih _ (by rw [List.length_append, List.length_singleton]; omega)).trans ?_
            rw [List.append_assoc]; rfl
    · rw [cond_dec' (by omega), show h.length - i = 0 by omega]
      rw [List.range'_zero, List.filterMap_nil, List.append_nil]
def fuel12 (h : List Evt) : Nat := h.length + 1
theorem plain12 (h : List Evt) (hk : Inc.okAll h = true) : F12 (fuel12 h) h = some (pairOpers h) := by
  obtain ⟨hH, hl, hE⟩ := okAll_parts hk
  unfold F12 pairOpers
  rw [cond_t hk]
  cases hz : ((pairAll h).2.1 != 0) with
  | true => rfl
  | false =>
    rw [cond_false, cond_false]
    have hz' : (pairAll h).2.1 = 0 := by
      have := hz
      rw [bne_eq_false_iff_eq] at this; exact this
    obtain ⟨k1, k2⟩ := all_ref h (h.length + 1) 0 _ (CInv.begin h) (by omega) (by omega)
    obtain ⟨k3, k4⟩ := k2 hz'
    refine (w12 _ _ h (fun j hj => k4 j (by omega) hj) hk hl (pairAll h).1 k3 _ _ _ _ _ _ 0 _ (by unfold fuel12; omega) (by omega) (Nat.zero_le _)).trans ?_
    rw [Nat.sub_zero, ← List.range_eq_range']; rfl

theorem plain8 (_ : true = true) : F8 fuel8 = some (true, ()) := by kernel_rfl

def fuel26 (e : Evt) : Nat := 0
theorem plain26 (e : Evt) (h : okCopyE e = true) : F26 (fuel26 e) e = some (copyE e, ()) := by
  have h' : (okE e && (decide ((Ev.args e).length ≤ 2000) && decide ((Ev.out e).length ≤ 2000))) = true := h
  rw [Bool.and_eq_true, Bool.and_eq_true, decide_eq_true_eq, decide_eq_true_eq] at h'
  obtain ⟨_, h1, h2⟩ := h'
  unfold F26
  rw [cond_dec (by show (0 + (Ev.args e).length) * 32 ≤ _; omega), cond_dec (by show (0 + (Ev.out e).length) * 32 ≤ _; omega)]
  rfl
theorem okCopyH_parts {h : List Evt} (hk : okCopyH h = true) : Inc.okH h = true ∧ h.length ≤ 1000 ∧ ∀ e ∈ h, lenE e = true := by
  have h1 : (Inc.okH h && (decide (h.length ≤ 1000) && h.all lenE)) = true := hk
  rw [Bool.and_eq_true, Bool.and_eq_true, decide_eq_true_eq, List.all_eq_true] at h1
  exact h1
theorem w16 (N : Nat) {β : Type} (x1 : List Evt → Option β) (h : List Evt) (hk : okCopyH h = true) : ∀ (n i : Nat) (out : List Evt), h.length - i < n → i ≤ h.length → out = h.take i →
    W16_3 N x1 n h out (i : Int) = x1 h
  | 0, i, out, hn, _, _ => by omega
  | n + 1, i, out, hn, hi, ho => by
    obtain ⟨k1, k2, k3⟩ := okCopyH_parts hk
    unfold W16_3
    by_cases hd : i < h.length
    · have hm := getD_mem (d := ((0 : Int), (((0 : Int), ((0 : Int), (ByteArray.empty, ()))), ((0 : Int), ((0 : Int), (((0 : Int), ((0 : Int), (ByteArray.empty, ()))), ((0 : Int), ([], ([], (false, (ByteArray.empty, ()))))))))))) hd
      have hc : okCopyE (h.getD i ((0 : Int), (((0 : Int), ((0 : Int), (ByteArray.empty, ()))), ((0 : Int), ((0 : Int), (((0 : Int), ((0 : Int), (ByteArray.empty, ()))), ((0 : Int), ([], ([], (false, (ByteArray.empty, ()))))))))))) = true := by
        show (okE (h.getD i ((0 : Int), (((0 : Int), ((0 : Int), (ByteArray.empty, ()))), ((0 : Int), ((0 : Int), (((0 : Int), ((0 : Int), (ByteArray.empty, ()))), ((0 : Int), ([], ([], (false, (ByteArray.empty, ()))))))))))) && lenE (h.getD i ((0 : Int), (((0 : Int), ((0 : Int), (ByteArray.empty, ()))), ((0 : Int), ((0 : Int), (((0 : Int), ((0 : Int), (ByteArray.empty, ()))), ((0 : Int), ([], ([], (false, (ByteArray.empty, ())))))))))))) = true
        rw [(okH_at k1).2 _ hm, k3 _ hm]; rfl
      have hl : out.length = i := by rw [ho, List.length_take]; omega
      rw [cond_dec (by omega), cond_t (in_dec hd), Int.toNat_natCast, cond_t hc, wi64 _ (by omega) (by omega), show ((i : Int) + 1) = ((i + 1 : Nat) : Int) by omega, cond_dec (by show (out.length + 1) * 168 ≤ _; omega)]
      refine w16 N x1 h hk n (i + 1) _ (by omega) (by omega) ?_
      show out ++ [h.getD i ((0 : Int), (((0 : Int), ((0 : Int), (ByteArray.empty, ()))), ((0 : Int), ((0 : Int), (((0 : Int), ((0 : Int), (ByteArray.empty, ()))), ((0 : Int), ([], ([], (false, (ByteArray.empty, ()))))))))))] = _
      rw [ho, List.take_add_one, List.getElem?_eq_getElem hd, List.getD_eq_getElem?_getD, List.getElem?_eq_getElem hd]; rfl
    · rw [cond_dec' (by omega), ho, List.take_of_length_le (by omega)]
def fuel16 (h : List Evt) : Nat := h.length + 1
theorem plain16 (h : List Evt) (hk : okCopyH h = true) : F16 (fuel16 h) h = some (copyH h, ()) := by
  unfold F16
  exact w16 _ _ h hk _ 0 [] (by unfold fuel16; omega) (Nat.zero_le _) rfl
def fuel17 (a b : Evt) : Nat := 0
theorem plain17 (a b : Evt) (h : okSameE a b = true) : F17 (fuel17 a b) a b = some (sameE a b, ()) := by
  have h' : ((decide ((Ev.args a).length ≤ 2000) && decide ((Ev.out a).length ≤ 2000)) && (decide ((Ev.args b).length ≤ 2000) && decide ((Ev.out b).length ≤ 2000))) = true := h
  simp only [Bool.and_eq_true, decide_eq_true_eq] at h'
  have h1 : okSame2 (Ev.args a) (Ev.args b) = true := by
    show (decide _ && decide _) = true
    rw [decide_eq_true (by omega), decide_eq_true (by omega)]; rfl
  have h2 : okSame2 (Ev.out a) (Ev.out b) = true := by
    show (decide _ && decide _) = true
    rw [decide_eq_true (by omega), decide_eq_true (by omega)]; rfl
  have hb : (ByteArray.toList a.2.2.2.2.2.2.2.2.2.1 == ByteArray.toList b.2.2.2.2.2.2.2.2.2.1) = (a.2.2.2.2.2.2.2.2.2.1 == b.2.2.2.2.2.2.2.2.2.1) := by rw [toList_eq, toList_eq, ← ba_beq]
  unfold F17
  rw [hb, val_beq a.2.1 b.2.1, val_beq a.2.2.2.2.1 b.2.2.2.2.1]
  have he : sameE a b = ((a.1 == b.1) && ((a.2.1 == b.2.1) && ((a.2.2.1 == b.2.2.1) && ((a.2.2.2.1 == b.2.2.2.1) && ((a.2.2.2.2.1 == b.2.2.2.2.1) && ((a.2.2.2.2.2.1 == b.2.2.2.2.2.1) && ((sameV (Ev.args a) (Ev.args b)) && ((sameV (Ev.out a) (Ev.out b)) && ((a.2.2.2.2.2.2.2.2.1 == b.2.2.2.2.2.2.2.2.1) && ((a.2.2.2.2.2.2.2.2.2.1 == b.2.2.2.2.2.2.2.2.2.1) && true)))))))))) := rfl
  rw [he]
  show (bif (a.1 == b.1) then (bif (a.2.1 == b.2.1) then (bif (a.2.2.1 == b.2.2.1) then (bif (a.2.2.2.1 == b.2.2.2.1) then (bif (a.2.2.2.2.1 == b.2.2.2.2.1) then (bif (a.2.2.2.2.2.1 == b.2.2.2.2.2.1) then (bif okSame2 (Ev.args a) (Ev.args b) then (bif sameV (Ev.args a) (Ev.args b) then (bif okSame2 (Ev.out a) (Ev.out b) then (bif sameV (Ev.out a) (Ev.out b) then (bif (a.2.2.2.2.2.2.2.2.1 == b.2.2.2.2.2.2.2.2.1) then _ else _) else _) else _) else _) else _) else _) else _) else _) else _) else _) else _) = _
  rw [h1, h2]
  cases (a.1 == b.1) <;> cases (a.2.1 == b.2.1) <;> cases (a.2.2.1 == b.2.2.1) <;> cases (a.2.2.2.1 == b.2.2.2.1) <;> cases (a.2.2.2.2.1 == b.2.2.2.2.1) <;> cases (a.2.2.2.2.2.1 == b.2.2.2.2.2.1) <;> cases (sameV (Ev.args a) (Ev.args b)) <;> cases (sameV (Ev.out a) (Ev.out b)) <;> cases (a.2.2.2.2.2.2.2.2.1 == b.2.2.2.2.2.2.2.2.1) <;> cases (a.2.2.2.2.2.2.2.2.2.1 == b.2.2.2.2.2.2.2.2.2.1) <;> rfl

end Go.K12
