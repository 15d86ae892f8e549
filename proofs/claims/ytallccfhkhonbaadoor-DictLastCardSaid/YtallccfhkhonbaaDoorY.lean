/- Own text of this session: a part of the proof; no condition of its own. -/
import Derived.Test.YtallccfhkhonbaaDoorP
set_option linter.unusedVariables false
set_option linter.unusedSimpArgs false
set_option maxRecDepth 100000
namespace Go.L17
open Go Go.Abs Go.Inc
/-! Queues and stacks -/
theorem etaS (s : State) : (s.1, ((s.2.1.1, (s.2.1.2.1, (s.2.1.2.2.1, ()))), (s.2.2.1, (s.2.2.2.1, ())))) = s := rfl
def fuel18 (m : Int) : Nat := 0
theorem plain18 (m : Int) (_ : true = true) : F18 0 m = some (num' m, ()) := rfl
def bigV (v : Val) : Bool := decide (100 < v.2.2.1.size)
theorem big_dec (n : Nat) (c : Nat) : decide (((n : Nat) : Int) > (c : Int)) = decide (c < n) := decide_eq_decide.2 (by omega)
theorem w9_7 (N : Nat) {β : Type} (x0 : Bool → Option β) (x3 : List Deed → List Deed → Int → Int → Option β) (a b : List Deed) (c d : Int) (l : List Val) (hs : l.length ≤ 1000) : ∀ (n k : Nat), l.length - k < n →
    W9_7 N x0 x3 n a b c d l (l.length : Int) (k : Int) = bif (l.drop k).any bigV then x0 true else x3 a b c d
  | 0, k, h => by omega
  | n + 1, k, h => by
    unfold W9_7
    by_cases hd : k < l.length
    · rw [cond_dec (by omega), cond_t (in_dec hd), Int.toNat_natCast, drop_getD (d := ((0 : Int), ((0 : Int), (ByteArray.empty, ())))) hd, wi64 _ (by omega) (by omega), show ((k : Int) + 1) = ((k + 1 : Nat) : Int) by omega,
        w9_7 N x0 x3 a b c d l hs n (k + 1) (by omega), List.any_cons]
      generalize List.getD l k ((0 : Int), ((0 : Int), (ByteArray.empty, ()))) = v
      rw [show decide (((v.2.2.1.size : Nat) : Int) > (100 : Int)) = bigV v from big_dec _ 100]
      cases bigV v <;> rfl
    · rw [cond_dec' (by omega), List.drop_eq_nil_of_le (by omega)]; rfl
def bigD (d : Deed) : Bool := decide (10 < d.2.2.1.length) || (decide (100 < d.1.2.2.1.size) || d.2.2.1.any bigV)
theorem w9_2 (N : Nat) (hN : 20 ≤ N) {β : Type} (x0 : Bool → Option β) (x1 : List Deed → Option β) (a : List Deed) (l : List Deed) (hs : l.length ≤ 9223372036854775807) : ∀ (n k : Nat), l.length - k < n →
    W9_2 N x0 x1 n a l (l.length : Int) (k : Int) = bif (l.drop k).any bigD then x0 true else x1 a
  | 0, k, h => by omega
  | n + 1, k, h => by
    unfold W9_2
    by_cases hd : k < l.length
    · rw [cond_dec (by omega), cond_t (in_dec hd), Int.toNat_natCast, drop_getD (d := (((0 : Int), ((0 : Int), (ByteArray.empty, ()))), ((0 : Int), ([], ())))) hd, List.any_cons]
      generalize List.getD l k (((0 : Int), ((0 : Int), (ByteArray.empty, ()))), ((0 : Int), ([], ()))) = v
      rw [show decide (((v.2.2.1.length : Nat) : Int) > (10 : Int)) = decide (10 < v.2.2.1.length) from big_dec _ 10, show decide (((v.1.2.2.1.size : Nat) : Int) > (100 : Int)) = decide (100 < v.1.2.2.1.size) from big_dec _ 100]
      unfold bigD
      by_cases h10 : 10 < v.2.2.1.length
      · rw [decide_eq_true h10]; rfl
      · rw [decide_eq_false h10]
        have hw := fun x3 => w9_7 (β := β) N (fun t2 => x0 t2) x3 a l (l.length : Int) (k : Int) v.2.2.1 (by omega) N 0 (by omega)
        rw [show ((0 : Nat) : Int) = 0 from rfl] at hw
        rw [hw, List.drop_zero, wi64 _ (by omega) (by omega), show ((k : Int) + 1) = ((k + 1 : Nat) : Int) by omega, w9_2 N hN x0 x1 a l hs n (k + 1) (by omega)]
        cases decide (100 < v.1.2.2.1.size) <;> cases v.2.2.1.any bigV <;> rfl
    · rw [cond_dec' (by omega), List.drop_eq_nil_of_le (by omega)]; rfl
theorem greatD_eq (l : List Deed) : greatD l = (l.any bigD || decide (40 < l.length)) := rfl
def fuel9 (l : List Deed) : Nat := l.length + 20
theorem okDs_len {l : List Deed} (h : okDs l = true) : l.length ≤ 9223372036854775807 := Nat.le_trans (wfD_sl h).1 maxLen_le
theorem plain9 (l : List Deed) (h : okDs l = true) : F9 (fuel9 l) l = some (greatD l, ()) := by
  unfold F9
  have hw := fun x0 x1 => w9_2 (fuel9 l) (by unfold fuel9; omega) (β := Bool × Unit) x0 x1 l l (by have := okDs_len h; omega) (fuel9 l) 0 (by unfold fuel9; omega)
  rw [show ((0 : Nat) : Int) = 0 from rfl] at hw
  rw [hw, List.drop_zero, greatD_eq, show decide (((l.length : Nat) : Int) > (40 : Int)) = decide (40 < l.length) from big_dec _ 40]
  cases l.any bigD <;> rfl
theorem getD_at {α : Type} {a : List α} {x d : α} {b : List α} : (a ++ x :: b).getD a.length d = x := by
  rw [List.getD_eq_getElem?_getD, List.getElem?_append_right (Nat.le_refl _)]; simp
instance : LawfulBEq ByteArray where
  eq_of_beq h := ba_ext (by rw [ba_beq] at h; exact eq_of_beq h)
  rfl {a} := by rw [ba_beq]; exact beq_self_eq_true _
theorem veq (a b : Val) : ((a.1 == b.1) && ((a.2.1 == b.2.1) && ((a.2.2.1 == b.2.2.1) && true))) = (a == b) := by
  obtain ⟨k, n, s, ⟨⟩⟩ := a
  obtain ⟨k', n', s', ⟨⟩⟩ := b
  rfl
theorem w14 (N : Nat) {β : Type} (x0 : Bool → Option β) (x1 : Unit → Option β) (a b : List Val) (hl : a.length = b.length) (hs : a.length ≤ 1000000) : ∀ (n k : Nat), a.length - k < n →
    W14_4 N x0 x1 n a b (k : Int) = bif (a.drop k == b.drop k) then x1 () else x0 false
  | 0, k, h => by omega
  | n + 1, k, h => by
    unfold W14_4
    by_cases hd : k < a.length
    · rw [cond_dec (by omega), cond_t (in_dec hd), cond_t (in_dec (by omega)), Int.toNat_natCast, drop_getD (d := ((0 : Int), ((0 : Int), (ByteArray.empty, ())))) hd, drop_getD (l := b) (d := ((0 : Int), ((0 : Int), (ByteArray.empty, ())))) (by omega), wi64 _ (by omega) (by omega), show ((k : Int) + 1) = ((k + 1 : Nat) : Int) by omega,
        w14 N x0 x1 a b hl hs n (k + 1) (by omega), List.cons_beq_cons, veq]
      cases (a.getD k ((0 : Int), ((0 : Int), (ByteArray.empty, ()))) == b.getD k ((0 : Int), ((0 : Int), (ByteArray.empty, ())))) <;> rfl
    · rw [cond_dec' (by omega), List.drop_eq_nil_of_le (by omega), List.drop_eq_nil_of_le (by omega)]; rfl
def fuel14 (a b : List Val) : Nat := a.length + 1
theorem plain14 (a b : List Val) (h : okSame2 a b = true) : F14 (fuel14 a b) a b = some (sameV a b, ()) := by
  simp only [okSame2, Bool.and_eq_true, decide_eq_true_eq] at h
  unfold F14 sameV
  by_cases hl : a.length = b.length
  · have hw := fun x0 x1 => w14 (β := Bool × Unit) (fuel14 a b) x0 x1 a b hl h.1 (fuel14 a b) 0 (by unfold fuel14; omega)
    rw [show ((0 : Nat) : Int) = 0 from rfl] at hw
    rw [hw, List.drop_zero, List.drop_zero, hl, bne_self_eq_false, cond_false]
    cases (a == b) <;> rfl
  · have e1 : (((a.length : Nat) : Int) != ((b.length : Nat) : Int)) = true := bne_iff_ne.2 (by omega)
    have e2 : (a == b) = false := beq_false_of_ne (fun e => hl (by rw [e]))
    rw [e1, e2]; rfl
def fuel10 (a b : State) : Nat := 0
theorem plain10 (a b : State) (h : okSS a b = true) : F10 0 a b = some (sameS a b, ()) := by
  have h' : okSame2 a.2.2.2.1 b.2.2.2.1 = true := h
  unfold F10 sameS
  rw [h', veq]
  cases (a.1 == b.1) <;> cases (a.2.1 == b.2.1) <;> cases (a.2.2.1 == b.2.2.1) <;> rfl
def fuel13 (m : Int) (d : Deed) : Nat := 0
theorem plain13 (m : Int) (d : Deed) (h : okMay m d = true) : F13 0 m d = some (mayD m d, ()) := by
  simp only [okMay, Bool.and_eq_true, decide_eq_true_eq] at h
  obtain ⟨h1, h2⟩ := h
  have h1' := h1
  simp only [okDeed, wfD, Bool.and_eq_true] at h1
  have hv : okV d.1 = true := by simp only [okV, wfD, Bool.and_eq_true]; exact h1.1
  have hf : okF m d.2.1 d.2.2.1 = true := by
    simp only [okF, okL, okVs, wfD, Bool.and_eq_true, decide_eq_true_eq]
    have := h1.2.2.1
    simp only [decide_eq_true_eq] at this
    exact ⟨this, h2⟩
  unfold F13 mayD
  rw [hv, hf]
  cases name d.1 <;> rfl
theorem takes0 (v : Val) : takes 0 v = name v := by unfold takes name; cases right v <;> cases named v <;> rfl
theorem takes2 (v : Val) : takes 2 v = name v := by unfold takes name; cases right v <;> cases named v <;> rfl
theorem fits_row {m o : Int} {args : List Val} (h : fits m o args = true) : ∃ r ∈ tbl, r.1 = m ∧ r.2.1 = o := by
  unfold fits sin at h
  cases hf : sfind m o with
  | none => rw [hf] at h; simp at h
  | some r =>
    have hh := List.find?_some hf
    simp only [hit, Bool.and_eq_true, beq_iff_eq] at hh
    exact ⟨r, tbl_in hf, hh.1, hh.2⟩
theorem sameV_self (l : List Val) : sameV l l = true := by unfold sameV; exact beq_self_eq_true _
theorem sameS_self (s : State) : sameS s s = true := by unfold sameS; rw [sameV_self]; simp
theorem okDs_mem {l : List Deed} (h : okDs l = true) {d : Deed} (hd : d ∈ l) : okDeed d = true := (wfD_sl h).2 d hd
theorem okDeed_parts {d : Deed} (h : okDeed d = true) : okV d.1 = true ∧ okVs d.2.2.1 = true := by
  simp only [okDeed, wfD, Bool.and_eq_true] at h
  exact ⟨by simp only [okV, wfD, Bool.and_eq_true]; exact h.1, by simp only [okVs, wfD, Bool.and_eq_true]; exact h.2.2.1⟩
theorem take_at {α : Type} {l : List α} {d : α} {i : Nat} (h : i < l.length) : l.take (i + 1) = l.take i ++ [l.getD i d] := by
  rw [List.getD_eq_getElem?_getD, List.getElem?_eq_getElem h, Option.getD_some, List.take_append_getElem]

/-! Registers -/
def fuel54 (a : Int) : Nat := 0
theorem plain54 (a : Int) (_ : true = true) : F54 0 a = some (false, ()) := by
  unfold F54
  first | rfl | (rw [bne_self_eq_false])
def fuel55 (a : Int) : Nat := 0
theorem plain55 (a : Int) (_ : true = true) : F55 0 a = some (false, ()) := by
  unfold F55
  first | rfl | (rw [bne_self_eq_false])
def fuel45 (a b : Int) : Nat := 0
theorem plain45 (a b : Int) (_ : true = true) : F45 0 a b = some (cmpI a b, ()) := by
  unfold F45 cmpI
  cases decide (a < b) <;> cases decide (a > b) <;> rfl
def fuel46 (a b : Int) : Nat := 0
theorem plain46 (a b : Int) (_ : true = true) : F46 0 a b = some (cmpI a b, ()) := by
  unfold F46 cmpI
  cases decide (a < b) <;> cases decide (a > b) <;> rfl
theorem w44 (N : Nat) {β : Type} (x0 x1 : Int → Option β) (l : List Int) (hs : l.length ≤ 1000) (hx : x0 = x1) : ∀ (n k : Nat), l.length - k < n →
    W44_3 N x0 x1 n 0 l (l.length : Int) (k : Int) = x1 (orI (l.drop k))
  | 0, k, h => by omega
  | n + 1, k, h => by
    unfold W44_3
    by_cases hd : k < l.length
    · rw [cond_dec (by omega), cond_t (in_dec hd), Int.toNat_natCast, drop_getD (d := 0) hd, wi64 _ (by omega) (by omega), show ((k : Int) + 1) = ((k + 1 : Nat) : Int) by omega, w44 N x0 x1 l hs hx n (k + 1) (by omega), orI, hx]
      cases (l.getD k 0 != 0) <;> rfl
    · rw [cond_dec' (by omega), List.drop_eq_nil_of_le (by omega)]; rfl
def fuel44 (l : List Int) : Nat := l.length + 1
theorem plain44 (l : List Int) (h : okOr l = true) : F44 (fuel44 l) l = some (orI l, ()) := by
  have hs : l.length ≤ 1000 := of_decide_eq_true h
  have hw := w44 (β := Int × Unit) (fuel44 l) (fun t => some (t, ())) (fun t => some (t, ())) l hs rfl (fuel44 l) 0 (by unfold fuel44; omega)
  rw [show ((0 : Nat) : Int) = 0 from rfl, List.drop_zero] at hw
  exact hw
def fuel47 (a b : ByteArray) : Nat := 0
theorem plain47 (a b : ByteArray) (_ : true = true) : F47 0 a b = some (cmpS a b, ()) := rfl
def fuel34 (a b : Val) : Nat := 0
theorem plain34 (a b : Val) (_ : true = true) : F34 0 a b = some (cmpV a b, ()) := rfl
def fuel17 (a b : Val) : Nat := 0
theorem plain17 (a b : Val) (_ : true = true) : F17 0 a b = some (lessV a b, ()) := by
  unfold F17 lessV
  cases (a.1 != b.1) <;> cases (a.2.1 != b.2.1) <;> rfl
theorem b0 {n : Nat} (h : 1 ≤ n) : (decide ((0 : Int) ≤ 0) && decide ((0 : Int) < (n : Int))) = true := by simp; omega
theorem b1 {n : Nat} (h : 2 ≤ n) : (decide ((0 : Int) ≤ 1) && decide ((1 : Int) < (n : Int))) = true := by simp; omega
theorem regNew_ok (m : Int) : (regNew m).2.1 = regOwn m := by
  unfold regNew
  cases regOwn m <;> rfl
theorem fits_row' {m o : Int} {args : List Val} (h : fits m o args = true) : ∃ r ∈ tbl, r.1 = m ∧ r.2.1 = o ∧ args.length = r.2.2.1.data.toList.length := by
  unfold fits sin at h
  cases hf : sfind m o with
  | none => rw [hf] at h; simp at h
  | some r =>
    have hh := List.find?_some hf
    simp only [hit, Bool.and_eq_true, beq_iff_eq] at hh
    rw [hf] at h
    have := takesAll_len (show takesAll (r.2.2.1.data.toList.map dom8) args = true from h)
    rw [List.length_map] at this
    exact ⟨r, tbl_in hf, hh.1, hh.2, this.symm⟩
theorem ops_reg {m o : Int} {args : List Val} (hm : regOwn m = true) (h : fits m o args = true) : (o = 1 ∧ args.length = 1) ∨ (o = 2 ∧ args.length = 0) ∨ (o = 3 ∧ args.length = 2) := by
  obtain ⟨r, hr, rfl, rfl, hl⟩ := fits_row' h
  have : (tbl.all fun r => !(regOwn r.1) || ((r.2.1 == 1 && r.2.2.1.data.toList.length == 1) || ((r.2.1 == 2 && r.2.2.1.data.toList.length == 0) || (r.2.1 == 3 && r.2.2.1.data.toList.length == 2)))) = true := by decide +kernel
  have := List.all_eq_true.1 this r hr
  simp only [hm, Bool.not_true, Bool.false_or, Bool.or_eq_true, Bool.and_eq_true, beq_iff_eq] at this
  rw [hl]
  exact this
theorem okRPast_iff {m : Int} {past : List Deed} : okRPast m past = true ↔ past.length ≤ 1000 ∧ ∀ d ∈ past, okRDeed d = true := by
  simp only [okRPast, Bool.and_eq_true, decide_eq_true_eq, List.all_eq_true]

end Go.L17
