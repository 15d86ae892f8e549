/- What the program's inner parts say, in plain words: values, words, signs. Own text of this session. -/
import Derived.Test.YtkkkjcpfahhhpaaDoorNum
set_option linter.unusedVariables false
namespace Go.Inc
open Go Go.Abs

@[reducible] def VT : Ty := .pr (.int .i64) (.pr (.int .i64) (.pr .str .un))
abbrev Val : Type := Int × (Int × (ByteArray × Unit))
def okV (v : Val) : Bool := wfD VT v
def okVs (l : List Val) : Bool := wfD (.sl VT) l
def okI (n : Int) : Bool := wfD (.int .i64) n
def okIs (l : List Int) : Bool := wfD (.sl (.int .i64)) l
def okS (s : ByteArray) : Bool := wfD .str s

def strL (l : List UInt8) : ByteArray := ⟨l.toArray⟩
def lower (c : UInt8) : Bool := decide (97 ≤ c.toNat ∧ c.toNat ≤ 122)
def wordc (c : UInt8) : Bool := lower c || (decide (48 ≤ c.toNat ∧ c.toNat ≤ 57) || decide (c.toNat = 95))
def isWordL : List UInt8 → Bool
  | [] => false
  | c :: l => decide (l.length + 1 ≤ 40) && (lower c && l.all wordc)
def isWord (s : ByteArray) : Bool := isWordL s.data.toList
def emp (s : ByteArray) : Bool := decide (s.size = 0)
def none' : Val := (0, 0, ByteArray.empty, ())
def right (v : Val) : Bool := (v.1 == 0 && (v.2.1 == 0 && emp v.2.2.1)) || ((v.1 == 1 && emp v.2.2.1) || ((v.1 == 2 && (v.2.1 == 0 && isWord v.2.2.1)) || (v.1 == 3 && ((v.2.1 == 0 || v.2.1 == 1) && emp v.2.2.1))))
def named (v : Val) : Bool := v.1 == 1 || v.1 == 2
def name (v : Val) : Bool := right v && named v
def takes (d : Int) (v : Val) : Bool := right v && ((decide (0 ≤ d ∧ d ≤ 4) && named v) || ((d == 5 && v.1 == 1) || (d == 6 && v.1 == 3)))

/-- A sign: model, what is done, what is handed in (a letter each), what comes out, may it be nothing. -/
abbrev Row : Type := Int × (Int × (ByteArray × (Int × (Bool × Unit))))
def row (m o : Int) (s : List UInt8) (out : Int) (may : Bool) : Row := (m, o, ⟨s.toArray⟩, out, may, ())
def tbl : List Row := [row 1 1 [118] (-1) false, row 1 2 [] 2 true, row 2 1 [118] (-1) false, row 2 2 [] 2 true, row 2 3 [118, 118] 6 false, row 3 4 [118] (-1) false, row 3 5 [118] (-1) false, row 3 6 [118] 6 false,
  row 4 7 [102, 118] (-1) false, row 4 8 [102] 2 true, row 4 5 [102] (-1) false, row 5 9 [118] (-1) false, row 5 10 [] 2 true, row 6 9 [118] (-1) false, row 6 10 [] 2 true, row 7 11 [] 6 false, row 7 12 [] 6 false,
  row 8 4 [110] (-1) false, row 8 2 [] 5 false, row 9 1 [111] (-1) false, row 9 2 [] 4 true, row 10 7 [111, 118] (-1) false, row 10 5 [111] (-1) false, row 10 13 [111, 111] 99 false]
def hit (m o : Int) (r : Row) : Bool := r.1 == m && r.2.1 == o
def hitA (a b : Int) (_ : ByteArray) (_ : Int) (_ : Bool) (m o : Int) : Bool := a == m && b == o
def sfind (m o : Int) : Option Row := tbl.find? (hit m o)
def domain (c : Int) : Int := bif c == 118 then 2 else bif c == 102 then 3 else bif c == 111 then 4 else 5
def dom8 (c : UInt8) : Int := domain (c.toNat : Int)
def sin (m o : Int) : Option (List Int) := (sfind m o).map fun r => r.2.2.1.data.toList.map dom8
def takesAll : List Int → List Val → Bool
  | [], [] => true
  | d :: ds, v :: vs => takes d v && takesAll ds vs
  | _, _ => false
def fits (m o : Int) (args : List Val) : Bool := match sin m o with | some ds => takesAll ds args | none => false
/-- The domains of pairs. -/
def dpair (i : Nat) : Int := if i % 2 = 1 then 2 else 4
def pairs : Nat → List Val → Option (List Int)
  | _, [] => some []
  | i, v :: l => bif takes (dpair i) v then (pairs (i + 1) l).map (dpair i :: ·) else none
def signOuts (m o : Int) (out : List Val) : List Int × Bool := match sfind m o with
  | none => ([], false)
  | some r => bif decide (r.2.2.2.1 < 0) then ([], out.isEmpty) else bif r.2.2.2.1 == 99 then
      (bif decide (out.length % 2 = 0) then match pairs 0 out with | some l => (l, true) | none => ([], false) else ([], false))
    else match out with
      | [v] => bif takes r.2.2.2.1 v || (r.2.2.2.2.1 && v == none') then ([r.2.2.2.1], true) else ([], false)
      | _ => ([], false)

/-! ### What the Go functions tell -/
def letterGo (c : Int) (b : Bool) : Bool := decide (97 ≤ c ∧ c ≤ 122) || (!b && (decide (c = 95) || decide (48 ≤ c ∧ c ≤ 57)))
def ok8 (c : Int) (_ : Bool) : Bool := wfD (.int .u8) c
def okT (_ : Int) (v : Val) : Bool := okV v
def okSame (a b : List Int) : Bool := okIs a && okIs b
def okL (l : List Val) : Bool := okVs l && decide (l.length ≤ 1000)
def okF (_ _ : Int) (l : List Val) : Bool := okL l
def okX (l : List Row) (_ _ : Int) : Bool := decide (l.length ≤ 1000)
def okD (d : Int × (Int × (List Val × Unit))) : Bool := okVs d.2.2.1
def eqL (a b : List Int) : Bool := a == b
def findGo (m o : Int) : Row × (Bool × Unit) := match sfind m o with | some r => (r, true, ()) | none => ((0, 0, ByteArray.empty, 0, false, ()), false, ())
def idxR (l : List Row) (m o : Int) : Int := match l.findIdx? (hit m o) with | some i => (i : Int) | none => -1
def argsGo (m o : Int) : List Int × (Bool × Unit) := match sin m o with | some l => (l, true, ()) | none => ([], false, ())
def outsGo (m o : Int) (out : List Val) : List Int × (Bool × Unit) := ((signOuts m o out).1, (signOuts m o out).2, ())
def pairedGo (out : List Val) : List Int × (Bool × Unit) := bif decide (out.length % 2 = 0) then match pairs 0 out with | some l => (l, true, ()) | none => ([], false, ()) else ([], false, ())
/-- The document's table. -/
abbrev Sign : Type := List Int × (Int × (Bool × (Bool × Unit)))
def signRef (m o : Int) : Sign := match sfind m o with | some r => (r.2.2.1.data.toList.map dom8, r.2.2.2.1, r.2.2.2.2.1, true, ()) | none => ([], 0, false, false, ())
def modelName (n : Int) : ByteArray := match n with
  | 1 => strL [114, 101, 103] | 2 => strL [99, 97, 115] | 3 => strL [115, 101, 116] | 4 => strL [109, 97, 112] | 5 => strL [102, 105, 102, 111] | 6 => strL [115, 116, 97, 99, 107]
  | 7 => strL [108, 111, 99, 107] | 8 => strL [99, 111, 117, 110, 116] | 9 => strL [109, 97, 120] | 10 => strL [111, 109, 97, 112] | _ => strL []
def opName (n : Int) : ByteArray := match n with
  | 1 => strL [119, 114, 105, 116, 101] | 2 => strL [114, 101, 97, 100] | 3 => strL [115, 119, 97, 112] | 4 => strL [97, 100, 100] | 5 => strL [100, 101, 108] | 6 => strL [104, 97, 115] | 7 => strL [112, 117, 116] | 8 => strL [103, 101, 116]
  | 9 => strL [112, 117, 115, 104] | 10 => strL [112, 111, 112] | 11 => strL [116, 97, 107, 101] | 12 => strL [102, 114, 101, 101] | 13 => strL [115, 99, 97, 110] | _ => strL []

/-! ### Texts -/
theorem loop_eq (a : ByteArray) : ∀ (n i : Nat) (r : List UInt8), n = a.size - i → ByteArray.toList.loop a i r = r.reverse ++ a.data.toList.drop i := by
  intro n
  induction n with
  | zero =>
    intro i r h
    unfold ByteArray.toList.loop
    rw [if_neg (by omega), List.drop_eq_nil_of_le (by show a.data.toList.length ≤ i; rw [Array.length_toList]; show a.size ≤ i; omega)]
    simp
  | succ n ih =>
    intro i r h
    unfold ByteArray.toList.loop
    have hi : i < a.size := by omega
    rw [if_pos hi, ih (i + 1) _ (by omega)]
    have hl : i < a.data.toList.length := by rw [Array.length_toList]; exact hi
    rw [List.drop_eq_getElem_cons hl]
    have hg : a.get! i = a.data.toList[i] := by
      show a.data[i]! = _
      rw [getElem!_pos a.data i hi, Array.getElem_toList]
    rw [hg]; simp
theorem toList_eq (a : ByteArray) : a.toList = a.data.toList := by
  unfold ByteArray.toList
  rw [loop_eq a _ 0 [] rfl]; simp
theorem strL_data (l : List UInt8) : (strL l).data.toList = l := rfl
theorem ba_ext {a b : ByteArray} (h : a.data.toList = b.data.toList) : a = b := by
  cases a; cases b; simp only [ByteArray.mk.injEq]; exact Array.ext' h
theorem app_data (a b : ByteArray) : (a ++ b).data.toList = a.data.toList ++ b.data.toList := by simp
theorem size_eq (a : ByteArray) : a.size = a.data.toList.length := by rw [Array.length_toList]; rfl
theorem eqs (a : ByteArray) (l : List UInt8) : (ByteArray.toList a == ByteArray.toList (strL l)) = (a.data.toList == l) := by rw [toList_eq, toList_eq, strL_data]
theorem ba_beq (a b : ByteArray) : (a == b) = (a.data.toList == b.data.toList) := by
  have h : (a == b) = (a.data == b.data) := by cases a; cases b; rfl
  rw [h, Bool.eq_iff_iff]
  simp only [beq_iff_eq]
  exact ⟨fun h => by rw [h], fun h => Array.ext' h⟩
theorem eq_empty (a : ByteArray) : (a == ByteArray.empty) = emp a := by
  rw [ba_beq, Bool.eq_iff_iff]
  simp only [beq_iff_eq, emp, decide_eq_true_eq, size_eq]
  exact ⟨fun h => by rw [h]; rfl, fun h => List.eq_nil_of_length_eq_zero h⟩
theorem eqs_nil (a : ByteArray) : (ByteArray.toList a == ByteArray.toList (strL [])) = emp a := by
  rw [eqs, Bool.eq_iff_iff]
  simp only [beq_iff_eq, emp, decide_eq_true_eq, size_eq]
  exact ⟨fun h => by rw [h]; rfl, fun h => List.eq_nil_of_length_eq_zero h⟩
theorem emp_iff {a : ByteArray} : emp a = true ↔ a = ByteArray.empty := by
  rw [← eq_empty, ba_beq, beq_iff_eq]
  exact ⟨fun h => ba_ext h, fun h => by rw [h]⟩

/-! ### What fits -/
theorem okI_iff {n : Int} : okI n = true ↔ -9223372036854775808 ≤ n ∧ n ≤ 9223372036854775807 := by simp [okI, wfD, wf_i64]
theorem okS_iff {s : ByteArray} : okS s = true ↔ s.size ≤ maxLen := by simp [okS, wfD]
theorem okV_iff {v : Val} : okV v = true ↔ okI v.1 = true ∧ okI v.2.1 = true ∧ okS v.2.2.1 = true := by
  simp [okV, okI, okS, wfD]
theorem okVs_iff {l : List Val} : okVs l = true ↔ l.length ≤ maxLen ∧ ∀ v ∈ l, okV v = true := by
  simp only [okVs, okV, wfD, Bool.and_eq_true, decide_eq_true_eq, List.all_eq_true]
theorem okIs_iff {l : List Int} : okIs l = true ↔ l.length ≤ maxLen ∧ ∀ v ∈ l, okI v = true := by
  simp only [okIs, okI, wfD, Bool.and_eq_true, decide_eq_true_eq, List.all_eq_true]
theorem maxLen_eq : maxLen = 140737488351232 ∨ maxLen ≤ 9223372036854775807 := .inr maxLen_le
theorem getD_mem {α : Type} {l : List α} {d : α} {i : Nat} (h : i < l.length) : l.getD i d ∈ l := by
  rw [List.getD_eq_getElem?_getD, List.getElem?_eq_getElem h]; exact List.getElem_mem h
theorem drop_getD {α : Type} {l : List α} {d : α} {i : Nat} (h : i < l.length) : l.drop i = l.getD i d :: l.drop (i + 1) := by
  rw [List.getD_eq_getElem?_getD, List.getElem?_eq_getElem h, Option.getD_some]; exact List.drop_eq_getElem_cons h
theorem in_dec {i n : Nat} (h : i < n) : (decide ((0 : Int) ≤ (i : Int)) && decide ((i : Int) < (n : Int))) = true := by simp; omega
theorem cond_dec {α : Sort _} {p : Prop} [Decidable p] (h : p) (a b : α) : (bif decide p then a else b) = a := by rw [decide_eq_true h]; rfl
theorem cond_dec' {α : Sort _} {p : Prop} [Decidable p] (h : ¬ p) (a b : α) : (bif decide p then a else b) = b := by rw [decide_eq_false h]; rfl
theorem cond_t {α : Sort _} {c : Bool} (h : c = true) (a b : α) : (bif c then a else b) = a := by rw [h]; rfl
theorem cond_f {α : Sort _} {c : Bool} (h : c = false) (a b : α) : (bif c then a else b) = b := by rw [h]; rfl
end Go.Inc
