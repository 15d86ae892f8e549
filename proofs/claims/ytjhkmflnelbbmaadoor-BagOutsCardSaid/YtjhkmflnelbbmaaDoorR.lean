/- Own text of this session: a part of the proof; no condition of its own. -/
import Derived.Test.YtjhkmflnelbbmaaDoorQ
set_option linter.unusedVariables false
set_option linter.unusedSimpArgs false
set_option maxRecDepth 100000
namespace Go.L14
open Go Go.Abs Go.Inc
/-! The document's table -/
def q' (m o : Int) (l : List UInt8) : Bool := (modelName m).data.toList ++ [32] ++ (opName o).data.toList == l
theorem q12_eq : q44 = q' := by
  funext m o l
  unfold q44 q'
  rw [eqs, app_data, app_data]; rfl
theorem modelName_out {m : Int} (h : m < 1 ∨ 10 < m) : modelName m = strL [] := by
  unfold modelName
  split <;> first | rfl | omega
theorem opName_out {o : Int} (h : o < 1 ∨ 13 < o) : opName o = strL [] := by
  unfold opName
  split <;> first | rfl | omega
theorem ref_none {m o : Int} (h : (m < 1 ∨ 10 < m) ∨ (o < 1 ∨ 13 < o)) : sfind m o = none := by
  unfold sfind
  rw [List.find?_eq_none]
  intro r hr
  have hb : ∀ r ∈ tbl, 1 ≤ r.1 ∧ r.1 ≤ 10 ∧ 1 ≤ r.2.1 ∧ r.2.1 ≤ 13 := by
    have : (tbl.all fun r => decide (1 ≤ r.1 ∧ r.1 ≤ 10 ∧ 1 ≤ r.2.1 ∧ r.2.1 ≤ 13)) = true := by decide +kernel
    simpa [List.all_eq_true] using this
  have := hb r hr
  unfold hit
  simp only [Bool.and_eq_true, beq_iff_eq]
  omega

theorem ref_in : ∀ m ∈ [(0 : Int), 1, 2, 3, 4, 5, 6, 7, 8, 9, 10], ∀ o ∈ [(0 : Int), 1, 2, 3, 4, 5, 6, 7, 8, 9, 10, 11, 12, 13], F44q q' m o = some (signRef m o, ()) := by
  intro m hm
  simp only [List.mem_cons, List.not_mem_nil, or_false] at hm
  rcases hm with rfl | rfl | rfl | rfl | rfl | rfl | rfl | rfl | rfl | rfl | rfl
  all_goals
    intro o ho
    simp only [List.mem_cons, List.not_mem_nil, or_false] at ho
    rcases ho with rfl | rfl | rfl | rfl | rfl | rfl | rfl | rfl | rfl | rfl | rfl | rfl | rfl | rfl <;> kernel_rfl

theorem ref_m {m : Int} (h : m < 1 ∨ 10 < m) (o : Int) : F44q q' m o = F44q q' 0 o := by
  have e1 := modelName_out h
  have e0 : modelName 0 = strL [] := rfl
  unfold F44q q'
  rw [e1, e0]
theorem ref_o {o : Int} (h : o < 1 ∨ 13 < o) (m : Int) : F44q q' m o = F44q q' m 0 := by
  have e1 := opName_out h
  have e0 : opName 0 = strL [] := rfl
  unfold F44q q'
  rw [e1, e0]
def fuel44 (m o : Int) : Nat := 0
theorem plain44 (m o : Int) (_ : true = true) : F44 0 m o = some (signRef m o, ()) := by
  unfold F44
  rw [q12_eq]
  have hz : ∀ {m o : Int}, (m < 1 ∨ 10 < m) ∨ (o < 1 ∨ 13 < o) → signRef m o = signRef 0 0 := fun h => by
    unfold signRef; rw [ref_none h, ref_none (m := 0) (o := 0) (.inl (.inl (by decide)))]
  by_cases hm : m < 1 ∨ 10 < m
  · rw [ref_m hm, hz (.inl hm)]
    by_cases ho : o < 1 ∨ 13 < o
    · rw [ref_o ho]; exact ref_in 0 (by simp) 0 (by simp)
    · rw [ref_in 0 (by simp) o (by simp; omega), hz (.inl (.inl (by decide)))]
  · by_cases ho : o < 1 ∨ 13 < o
    · rw [ref_o ho, ref_in m (by simp; omega) 0 (by simp), hz (.inr (.inl (by decide))), hz (.inr ho)]
    · exact ref_in m (by simp; omega) o (by simp; omega)

theorem dom8_ok (c : UInt8) : okI (dom8 c) = true := by
  rw [okI_iff]; unfold dom8 domain
  cases ((c.toNat : Int) == 118) <;> cases ((c.toNat : Int) == 102) <;> cases ((c.toNat : Int) == 111) <;> simp
theorem okIs_short {l : List Int} (h : l.length ≤ 1000) (h2 : ∀ v ∈ l, okI v = true) : okIs l = true := by
  rw [okIs_iff]
  have : (1000 : Nat) ≤ maxLen := by decide
  exact ⟨by omega, h2⟩
theorem signRef_ok (m o : Int) : okIs (signRef m o).1 = true := by
  unfold signRef
  cases h : sfind m o with
  | none => rfl
  | some r =>
    have hz := tbl_size r (tbl_in h)
    rw [size_eq] at hz
    refine okIs_short (by simp only [List.length_map]; omega) (fun v hv => ?_)
    obtain ⟨c, _, rfl⟩ := List.mem_map.1 hv
    exact dom8_ok c
theorem pairs_ok : ∀ {l : List Val} {k : Nat} {r : List Int}, pairs k l = some r → ∀ v ∈ r, okI v = true
  | [], k, r, h, v, hv => by cases h; cases hv
  | x :: l, k, r, h, v, hv => by
    simp only [pairs] at h
    cases ht : takes (dpair k) x with
    | false => rw [ht] at h; cases h
    | true =>
      rw [ht, cond_true, Option.map_eq_some_iff] at h
      obtain ⟨t, h1, rfl⟩ := h
      rcases List.mem_cons.1 hv with rfl | hv
      · unfold dpair; split <;> rfl
      · exact pairs_ok h1 v hv
theorem signOuts_ok (m o : Int) (l : List Val) (hl : l.length ≤ 1000) : okIs (signOuts m o l).1 = true := by
  unfold signOuts
  cases h : sfind m o with
  | none => rfl
  | some r =>
    simp only
    cases decide (r.2.2.2.1 < 0) with
    | true => rfl
    | false =>
      simp only [cond_false]
      cases (r.2.2.2.1 == 99) with
      | true =>
        simp only [cond_true]
        cases decide (l.length % 2 = 0) with
        | false => rfl
        | true =>
          simp only [cond_true]
          cases hp : pairs 0 l with
          | none => rfl
          | some t => exact okIs_short (by rw [pairs_len hp]; exact hl) (pairs_ok hp)
      | false =>
        simp only [cond_false]
        split
        · rename_i v
          cases (takes r.2.2.2.1 v || (r.2.2.2.2.1 && v == none')) with
          | false => rfl
          | true =>
            refine okIs_short (by simp) (fun x hx => ?_)
            simp only [cond_true, List.mem_cons, List.not_mem_nil, or_false] at hx
            subst hx
            rw [okI_iff]
            have := tbl_out r (tbl_in h)
            omega
        · rfl

/-! The statements -/

end Go.L14
