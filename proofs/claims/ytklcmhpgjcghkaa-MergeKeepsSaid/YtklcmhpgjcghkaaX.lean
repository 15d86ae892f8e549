/- Own text of this session: a part of the proof; no condition of its own. -/
import Derived.Test.YtklcmhpgjcghkaaV
set_option linter.unusedVariables false
set_option linter.unusedSimpArgs false
set_option maxRecDepth 100000
namespace Go.L23a
open Go Go.Abs Go.Inc
def fuel3 (ops : List OpD) (a : List (List Int)) : Nat := a.flatten.length + 100
theorem mid0 (ops : List OpD) (a : List (List Int)) : Mid ops a a [] :=
  ⟨rfl, fun j _ => ⟨[], rfl, List.Sublist.refl _⟩, by simp, (fun x hx => nomatch hx), List.Pairwise.nil, (fun x hx => nomatch hx)⟩
theorem plain3 (ops : List OpD) (a : List (List Int)) (_ : okMerge ops a = true) : F3 (fuel3 ops a) ops a = some (true, ()) := by
  unfold F3
  by_cases h1 : ((ops.length : Nat) : Int) > 40
  · rw [cond_dec h1]
  · by_cases h2 : ((a.length : Nat) : Int) > 20
    · rw [cond_dec' h1, cond_dec h2]
    · rw [cond_dec' h1, cond_dec' h2]
      refine w3_7 (fuel3 ops a) (fun t4 => some (t4, ())) _ (some (true, ())) rfl ops a (by omega) (fun h60 => ?_) (fuel3 ops a) 0 (by unfold fuel3; omega) (by simp) (by omega)
      have h1000 : ∀ l ∈ a, l.length ≤ 1000 := fun l hl => Nat.le_trans (h60 l hl) (by omega)
      have hfl := flat_len a h1000
      have hok : okAll ops a = true := by
        simp only [okAll, Bool.and_eq_true, decide_eq_true_eq]
        exact ⟨by omega, okApart_iff.2 ⟨by omega, by omega, h1000⟩⟩
      show (bif okAll ops a then _ else _) = _
      rw [hok, cond_true]
      unfold mergeAll
      cases hap : apartGo (ops.length : Int) a with
      | false => rfl
      | true =>
        simp only [cond_true]
        have hin : ∀ x ∈ a.flatten, inO ops x = true := fun x hx => by
          have := apartL_in _ _ _ hap x hx
          rw [Int.toNat_natCast] at this
          simp only [inO, Bool.and_eq_true, decide_eq_true_eq]; exact this
        rcases mergeGo_ok ops a (a.flatten.length + 1) a [] (mid0 ops a) with ⟨e1, e2⟩ | ⟨e1, left', e2, hm⟩
        · rw [e1, e2]; rfl
        · rw [e1]
          generalize (mergeGo ops (a.flatten.length + 1) a []).1 = out at hm
          have hlen : out.length = a.flatten.length := by have := hm.sum; rw [e2] at this; simpa using this
          have hsub : ∀ l ∈ a, List.Sublist l out := fun l hl => by
            obtain ⟨j, hj, rfl⟩ := List.getElem_of_mem hl
            obtain ⟨t, e, hs⟩ := hm.cut j hj
            have hl' : left'.getD j [] = [] := by
              have hj' : j < left'.length := by rw [hm.len]; exact hj
              exact List.flatten_eq_nil_iff.1 e2 _ (getD_mem hj')
            rw [hl', List.append_nil, List.getD_eq_getElem?_getD, List.getElem?_eq_getElem hj, Option.getD_some] at e
            rw [e]; exact hs
          simp only [Bool.not_true, cond_false]
          refine Eq.trans (w3_17 (fuel3 ops a) _ _ ops _ out a (by omega) (by unfold fuel3; omega) (by omega) h1000 hsub (fuel3 ops a) 0 (by unfold fuel3; omega)) ?_
          refine Eq.trans (w3_30 (fuel3 ops a) _ _ ops _ out (by omega) (by unfold fuel3; omega) (fun x hx => hin x (hm.mem x hx)) hm.pair (fuel3 ops a) 0 (by unfold fuel3; omega)) ?_
          rw [hlen, beq_self_eq_true]

end Go.L23a
