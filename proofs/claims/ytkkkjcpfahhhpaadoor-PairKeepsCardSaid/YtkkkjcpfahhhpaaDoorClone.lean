/- A copy of a slice, as plain data. Own text of this session. -/
import Derived.Test.YtkkkjcpfahhhpaaDoorAbs25
set_option linter.unusedVariables false
namespace Go.Abs
open Go Go.RowKit
theorem spec_clone {P : Program} {gl : List (Nat × AVal)} {f : Nat} {t : Ty} {eb : Nat} {pre : List t.den × Unit → Bool} (h : CloneOK P gl f t eb) (hp : ∀ x, pre x = true → List.length x.1 * eb ≤ 140737488351232) :
    SpecOK P gl f { ta := .pr (.sl t) .un, tr := .pr (.sl t) .un, multi := false, pre := pre, val := fun x => (x.1, ()) } := by
  intro V w x vs hpre hg hv hr
  obtain ⟨xs, ⟨⟩⟩ := x
  obtain ⟨v, r, rfl, hr1, hr2⟩ := hr
  obtain rfl : r = [] := hr2
  refine (h V w xs v hg hv hr1 (hp _ hpre)).mono ?_
  rintro e w' ⟨ad, c, V', rfl, hb, hle, hv', hle', hold, hc⟩
  rcases hc with h0 | ⟨bl, cs, E, hc0, rfl, hbl, hh, ⟨c1, c2, q1, q2, q3⟩, hsz, hnone⟩
  · have hx : xs = [] := List.eq_nil_of_length_eq_zero (by omega)
    subst hx
    exact ⟨_, V', rfl, hv', hle', hold, ⟨⟨ad, c, [], rfl, hle, rfl, fun j v e => by simp at e⟩, fun _ _ => trivial⟩, hb⟩
  · have hV : VLe V' (visB V' bl cs) := fun b o v e => by
      show (if _ then _ else _) = _
      by_cases hb' : b = bl
      · subst hb'; rw [hnone] at e; cases e
      · rw [if_neg hb']; exact e
    refine ⟨_, visB V' bl cs, rfl, fun b o v e => ?_, hle'.trans hV, fun b o hlt => ?_, ⟨⟨some ⟨bl, 0, none⟩, c, c1, rfl, hle, q2.imp (fun _ _ r => RepT.mono hV r), fun j v e => ⟨bl, 0, rfl, ?_⟩⟩, fun _ _ => trivial⟩, hb⟩
    · have e' : (if b = bl then cs[o]? else V' b o) = some v := e
      split at e'
      · rename_i hb'; subst hb'
        rw [cell_of_row w' b o cs E (0, 0) hh]; exact e'
      · exact hv' b o v e'
    · show (if _ then _ else _) = _
      rw [if_neg (by omega)]; exact hold b o hlt
    · show (if _ then _ else _) = _
      rw [if_pos rfl, Nat.zero_add, ← Array.getElem?_toList, q1]
      exact getElem?_append_some e
end Go.Abs
