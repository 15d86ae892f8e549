/- The abstract machine, part 27: the comparison of texts. Own text of this session. -/
import Derived.Test.YtkkkjcpfahhhpaaDoorAbs26
import Derived.Lib.Bytealg
import Derived.Lib.Walk
import Derived.Laws.Externs
set_option linter.unusedVariables false
namespace Go.Abs
open Go Go.RowKit

/-- How two texts stand. -/
def cmpS (a b : ByteArray) : Int := Lib.compareBytes a.data.toList b.data.toList

theorem spec_cmp {P : Program} {gl : List (Nat × AVal)} {f : Nat}
    (h : ∀ (a b : ByteArray) (w : World), Calls P f #[.string a, .string b] w fun e w' => e = .returned (.int .i64 (Lib.compareBytes a.data.toList b.data.toList)) ∧ w' = w) :
    SpecOK P gl f { ta := .pr .str (.pr .str .un), tr := .pr (.int .i64) .un, multi := false, pre := fun x => true, val := fun x => (cmpS x.1 x.2.1, ()) } := by
  intro V w x vs _ hg hv hr
  obtain ⟨a, b, u⟩ := x
  obtain ⟨v1, r1, rfl, h1, r2⟩ := hr
  obtain ⟨v2, r3, rfl, h2, r4⟩ := r2
  have e1 : [v1] = [Value.string a] := h1
  have e2 : [v2] = [Value.string b] := h2
  have e3 : r3 = [] := r4
  cases e1; cases e2; subst e3
  refine Calls.mono (h a b w) ?_
  rintro e w' ⟨rfl, rfl⟩
  exact ⟨_, V, rfl, hv, VLe.refl _, fun _ _ _ => rfl, rfl, Below.refl _ _⟩
end Go.Abs
