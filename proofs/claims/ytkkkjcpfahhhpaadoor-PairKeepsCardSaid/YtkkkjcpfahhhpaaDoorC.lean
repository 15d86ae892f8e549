/- The contract of strings.Contains at one byte, off the shelf. Own text of this session. -/
import Derived.Test.YtkkkjcpfahhhpaaDoorW0
import Derived.Shelf.Lay
import Derived.Lib.IndexAny
import Derived.Shelf.Strings.Search1
import Derived.Shelf.Strings.Search2
import Derived.Shelf.Strings.Search3
import Derived.Shelf.LaysM
import Derived.Shelf.Strings.Shaped
namespace Go.Proofs
open Go.Shelf
shelf_lay Lays.n144 Nm 144 at Tryd as Tryd.lays144
end Go.Proofs
namespace Go.K12
open Go Go.RowKit Go.Abs Go.Inc Go.Shelf
theorem idx_has (c : UInt8) (l : List UInt8) : decide (0 ≤ Lib.indexByte l c) = l.any fun x => (x.toNat : Int) == (c.toNat : Int) := by
  rw [← Lib.contains_iff_indexByte, List.contains_eq_any_beq]
  congr 1
  funext x
  rw [Bool.eq_iff_iff]
  simp only [beq_iff_eq]
  exact ⟨fun h => by rw [h], fun h => (UInt8.toNat_inj.1 (by omega)).symm⟩
theorem ok50 {gl : List (Nat × AVal)} : SpecOK Go.Proofs.Tryd.prog gl 50 S50 := by
  intro V w x vs hpre hg hv hr
  obtain ⟨s, sub, ⟨⟩⟩ := x
  have h1 : sub.size = 1 := of_decide_eq_true hpre
  obtain ⟨v1, r1, rfl, e1, v2, r2, rfl, e2, e3⟩ := hr
  cases e1; cases e2; cases e3
  obtain ⟨c, rfl⟩ : ∃ c : UInt8, sub = ⟨#[c]⟩ := by
    obtain ⟨⟨l⟩⟩ := sub
    match l, h1 with
    | [c], _ => exact ⟨c, rfl⟩
  refine (Go.Proofs.Any.strings_Contains_one Go.Proofs.Tryd.lays144 s c w).mono ?_
  rintro e w' ⟨rfl, rfl⟩
  refine ⟨_, V, rfl, hv, VLe.refl _, fun _ _ _ => rfl, ?_, Below.refl _ _⟩
  show [_] = [Value.bool (containsOne s ⟨#[c]⟩)]
  rw [idx_has]
  rfl
end Go.K12
