/- The contract of strings.Contains at one byte, off the shelf. Own text of this session. -/
import Derived.Test.YtkkkjcpfahhhpaaDoorW0
import Derived.Lib.IndexAny
import Derived.Shelf.Strings.Search1
import Derived.Shelf.Strings.Search2
import Derived.Shelf.Strings.Search3
import Derived.Shelf.LaysM
import Derived.Shelf.Strings.Shaped
namespace Go.Proofs
open Go.Shelf
def Tryd.lays144_ren : Go.Shelf.Ren := ⟨fun | 144 => 50 | 143 => 56 | 219 => 57 | 217 => 58 | 225 => 59 | 224 => 60 | 267 => 61 | 266 => 62 | 314 => 63 | n => n, fun | 9 => 9 | 4 => 4 | 3 => 3 | 5 => 5 | 46 => 93 | 146 => 95 | 51 => 94 | n => n, fun | 1 => 2 | n => n⟩
theorem Tryd.lays144 : Go.Proofs.Lays.n144 Tryd.prog Tryd.lays144_ren where
  mixed := by kernel_rfl
  f143 := Tryd.func56.trans (congrArg some (by kernel_rfl))
  f144 := Tryd.func50.trans (congrArg some (by kernel_rfl))
  f217 := Tryd.func58.trans (congrArg some (by kernel_rfl))
  f219 := Tryd.func57.trans (congrArg some (by kernel_rfl))
  f224 := Tryd.func60.trans (congrArg some (by kernel_rfl))
  f225 := Tryd.func59.trans (congrArg some (by kernel_rfl))
  f266 := Tryd.func62.trans (congrArg some (by kernel_rfl))
  f267 := Tryd.func61.trans (congrArg some (by kernel_rfl))
  f314 := Tryd.func63.trans (congrArg some (by kernel_rfl))
  t3 := Tryd.underlying3
  a3 := Tryd.isAgg3
  z3 := Tryd.sizeOf3
  v3 := Tryd.zeroValue3
  t4 := Tryd.underlying4
  a4 := Tryd.isAgg4
  z4 := Tryd.sizeOf4
  v4 := Tryd.zeroValue4
  t5 := Tryd.underlying5
  a5 := Tryd.isAgg5
  z5 := Tryd.sizeOf5
  v5 := Tryd.zeroValue5
  t9 := Tryd.underlying9
  a9 := Tryd.isAgg9
  z9 := Tryd.sizeOf9
  v9 := Tryd.zeroValue9
  t46 := Tryd.underlying93
  a46 := Tryd.isAgg93
  z46 := Tryd.sizeOf93
  v46 := Tryd.zeroValue93
  t51 := Tryd.underlying94
  a51 := Tryd.isAgg94
  z51 := Tryd.sizeOf94
  v51 := Tryd.zeroValue94
  t146 := Tryd.underlying95
  a146 := Tryd.isAgg95
  z146 := Tryd.sizeOf95
  v146 := Tryd.zeroValue95
  g1 := by kernel_rfl
end Go.Proofs
namespace Go.L12
open Go Go.RowKit Go.Abs Go.Inc Go.Shelf
theorem idx_has (c : UInt8) (l : List UInt8) : decide (0 ≤ Lib.indexByte l c) = l.any fun x => (x.toNat : Int) == (c.toNat : Int) := by
  rw [← Lib.contains_iff_indexByte, List.contains_eq_any_beq]
  congr 1
  funext x
  rw [Bool.eq_iff_iff]
  simp only [beq_iff_eq]
  exact ⟨fun h => by rw [h], fun h => (UInt8.toNat_inj.1 (by omega)).symm⟩
theorem ok50 {gl : List (Nat × AVal)} : SpecOK Go.Proofs.Tryd.prog gl 50 S50 := by
  intro V w x vs hpre hg hv hr
  obtain ⟨s, sub, ⟨⟩⟩ := x
  have h1 : sub.size = 1 := of_decide_eq_true hpre
  obtain ⟨v1, r1, rfl, e1, v2, r2, rfl, e2, e3⟩ := hr
  cases e1; cases e2; cases e3
  obtain ⟨c, rfl⟩ : ∃ c : UInt8, sub = ⟨#[c]⟩ := by
    obtain ⟨⟨l⟩⟩ := sub
    match l, h1 with
    | [c], _ => exact ⟨c, rfl⟩
  refine (Go.Proofs.Any.strings_Contains_one Go.Proofs.Tryd.lays144 s c w).mono ?_
  rintro e w' ⟨rfl, rfl⟩
  refine ⟨_, V, rfl, hv, VLe.refl _, fun _ _ _ => rfl, ?_, Below.refl _ _⟩
  show [_] = [Value.bool (containsOne s ⟨#[c]⟩)]
  rw [idx_has]
  rfl
end Go.L12
