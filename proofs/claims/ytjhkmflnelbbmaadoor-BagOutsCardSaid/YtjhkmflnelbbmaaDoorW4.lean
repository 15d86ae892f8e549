/- The walks of package bag and its statements. Printed by a program of this session. -/
import Derived.Test.YtjhkmflnelbbmaaDoorW0
set_option linter.unusedVariables false
set_option maxRecDepth 100000
namespace Go.L14
open Go Go.Abs Go.Inc

/-! ### 22: incognito/sign.Takes -/
def L22 (_ : Nat) : Loops (Bool × Unit) := fun _ _ _ => none
def F22 (N : Nat) (p0 : Int) (p1 : Int × Int × ByteArray × Unit) : Option (Bool × Unit) :=
  bif (Go.Inc.okV p1) then
    bif (!(Go.Inc.right p1)) then
      some (false, ())
    else
      bif (p0 == (0 : Int)) then
        bif (p0 == (0 : Int)) then
          bif (p1.1 == (1 : Int)) then
            some (true, ())
          else
            some ((p1.1 == (2 : Int)), ())
        else
          bif (p0 == (5 : Int)) then
            some ((p1.1 == (1 : Int)), ())
          else
            bif (p0 == (6 : Int)) then
              some ((p1.1 == (3 : Int)), ())
            else
              some (false, ())
      else
        bif (p0 == (1 : Int)) then
          bif (p0 == (1 : Int)) then
            bif (p1.1 == (1 : Int)) then
              some (true, ())
            else
              some ((p1.1 == (2 : Int)), ())
          else
            bif (p0 == (5 : Int)) then
              some ((p1.1 == (1 : Int)), ())
            else
              bif (p0 == (6 : Int)) then
              some ((p1.1 == (3 : Int)), ())
            else
              some (false, ())
        else
          bif (p0 == (2 : Int)) then
            bif (p0 == (2 : Int)) then
              bif (p1.1 == (1 : Int)) then
              some (true, ())
            else
              some ((p1.1 == (2 : Int)), ())
            else
              bif (p0 == (5 : Int)) then
              some ((p1.1 == (1 : Int)), ())
            else
              bif (p0 == (6 : Int)) then
              some ((p1.1 == (3 : Int)), ())
            else
              some (false, ())
          else
            bif (p0 == (3 : Int)) then
              bif (p0 == (3 : Int)) then
              bif (p1.1 == (1 : Int)) then
              some (true, ())
            else
              some ((p1.1 == (2 : Int)), ())
            else
              bif (p0 == (5 : Int)) then
              some ((p1.1 == (1 : Int)), ())
            else
              bif (p0 == (6 : Int)) then
              some ((p1.1 == (3 : Int)), ())
            else
              some (false, ())
            else
              bif (p0 == (4 : Int)) then
              bif (p1.1 == (1 : Int)) then
              some (true, ())
            else
              some ((p1.1 == (2 : Int)), ())
            else
              bif (p0 == (5 : Int)) then
              some ((p1.1 == (1 : Int)), ())
            else
              bif (p0 == (6 : Int)) then
              some ((p1.1 == (3 : Int)), ())
            else
              some (false, ())
  else
    none
theorem loops22 (N : Nat) : loopsOk C22 (L22 N) Go.Proofs.Tryd.f22 := ⟨trivial, ⟨⟨trivial, ⟨⟨trivial, trivial⟩, trivial⟩⟩, ⟨⟨trivial, ⟨⟨trivial, ⟨trivial, ⟨trivial, ⟨trivial, ⟨trivial, ⟨trivial, ⟨trivial, ⟨trivial, trivial⟩⟩⟩⟩⟩⟩⟩⟩, ⟨⟨trivial, trivial⟩, ⟨trivial, ⟨⟨trivial, trivial⟩, trivial⟩⟩⟩⟩⟩, ⟨trivial, trivial⟩⟩⟩⟩
theorem runs22 (N : Nat) (x : S22.ta.den) : run C22 S22 (L22 N) Go.Proofs.Tryd.f22 x = F22 N x.1 x.2.1 := by kernel_rfl

/-! ### 36: incognito/sign.Args -/
def W36_6 {β : Type} (N : Nat) (x1 : (List Int) → Option β) : Nat → Int → Int → ByteArray → Int → Bool → (List Int) → Int → Int → Option β
  | 0, _, _, _, _, _, _, _, _ => none
  | n + 1, b6a, b6ba, b6bba, b6bbba, b6bbbba, t8, t20, t21 =>
  bif decide (t21 < t20) then
    bif ((decide ((0 : Int) ≤ t21)) && (decide (t21 < (((ByteArray.size b6bba) : Nat) : Int)))) then
      bif decide ((((List.length t8) + (List.length ((Go.Inc.domain (((UInt8.toNat (List.getD (Array.toList (ByteArray.data b6bba)) (Int.toNat t21) (0 : UInt8))) : Nat) : Int)) :: ([] : List Int)))) * 8) ≤ 140737488351232) then
        W36_6 N x1 n b6a b6ba b6bba b6bbba b6bbbba (t8 ++ ((Go.Inc.domain (((UInt8.toNat (List.getD (Array.toList (ByteArray.data b6bba)) (Int.toNat t21) (0 : UInt8))) : Nat) : Int)) :: ([] : List Int))) t20 (Go.IntKind.wrap .i64 (t21 + (1 : Int)))
      else
        none
    else
      none
  else
    x1 t8
def L36 (N : Nat) : Loops ((List Int) × Bool × Unit) := fun k ρ K => match Nat.beq k 6 with
  | true => (match adH ρ H36_6.hd with
    | some v => W36_6 N (fun t8 => K (.exit 0) (encH [(16, (.sl (.int .i64) (.own 31)))] (t8, ()))) N v.2.1.1 v.2.1.2.1 v.2.1.2.2.1 v.2.1.2.2.2.1 v.2.1.2.2.2.2.1 v.2.2.1 v.2.2.2.1 v.2.2.2.2.1
    | none => none)
  | false => none
def F36 (N : Nat) (p0 : Int) (p1 : Int) : Option ((List Int) × Bool × Unit) :=
  bif (!(((Go.Inc.findGo p0 p1).2).1)) then
    some (([] : List Int), (false, ()))
  else
    W36_6 N
      (fun t8 =>
        some (t8, (true, ())))
      N (((Go.Inc.findGo p0 p1).1).1) ((((Go.Inc.findGo p0 p1).1).2).1) (((((Go.Inc.findGo p0 p1).1).2).2).1) ((((((Go.Inc.findGo p0 p1).1).2).2).2).1) (((((((Go.Inc.findGo p0 p1).1).2).2).2).2).1) ([] : List Int) (((ByteArray.size (((((Go.Inc.findGo p0 p1).1).2).2).1)) : Nat) : Int) (0 : Int)
theorem loops36 (N : Nat) : loopsOk C36 (L36 N) Go.Proofs.Tryd.f36 := ⟨trivial, ⟨trivial, ⟨⟨trivial, ⟨⟨trivial, trivial⟩, trivial⟩⟩, ⟨trivial, ⟨⟨trivial, ⟨loopOk_of H36_6 N (fun K n v => W36_6 N (fun t8 => K (.exit 0) (encH [(16, (.sl (.int .i64) (.own 31)))] (t8, ()))) n v.2.1.1 v.2.1.2.1 v.2.1.2.2.1 v.2.1.2.2.2.1 v.2.1.2.2.2.2.1 v.2.2.1 v.2.2.2.1 v.2.2.2.2.1) (by kernel_rfl) (fun K v => by kernel_rfl) (fun K v => by kernel_rfl) (fun K n v => by kernel_rfl), ⟨trivial, ⟨⟨trivial, trivial⟩, ⟨⟨trivial, trivial⟩, trivial⟩⟩⟩⟩⟩, ⟨trivial, trivial⟩⟩⟩⟩⟩⟩
theorem runs36 (N : Nat) (x : S36.ta.den) : run C36 S36 (L36 N) Go.Proofs.Tryd.f36 x = F36 N x.1 x.2.1 := by kernel_rfl

/-! ### 51: cmp.isNaN[int] -/
def L51 (_ : Nat) : Loops (Bool × Unit) := fun _ _ _ => none
def F51 (N : Nat) (p0 : Int) : Option (Bool × Unit) :=
  some ((p0 != p0), ())
theorem loops51 (N : Nat) : loopsOk C51 (L51 N) Go.Proofs.Tryd.f51 := ⟨trivial, ⟨trivial, trivial⟩⟩
theorem runs51 (N : Nat) (x : S51.ta.den) : run C51 S51 (L51 N) Go.Proofs.Tryd.f51 x = F51 N x.1 := by kernel_rfl

/-! ### 39: cmp.Compare[int] -/
def L39 (_ : Nat) : Loops (Int × Unit) := fun _ _ _ => none
def F39 (N : Nat) (p0 : Int) (p1 : Int) : Option (Int × Unit) :=
  bif decide (p0 < p1) then
    some ((-(1 : Int)), ())
  else
    bif decide (p0 > p1) then
      some ((1 : Int), ())
    else
      some ((0 : Int), ())
theorem loops39 (N : Nat) : loopsOk C39 (L39 N) Go.Proofs.Tryd.f39 := ⟨trivial, ⟨trivial, ⟨trivial, ⟨⟨trivial, ⟨⟨⟨trivial, ⟨⟨trivial, trivial⟩, trivial⟩⟩, ⟨trivial, trivial⟩⟩, trivial⟩⟩, ⟨⟨trivial, ⟨⟨trivial, trivial⟩, trivial⟩⟩, ⟨⟨trivial, ⟨⟨trivial, trivial⟩, trivial⟩⟩, ⟨⟨trivial, ⟨⟨trivial, trivial⟩, trivial⟩⟩, ⟨trivial, trivial⟩⟩⟩⟩⟩⟩⟩⟩
theorem runs39 (N : Nat) (x : S39.ta.den) : run C39 S39 (L39 N) Go.Proofs.Tryd.f39 x = F39 N x.1 x.2.1 := by kernel_rfl

/-! ### 41: strings.Compare -/
def L41 (_ : Nat) : Loops (Int × Unit) := fun _ _ _ => none
def F41 (N : Nat) (p0 : ByteArray) (p1 : ByteArray) : Option (Int × Unit) :=
  some ((Go.Abs.cmpS p0 p1), ())
theorem loops41 (N : Nat) : loopsOk C41 (L41 N) Go.Proofs.Tryd.f41 := ⟨trivial, ⟨trivial, trivial⟩⟩
theorem runs41 (N : Nat) (x : S41.ta.den) : run C41 S41 (L41 N) Go.Proofs.Tryd.f41 x = F41 N x.1 x.2.1 := by kernel_rfl

/-! ### 26x: incognito/value.Compare -/
def L26x (_ : Nat) : Loops (HS.den X26x.hout) := fun _ _ _ => none
def F26x (N : Nat) (t0a : Int) (t0ba : Int) (t0bba : ByteArray) (t1a : Int) (t1ba : Int) (t1bba : ByteArray) : Option (HS.den X26x.hout) :=
  some ((Go.Inc.orI ((Go.Inc.cmpI t0a t1a) :: ((Go.Inc.cmpI t0ba t1ba) :: ((Go.Abs.cmpS t0bba t1bba) :: ([] : List Int))))), ())
theorem loops26x (N : Nat) : loopsOk C26x (L26x N) Go.Proofs.Tryd.f26 := ⟨trivial, ⟨trivial, trivial⟩⟩
theorem runs26x (N : Nat) (x : HS.den X26x.hin) : runX C26x X26x (L26x N) Go.Proofs.Tryd.f26 x = F26x N x.1.1 x.1.2.1 x.1.2.2.1 x.2.1.1 x.2.1.2.1 x.2.1.2.2.1 := by kernel_rfl

/-! ### 37: slices.BinarySearchFunc[[]incognito/api.Value,incognito/api.Value,incognito/api.Value] -/
def W37_3 {β : Type} (N : Nat) (x1 : Nat → Int → Int → ByteArray → Int → Int → (List (Int × Int × ByteArray × Unit)) → Option β) : Nat → Nat → Int → Int → ByteArray → Int → Int → Int → (List (Int × Int × ByteArray × Unit)) → Option β
  | 0, _, _, _, _, _, _, _, _ => none
  | n + 1, t0, b4a, b4ba, b4bba, t8, t9, t10, b1000 =>
  bif decide (t9 < t10) then
    bif ((decide ((0 : Int) ≤ (Go.IntKind.wrap .i64 (Int.fdiv (Go.IntKind.wrap .u64 (Go.IntKind.wrap .i64 (t9 + t10))) ((2 : Int) ^ (Min.min (Int.toNat (1 : Int)) (Go.IntKind.bits .u64))))))) && (decide ((Go.IntKind.wrap .i64 (Int.fdiv (Go.IntKind.wrap .u64 (Go.IntKind.wrap .i64 (t9 + t10))) ((2 : Int) ^ (Min.min (Int.toNat (1 : Int)) (Go.IntKind.bits .u64))))) < ((t0 : Nat) : Int)))) then
      bif decide ((Int.toNat (Go.IntKind.wrap .i64 (Int.fdiv (Go.IntKind.wrap .u64 (Go.IntKind.wrap .i64 (t9 + t10))) ((2 : Int) ^ (Min.min (Int.toNat (1 : Int)) (Go.IntKind.bits .u64)))))) < (List.length b1000)) then
        bif decide ((Go.Inc.cmpV (List.getD b1000 (Int.toNat (Go.IntKind.wrap .i64 (Int.fdiv (Go.IntKind.wrap .u64 (Go.IntKind.wrap .i64 (t9 + t10))) ((2 : Int) ^ (Min.min (Int.toNat (1 : Int)) (Go.IntKind.bits .u64)))))) ((0 : Int), ((0 : Int), (ByteArray.empty, ())))) (b4a, (b4ba, (b4bba, ())))) < (0 : Int)) then
          W37_3 N x1 n t0 b4a b4ba b4bba t8 (Go.IntKind.wrap .i64 ((Go.IntKind.wrap .i64 (Int.fdiv (Go.IntKind.wrap .u64 (Go.IntKind.wrap .i64 (t9 + t10))) ((2 : Int) ^ (Min.min (Int.toNat (1 : Int)) (Go.IntKind.bits .u64))))) + (1 : Int))) t10 b1000
        else
          W37_3 N x1 n t0 b4a b4ba b4bba t8 t9 (Go.IntKind.wrap .i64 (Int.fdiv (Go.IntKind.wrap .u64 (Go.IntKind.wrap .i64 (t9 + t10))) ((2 : Int) ^ (Min.min (Int.toNat (1 : Int)) (Go.IntKind.bits .u64))))) b1000
      else
        none
    else
      none
  else
    x1 t0 b4a b4ba b4bba t8 t9 b1000
def L37 (N : Nat) : Loops (HS.den X37.hout) := fun k ρ K => match Nat.beq k 3 with
  | true => (match adH ρ H37_3.hd with
    | some v => W37_3 N (fun t0 b4a b4ba b4bba t8 t9 b1000 => K (.exit 0) (encH [(0, (.os 1000)), (4, (.fn 26)), (8, (.bx 4 0)), (9, (.pr (.i .i64) (.pr (.i .i64) (.pr .st .un)))), (16, (.i .i64)), (18, (.i .i64)), (2001, (.ar (.pr (.int .i64) (.pr (.int .i64) (.pr .str .un)))))] (t0, ((), ((), ((b4a, (b4ba, (b4bba, ()))), (t8, (t9, (b1000, ()))))))))) N v.1 v.2.2.2.1.1 v.2.2.2.1.2.1 v.2.2.2.1.2.2.1 v.2.2.2.2.1 v.2.2.2.2.2.1 v.2.2.2.2.2.2.1 v.2.2.2.2.2.2.2.1
    | none => none)
  | false => none
def F37 (N : Nat) (t0 : Nat) (t1a : Int) (t1ba : Int) (t1bba : ByteArray) (b1000 : List (Int × Int × ByteArray × Unit)) : Option (HS.den X37.hout) :=
  W37_3 N
    (fun t0 b4a b4ba b4bba t8 t9 b1000 =>
      bif decide (t9 < t8) then
        bif ((decide ((0 : Int) ≤ t9)) && (decide (t9 < ((t0 : Nat) : Int)))) then
          bif decide ((Int.toNat t9) < (List.length b1000)) then
            some (t9, (((Go.Inc.cmpV (List.getD b1000 (Int.toNat t9) ((0 : Int), ((0 : Int), (ByteArray.empty, ())))) (b4a, (b4ba, (b4bba, ())))) == (0 : Int)), (b1000, ())))
          else
            none
        else
          none
      else
        some (t9, (false, (b1000, ()))))
    N t0 t1a t1ba t1bba ((t0 : Nat) : Int) (0 : Int) ((t0 : Nat) : Int) b1000
theorem loops37 (N : Nat) : loopsOk C37 (L37 N) Go.Proofs.Tryd.f37 := ⟨trivial, ⟨trivial, ⟨trivial, ⟨⟨loopOk_of H37_3 N (fun K n v => W37_3 N (fun t0 b4a b4ba b4bba t8 t9 b1000 => K (.exit 0) (encH [(0, (.os 1000)), (4, (.fn 26)), (8, (.bx 4 0)), (9, (.pr (.i .i64) (.pr (.i .i64) (.pr .st .un)))), (16, (.i .i64)), (18, (.i .i64)), (2001, (.ar (.pr (.int .i64) (.pr (.int .i64) (.pr .str .un)))))] (t0, ((), ((), ((b4a, (b4ba, (b4bba, ()))), (t8, (t9, (b1000, ()))))))))) n v.1 v.2.2.2.1.1 v.2.2.2.1.2.1 v.2.2.2.1.2.2.1 v.2.2.2.2.1 v.2.2.2.2.2.1 v.2.2.2.2.2.2.1 v.2.2.2.2.2.2.2.1) (by kernel_rfl) (fun K v => by kernel_rfl) (fun K v => by kernel_rfl) (fun K n v => by kernel_rfl), ⟨⟨trivial, ⟨trivial, trivial⟩⟩, ⟨trivial, ⟨trivial, ⟨trivial, trivial⟩⟩⟩⟩⟩, ⟨trivial, trivial⟩⟩⟩⟩⟩
theorem runs37 (N : Nat) (x : HS.den X37.hin) : runX C37 X37 (L37 N) Go.Proofs.Tryd.f37 x = F37 N x.1 x.2.1.1 x.2.1.2.1 x.2.1.2.2.1 x.2.2.2.1 := by kernel_rfl

/-! ### 12x: incognito/bag.Step -/
def L12x (_ : Nat) : Loops (HS.den X12x.hout) := fun _ _ _ => none
def F12x (N : Nat) (t0a : Int) (t0baa : Int) (t0baba : Int) (t0babba : ByteArray) (t0bba : Int) (t0bbba : List (Int × Int × ByteArray × Unit)) (t1a : Int) (t1ba : Int) (t1bba : ByteArray) (t2 : Int) (t3 : List (Int × Int × ByteArray × Unit)) : Option (HS.den X12x.hout) :=
  bif (t0a != (3 : Int)) then
    some (((0 : Int), (((0 : Int), ((0 : Int), (ByteArray.empty, ()))), ((0 : Int), (([] : List (Int × (Int × (ByteArray × Unit)))), ())))), (0, (false, (([] : List (Int × (Int × (ByteArray × Unit)))), ()))))
  else
    bif (Go.Inc.okT (0 : Int) (t1a, (t1ba, (t1bba, ())))) then
      bif (!(Go.Inc.takes (0 : Int) (t1a, (t1ba, (t1bba, ()))))) then
        some (((0 : Int), (((0 : Int), ((0 : Int), (ByteArray.empty, ()))), ((0 : Int), (([] : List (Int × (Int × (ByteArray × Unit)))), ())))), (0, (false, (([] : List (Int × (Int × (ByteArray × Unit)))), ()))))
      else
        bif (Go.Inc.okF t0a t2 t3) then
          bif (!(Go.Inc.fits t0a t2 t3)) then
            some (((0 : Int), (((0 : Int), ((0 : Int), (ByteArray.empty, ()))), ((0 : Int), (([] : List (Int × (Int × (ByteArray × Unit)))), ())))), (0, (false, (([] : List (Int × (Int × (ByteArray × Unit)))), ()))))
          else
            bif decide (((List.length t0bbba) * 32) ≤ 140737488351232) then
              bif ((decide ((0 : Int) ≤ (0 : Int))) && (decide ((0 : Int) < (((List.length t3) : Nat) : Int)))) then
              bif (Go.Inc.okPlace (List.length t0bbba) t0bbba) then
              bif (t2 == (6 : Int)) then
              bif ((Go.Inc.placeX (List.getD t3 (Int.toNat (0 : Int)) ((0 : Int), ((0 : Int), (ByteArray.empty, ())))) t0bbba).2).1 then
              bif decide ((List.length t0bbba) = (List.length ((((Go.Inc.placeX (List.getD t3 (Int.toNat (0 : Int)) ((0 : Int), ((0 : Int), (ByteArray.empty, ())))) t0bbba).2).2).1))) then
              some ((t0a, ((t0baa, (t0baba, (t0babba, ()))), (t0bba, ((Go.Inc.placeX (List.getD t3 (Int.toNat (0 : Int)) ((0 : Int), ((0 : Int), (ByteArray.empty, ())))) t0bbba).2).2))), ((List.length (((3 : Int), ((1 : Int), (ByteArray.empty, ()))) :: ([] : List (Int × (Int × (ByteArray × Unit)))))), (true, ((((3 : Int), ((1 : Int), (ByteArray.empty, ()))) :: ([] : List (Int × (Int × (ByteArray × Unit))))), ()))))
            else
              none
            else
              bif decide ((List.length t0bbba) = (List.length ((((Go.Inc.placeX (List.getD t3 (Int.toNat (0 : Int)) ((0 : Int), ((0 : Int), (ByteArray.empty, ())))) t0bbba).2).2).1))) then
              some ((t0a, ((t0baa, (t0baba, (t0babba, ()))), (t0bba, ((Go.Inc.placeX (List.getD t3 (Int.toNat (0 : Int)) ((0 : Int), ((0 : Int), (ByteArray.empty, ())))) t0bbba).2).2))), ((List.length (((3 : Int), ((0 : Int), (ByteArray.empty, ()))) :: ([] : List (Int × (Int × (ByteArray × Unit)))))), (true, ((((3 : Int), ((0 : Int), (ByteArray.empty, ()))) :: ([] : List (Int × (Int × (ByteArray × Unit))))), ()))))
            else
              none
            else
              bif (t2 == (4 : Int)) then
              bif (!(((Go.Inc.placeX (List.getD t3 (Int.toNat (0 : Int)) ((0 : Int), ((0 : Int), (ByteArray.empty, ())))) t0bbba).2).1)) then
              bif ((decide ((0 : Int) ≤ (0 : Int))) && (decide ((0 : Int) < (((List.length t3) : Nat) : Int)))) then
              bif ((decide ((List.length t0bbba) = (List.length ((((Go.Inc.placeX (List.getD t3 (Int.toNat (0 : Int)) ((0 : Int), ((0 : Int), (ByteArray.empty, ())))) t0bbba).2).2).1)))) && ((decide ((0 : Int) ≤ ((Go.Inc.placeX (List.getD t3 (Int.toNat (0 : Int)) ((0 : Int), ((0 : Int), (ByteArray.empty, ())))) t0bbba).1))) && ((decide (((Go.Inc.placeX (List.getD t3 (Int.toNat (0 : Int)) ((0 : Int), ((0 : Int), (ByteArray.empty, ())))) t0bbba).1) ≤ (((List.length ((((Go.Inc.placeX (List.getD t3 (Int.toNat (0 : Int)) ((0 : Int), ((0 : Int), (ByteArray.empty, ())))) t0bbba).2).2).1)) : Nat) : Int))) && ((decide (0 < (List.length ((List.getD t3 (Int.toNat (0 : Int)) ((0 : Int), ((0 : Int), (ByteArray.empty, ())))) :: ([] : List (Int × (Int × (ByteArray × Unit)))))))) && (decide ((((List.length ((((Go.Inc.placeX (List.getD t3 (Int.toNat (0 : Int)) ((0 : Int), ((0 : Int), (ByteArray.empty, ())))) t0bbba).2).2).1)) + (List.length ((List.getD t3 (Int.toNat (0 : Int)) ((0 : Int), ((0 : Int), (ByteArray.empty, ())))) :: ([] : List (Int × (Int × (ByteArray × Unit))))))) * 32) ≤ 140737488351232)))))) then
              bif decide (((List.length ((((Go.Inc.placeX (List.getD t3 (Int.toNat (0 : Int)) ((0 : Int), ((0 : Int), (ByteArray.empty, ())))) t0bbba).2).2).1)) + (List.length ((List.getD t3 (Int.toNat (0 : Int)) ((0 : Int), ((0 : Int), (ByteArray.empty, ())))) :: ([] : List (Int × (Int × (ByteArray × Unit))))))) = (List.length ((List.take (Int.toNat ((Go.Inc.placeX (List.getD t3 (Int.toNat (0 : Int)) ((0 : Int), ((0 : Int), (ByteArray.empty, ())))) t0bbba).1)) ((((Go.Inc.placeX (List.getD t3 (Int.toNat (0 : Int)) ((0 : Int), ((0 : Int), (ByteArray.empty, ())))) t0bbba).2).2).1)) ++ (((List.getD t3 (Int.toNat (0 : Int)) ((0 : Int), ((0 : Int), (ByteArray.empty, ())))) :: ([] : List (Int × (Int × (ByteArray × Unit))))) ++ (List.drop (Int.toNat ((Go.Inc.placeX (List.getD t3 (Int.toNat (0 : Int)) ((0 : Int), ((0 : Int), (ByteArray.empty, ())))) t0bbba).1)) ((((Go.Inc.placeX (List.getD t3 (Int.toNat (0 : Int)) ((0 : Int), ((0 : Int), (ByteArray.empty, ())))) t0bbba).2).2).1)))))) then
              some ((t0a, ((t0baa, (t0baba, (t0babba, ()))), (t0bba, (((List.take (Int.toNat ((Go.Inc.placeX (List.getD t3 (Int.toNat (0 : Int)) ((0 : Int), ((0 : Int), (ByteArray.empty, ())))) t0bbba).1)) ((((Go.Inc.placeX (List.getD t3 (Int.toNat (0 : Int)) ((0 : Int), ((0 : Int), (ByteArray.empty, ())))) t0bbba).2).2).1)) ++ (((List.getD t3 (Int.toNat (0 : Int)) ((0 : Int), ((0 : Int), (ByteArray.empty, ())))) :: ([] : List (Int × (Int × (ByteArray × Unit))))) ++ (List.drop (Int.toNat ((Go.Inc.placeX (List.getD t3 (Int.toNat (0 : Int)) ((0 : Int), ((0 : Int), (ByteArray.empty, ())))) t0bbba).1)) ((((Go.Inc.placeX (List.getD t3 (Int.toNat (0 : Int)) ((0 : Int), ((0 : Int), (ByteArray.empty, ())))) t0bbba).2).2).1)))), ())))), (0, (true, (([] : List (Int × (Int × (ByteArray × Unit)))), ()))))
            else
              none
            else
              none
            else
              none
            else
              bif (t2 == (5 : Int)) then
              bif ((Go.Inc.placeX (List.getD t3 (Int.toNat (0 : Int)) ((0 : Int), ((0 : Int), (ByteArray.empty, ())))) t0bbba).2).1 then
              bif ((decide ((List.length t0bbba) = (List.length ((((Go.Inc.placeX (List.getD t3 (Int.toNat (0 : Int)) ((0 : Int), ((0 : Int), (ByteArray.empty, ())))) t0bbba).2).2).1)))) && ((decide ((0 : Int) ≤ ((Go.Inc.placeX (List.getD t3 (Int.toNat (0 : Int)) ((0 : Int), ((0 : Int), (ByteArray.empty, ())))) t0bbba).1))) && ((decide (((Go.Inc.placeX (List.getD t3 (Int.toNat (0 : Int)) ((0 : Int), ((0 : Int), (ByteArray.empty, ())))) t0bbba).1) < (Go.IntKind.wrap .i64 (((Go.Inc.placeX (List.getD t3 (Int.toNat (0 : Int)) ((0 : Int), ((0 : Int), (ByteArray.empty, ())))) t0bbba).1) + (1 : Int))))) && ((decide ((Go.IntKind.wrap .i64 (((Go.Inc.placeX (List.getD t3 (Int.toNat (0 : Int)) ((0 : Int), ((0 : Int), (ByteArray.empty, ())))) t0bbba).1) + (1 : Int))) ≤ (((List.length ((((Go.Inc.placeX (List.getD t3 (Int.toNat (0 : Int)) ((0 : Int), ((0 : Int), (ByteArray.empty, ())))) t0bbba).2).2).1)) : Nat) : Int))) && (decide (((List.length ((((Go.Inc.placeX (List.getD t3 (Int.toNat (0 : Int)) ((0 : Int), ((0 : Int), (ByteArray.empty, ())))) t0bbba).2).2).1)) * 32) ≤ 140737488351232)))))) then
              bif decide (((List.length ((((Go.Inc.placeX (List.getD t3 (Int.toNat (0 : Int)) ((0 : Int), ((0 : Int), (ByteArray.empty, ())))) t0bbba).2).2).1)) - ((Int.toNat (Go.IntKind.wrap .i64 (((Go.Inc.placeX (List.getD t3 (Int.toNat (0 : Int)) ((0 : Int), ((0 : Int), (ByteArray.empty, ())))) t0bbba).1) + (1 : Int)))) - (Int.toNat ((Go.Inc.placeX (List.getD t3 (Int.toNat (0 : Int)) ((0 : Int), ((0 : Int), (ByteArray.empty, ())))) t0bbba).1)))) = (List.length ((List.take (Int.toNat ((Go.Inc.placeX (List.getD t3 (Int.toNat (0 : Int)) ((0 : Int), ((0 : Int), (ByteArray.empty, ())))) t0bbba).1)) ((((Go.Inc.placeX (List.getD t3 (Int.toNat (0 : Int)) ((0 : Int), ((0 : Int), (ByteArray.empty, ())))) t0bbba).2).2).1)) ++ (List.drop (Int.toNat (Go.IntKind.wrap .i64 (((Go.Inc.placeX (List.getD t3 (Int.toNat (0 : Int)) ((0 : Int), ((0 : Int), (ByteArray.empty, ())))) t0bbba).1) + (1 : Int)))) ((((Go.Inc.placeX (List.getD t3 (Int.toNat (0 : Int)) ((0 : Int), ((0 : Int), (ByteArray.empty, ())))) t0bbba).2).2).1))))) then
              some ((t0a, ((t0baa, (t0baba, (t0babba, ()))), (t0bba, (((List.take (Int.toNat ((Go.Inc.placeX (List.getD t3 (Int.toNat (0 : Int)) ((0 : Int), ((0 : Int), (ByteArray.empty, ())))) t0bbba).1)) ((((Go.Inc.placeX (List.getD t3 (Int.toNat (0 : Int)) ((0 : Int), ((0 : Int), (ByteArray.empty, ())))) t0bbba).2).2).1)) ++ (List.drop (Int.toNat (Go.IntKind.wrap .i64 (((Go.Inc.placeX (List.getD t3 (Int.toNat (0 : Int)) ((0 : Int), ((0 : Int), (ByteArray.empty, ())))) t0bbba).1) + (1 : Int)))) ((((Go.Inc.placeX (List.getD t3 (Int.toNat (0 : Int)) ((0 : Int), ((0 : Int), (ByteArray.empty, ())))) t0bbba).2).2).1))), ())))), (0, (true, (([] : List (Int × (Int × (ByteArray × Unit)))), ()))))
            else
              none
            else
              none
            else
              bif decide ((List.length t0bbba) = (List.length ((((Go.Inc.placeX (List.getD t3 (Int.toNat (0 : Int)) ((0 : Int), ((0 : Int), (ByteArray.empty, ())))) t0bbba).2).2).1))) then
              some ((t0a, ((t0baa, (t0baba, (t0babba, ()))), (t0bba, ((Go.Inc.placeX (List.getD t3 (Int.toNat (0 : Int)) ((0 : Int), ((0 : Int), (ByteArray.empty, ())))) t0bbba).2).2))), (0, (true, (([] : List (Int × (Int × (ByteArray × Unit)))), ()))))
            else
              none
            else
              bif decide ((List.length t0bbba) = (List.length ((((Go.Inc.placeX (List.getD t3 (Int.toNat (0 : Int)) ((0 : Int), ((0 : Int), (ByteArray.empty, ())))) t0bbba).2).2).1))) then
              some ((t0a, ((t0baa, (t0baba, (t0babba, ()))), (t0bba, ((Go.Inc.placeX (List.getD t3 (Int.toNat (0 : Int)) ((0 : Int), ((0 : Int), (ByteArray.empty, ())))) t0bbba).2).2))), (0, (true, (([] : List (Int × (Int × (ByteArray × Unit)))), ()))))
            else
              none
            else
              bif (t2 == (5 : Int)) then
              bif ((Go.Inc.placeX (List.getD t3 (Int.toNat (0 : Int)) ((0 : Int), ((0 : Int), (ByteArray.empty, ())))) t0bbba).2).1 then
              bif ((decide ((List.length t0bbba) = (List.length ((((Go.Inc.placeX (List.getD t3 (Int.toNat (0 : Int)) ((0 : Int), ((0 : Int), (ByteArray.empty, ())))) t0bbba).2).2).1)))) && ((decide ((0 : Int) ≤ ((Go.Inc.placeX (List.getD t3 (Int.toNat (0 : Int)) ((0 : Int), ((0 : Int), (ByteArray.empty, ())))) t0bbba).1))) && ((decide (((Go.Inc.placeX (List.getD t3 (Int.toNat (0 : Int)) ((0 : Int), ((0 : Int), (ByteArray.empty, ())))) t0bbba).1) < (Go.IntKind.wrap .i64 (((Go.Inc.placeX (List.getD t3 (Int.toNat (0 : Int)) ((0 : Int), ((0 : Int), (ByteArray.empty, ())))) t0bbba).1) + (1 : Int))))) && ((decide ((Go.IntKind.wrap .i64 (((Go.Inc.placeX (List.getD t3 (Int.toNat (0 : Int)) ((0 : Int), ((0 : Int), (ByteArray.empty, ())))) t0bbba).1) + (1 : Int))) ≤ (((List.length ((((Go.Inc.placeX (List.getD t3 (Int.toNat (0 : Int)) ((0 : Int), ((0 : Int), (ByteArray.empty, ())))) t0bbba).2).2).1)) : Nat) : Int))) && (decide (((List.length ((((Go.Inc.placeX (List.getD t3 (Int.toNat (0 : Int)) ((0 : Int), ((0 : Int), (ByteArray.empty, ())))) t0bbba).2).2).1)) * 32) ≤ 140737488351232)))))) then
              bif decide (((List.length ((((Go.Inc.placeX (List.getD t3 (Int.toNat (0 : Int)) ((0 : Int), ((0 : Int), (ByteArray.empty, ())))) t0bbba).2).2).1)) - ((Int.toNat (Go.IntKind.wrap .i64 (((Go.Inc.placeX (List.getD t3 (Int.toNat (0 : Int)) ((0 : Int), ((0 : Int), (ByteArray.empty, ())))) t0bbba).1) + (1 : Int)))) - (Int.toNat ((Go.Inc.placeX (List.getD t3 (Int.toNat (0 : Int)) ((0 : Int), ((0 : Int), (ByteArray.empty, ())))) t0bbba).1)))) = (List.length ((List.take (Int.toNat ((Go.Inc.placeX (List.getD t3 (Int.toNat (0 : Int)) ((0 : Int), ((0 : Int), (ByteArray.empty, ())))) t0bbba).1)) ((((Go.Inc.placeX (List.getD t3 (Int.toNat (0 : Int)) ((0 : Int), ((0 : Int), (ByteArray.empty, ())))) t0bbba).2).2).1)) ++ (List.drop (Int.toNat (Go.IntKind.wrap .i64 (((Go.Inc.placeX (List.getD t3 (Int.toNat (0 : Int)) ((0 : Int), ((0 : Int), (ByteArray.empty, ())))) t0bbba).1) + (1 : Int)))) ((((Go.Inc.placeX (List.getD t3 (Int.toNat (0 : Int)) ((0 : Int), ((0 : Int), (ByteArray.empty, ())))) t0bbba).2).2).1))))) then
              some ((t0a, ((t0baa, (t0baba, (t0babba, ()))), (t0bba, (((List.take (Int.toNat ((Go.Inc.placeX (List.getD t3 (Int.toNat (0 : Int)) ((0 : Int), ((0 : Int), (ByteArray.empty, ())))) t0bbba).1)) ((((Go.Inc.placeX (List.getD t3 (Int.toNat (0 : Int)) ((0 : Int), ((0 : Int), (ByteArray.empty, ())))) t0bbba).2).2).1)) ++ (List.drop (Int.toNat (Go.IntKind.wrap .i64 (((Go.Inc.placeX (List.getD t3 (Int.toNat (0 : Int)) ((0 : Int), ((0 : Int), (ByteArray.empty, ())))) t0bbba).1) + (1 : Int)))) ((((Go.Inc.placeX (List.getD t3 (Int.toNat (0 : Int)) ((0 : Int), ((0 : Int), (ByteArray.empty, ())))) t0bbba).2).2).1))), ())))), (0, (true, (([] : List (Int × (Int × (ByteArray × Unit)))), ()))))
            else
              none
            else
              none
            else
              bif decide ((List.length t0bbba) = (List.length ((((Go.Inc.placeX (List.getD t3 (Int.toNat (0 : Int)) ((0 : Int), ((0 : Int), (ByteArray.empty, ())))) t0bbba).2).2).1))) then
              some ((t0a, ((t0baa, (t0baba, (t0babba, ()))), (t0bba, ((Go.Inc.placeX (List.getD t3 (Int.toNat (0 : Int)) ((0 : Int), ((0 : Int), (ByteArray.empty, ())))) t0bbba).2).2))), (0, (true, (([] : List (Int × (Int × (ByteArray × Unit)))), ()))))
            else
              none
            else
              bif decide ((List.length t0bbba) = (List.length ((((Go.Inc.placeX (List.getD t3 (Int.toNat (0 : Int)) ((0 : Int), ((0 : Int), (ByteArray.empty, ())))) t0bbba).2).2).1))) then
              some ((t0a, ((t0baa, (t0baba, (t0babba, ()))), (t0bba, ((Go.Inc.placeX (List.getD t3 (Int.toNat (0 : Int)) ((0 : Int), ((0 : Int), (ByteArray.empty, ())))) t0bbba).2).2))), (0, (true, (([] : List (Int × (Int × (ByteArray × Unit)))), ()))))
            else
              none
            else
              none
            else
              none
            else
              none
        else
          none
    else
      none
theorem loops12x (N : Nat) : loopsOk C12x (L12x N) Go.Proofs.Tryd.f12 := ⟨trivial, ⟨⟨trivial, ⟨⟨trivial, trivial⟩, trivial⟩⟩, ⟨trivial, ⟨trivial, ⟨⟨trivial, ⟨⟨trivial, ⟨⟨trivial, ⟨trivial, trivial⟩⟩, ⟨trivial, trivial⟩⟩⟩, ⟨trivial, ⟨trivial, ⟨trivial, ⟨trivial, trivial⟩⟩⟩⟩⟩⟩, ⟨trivial, trivial⟩⟩⟩⟩⟩⟩
theorem runs12x (N : Nat) (x : HS.den X12x.hin) : runX C12x X12x (L12x N) Go.Proofs.Tryd.f12 x = F12x N x.1.1 x.1.2.1.1 x.1.2.1.2.1 x.1.2.1.2.2.1 x.1.2.2.1 x.1.2.2.2.1 x.2.1.1 x.2.1.2.1 x.2.1.2.2.1 x.2.2.1 x.2.2.2.1 := by kernel_rfl

/-! ### 12: incognito/bag.Step -/
def L12 (_ : Nat) : Loops ((Int × (Int × Int × ByteArray × Unit) × Int × (List (Int × Int × ByteArray × Unit)) × Unit) × (List (Int × Int × ByteArray × Unit)) × Bool × Unit) := fun _ _ _ => none
def F12 (N : Nat) (p0 : Int × (Int × Int × ByteArray × Unit) × Int × (List (Int × Int × ByteArray × Unit)) × Unit) (p1 : Int × Int × ByteArray × Unit) (p2 : Int) (p3 : List (Int × Int × ByteArray × Unit)) : Option ((Int × (Int × Int × ByteArray × Unit) × Int × (List (Int × Int × ByteArray × Unit)) × Unit) × (List (Int × Int × ByteArray × Unit)) × Bool × Unit) :=
  bif (p0.1 != (3 : Int)) then
    some (((0 : Int), (((0 : Int), ((0 : Int), (ByteArray.empty, ()))), ((0 : Int), (([] : List (Int × (Int × (ByteArray × Unit)))), ())))), (([] : List (Int × (Int × (ByteArray × Unit)))), (false, ())))
  else
    bif (Go.Inc.okT (0 : Int) p1) then
      bif (!(Go.Inc.takes (0 : Int) p1)) then
        some (((0 : Int), (((0 : Int), ((0 : Int), (ByteArray.empty, ()))), ((0 : Int), (([] : List (Int × (Int × (ByteArray × Unit)))), ())))), (([] : List (Int × (Int × (ByteArray × Unit)))), (false, ())))
      else
        bif (Go.Inc.okF p0.1 p2 p3) then
          bif (!(Go.Inc.fits p0.1 p2 p3)) then
            some (((0 : Int), (((0 : Int), ((0 : Int), (ByteArray.empty, ()))), ((0 : Int), (([] : List (Int × (Int × (ByteArray × Unit)))), ())))), (([] : List (Int × (Int × (ByteArray × Unit)))), (false, ())))
          else
            bif decide (((List.length p0.2.2.2.1) * 32) ≤ 140737488351232) then
              bif ((decide ((0 : Int) ≤ (0 : Int))) && (decide ((0 : Int) < (((List.length p3) : Nat) : Int)))) then
              bif (Go.Inc.okPlace (List.length p0.2.2.2.1) p0.2.2.2.1) then
              bif (p2 == (6 : Int)) then
              bif ((Go.Inc.placeX (List.getD p3 (Int.toNat (0 : Int)) ((0 : Int), ((0 : Int), (ByteArray.empty, ())))) p0.2.2.2.1).2).1 then
              bif decide ((List.length p0.2.2.2.1) = (List.length ((((Go.Inc.placeX (List.getD p3 (Int.toNat (0 : Int)) ((0 : Int), ((0 : Int), (ByteArray.empty, ())))) p0.2.2.2.1).2).2).1))) then
              some ((p0.1, (p0.2.1, (p0.2.2.1, ((Go.Inc.placeX (List.getD p3 (Int.toNat (0 : Int)) ((0 : Int), ((0 : Int), (ByteArray.empty, ())))) p0.2.2.2.1).2).2))), ((((3 : Int), ((1 : Int), (ByteArray.empty, ()))) :: ([] : List (Int × (Int × (ByteArray × Unit))))), (true, ())))
            else
              none
            else
              bif decide ((List.length p0.2.2.2.1) = (List.length ((((Go.Inc.placeX (List.getD p3 (Int.toNat (0 : Int)) ((0 : Int), ((0 : Int), (ByteArray.empty, ())))) p0.2.2.2.1).2).2).1))) then
              some ((p0.1, (p0.2.1, (p0.2.2.1, ((Go.Inc.placeX (List.getD p3 (Int.toNat (0 : Int)) ((0 : Int), ((0 : Int), (ByteArray.empty, ())))) p0.2.2.2.1).2).2))), ((((3 : Int), ((0 : Int), (ByteArray.empty, ()))) :: ([] : List (Int × (Int × (ByteArray × Unit))))), (true, ())))
            else
              none
            else
              bif (p2 == (4 : Int)) then
              bif (!(((Go.Inc.placeX (List.getD p3 (Int.toNat (0 : Int)) ((0 : Int), ((0 : Int), (ByteArray.empty, ())))) p0.2.2.2.1).2).1)) then
              bif ((decide ((0 : Int) ≤ (0 : Int))) && (decide ((0 : Int) < (((List.length p3) : Nat) : Int)))) then
              bif ((decide ((List.length p0.2.2.2.1) = (List.length ((((Go.Inc.placeX (List.getD p3 (Int.toNat (0 : Int)) ((0 : Int), ((0 : Int), (ByteArray.empty, ())))) p0.2.2.2.1).2).2).1)))) && ((decide ((0 : Int) ≤ ((Go.Inc.placeX (List.getD p3 (Int.toNat (0 : Int)) ((0 : Int), ((0 : Int), (ByteArray.empty, ())))) p0.2.2.2.1).1))) && ((decide (((Go.Inc.placeX (List.getD p3 (Int.toNat (0 : Int)) ((0 : Int), ((0 : Int), (ByteArray.empty, ())))) p0.2.2.2.1).1) ≤ (((List.length ((((Go.Inc.placeX (List.getD p3 (Int.toNat (0 : Int)) ((0 : Int), ((0 : Int), (ByteArray.empty, ())))) p0.2.2.2.1).2).2).1)) : Nat) : Int))) && ((decide (0 < (List.length ((List.getD p3 (Int.toNat (0 : Int)) ((0 : Int), ((0 : Int), (ByteArray.empty, ())))) :: ([] : List (Int × (Int × (ByteArray × Unit)))))))) && (decide ((((List.length ((((Go.Inc.placeX (List.getD p3 (Int.toNat (0 : Int)) ((0 : Int), ((0 : Int), (ByteArray.empty, ())))) p0.2.2.2.1).2).2).1)) + (List.length ((List.getD p3 (Int.toNat (0 : Int)) ((0 : Int), ((0 : Int), (ByteArray.empty, ())))) :: ([] : List (Int × (Int × (ByteArray × Unit))))))) * 32) ≤ 140737488351232)))))) then
              bif decide (((List.length ((((Go.Inc.placeX (List.getD p3 (Int.toNat (0 : Int)) ((0 : Int), ((0 : Int), (ByteArray.empty, ())))) p0.2.2.2.1).2).2).1)) + (List.length ((List.getD p3 (Int.toNat (0 : Int)) ((0 : Int), ((0 : Int), (ByteArray.empty, ())))) :: ([] : List (Int × (Int × (ByteArray × Unit))))))) = (List.length ((List.take (Int.toNat ((Go.Inc.placeX (List.getD p3 (Int.toNat (0 : Int)) ((0 : Int), ((0 : Int), (ByteArray.empty, ())))) p0.2.2.2.1).1)) ((((Go.Inc.placeX (List.getD p3 (Int.toNat (0 : Int)) ((0 : Int), ((0 : Int), (ByteArray.empty, ())))) p0.2.2.2.1).2).2).1)) ++ (((List.getD p3 (Int.toNat (0 : Int)) ((0 : Int), ((0 : Int), (ByteArray.empty, ())))) :: ([] : List (Int × (Int × (ByteArray × Unit))))) ++ (List.drop (Int.toNat ((Go.Inc.placeX (List.getD p3 (Int.toNat (0 : Int)) ((0 : Int), ((0 : Int), (ByteArray.empty, ())))) p0.2.2.2.1).1)) ((((Go.Inc.placeX (List.getD p3 (Int.toNat (0 : Int)) ((0 : Int), ((0 : Int), (ByteArray.empty, ())))) p0.2.2.2.1).2).2).1)))))) then
              some ((p0.1, (p0.2.1, (p0.2.2.1, (((List.take (Int.toNat ((Go.Inc.placeX (List.getD p3 (Int.toNat (0 : Int)) ((0 : Int), ((0 : Int), (ByteArray.empty, ())))) p0.2.2.2.1).1)) ((((Go.Inc.placeX (List.getD p3 (Int.toNat (0 : Int)) ((0 : Int), ((0 : Int), (ByteArray.empty, ())))) p0.2.2.2.1).2).2).1)) ++ (((List.getD p3 (Int.toNat (0 : Int)) ((0 : Int), ((0 : Int), (ByteArray.empty, ())))) :: ([] : List (Int × (Int × (ByteArray × Unit))))) ++ (List.drop (Int.toNat ((Go.Inc.placeX (List.getD p3 (Int.toNat (0 : Int)) ((0 : Int), ((0 : Int), (ByteArray.empty, ())))) p0.2.2.2.1).1)) ((((Go.Inc.placeX (List.getD p3 (Int.toNat (0 : Int)) ((0 : Int), ((0 : Int), (ByteArray.empty, ())))) p0.2.2.2.1).2).2).1)))), ())))), (([] : List (Int × (Int × (ByteArray × Unit)))), (true, ())))
            else
              none
            else
              none
            else
              none
            else
              bif (p2 == (5 : Int)) then
              bif ((Go.Inc.placeX (List.getD p3 (Int.toNat (0 : Int)) ((0 : Int), ((0 : Int), (ByteArray.empty, ())))) p0.2.2.2.1).2).1 then
              bif ((decide ((List.length p0.2.2.2.1) = (List.length ((((Go.Inc.placeX (List.getD p3 (Int.toNat (0 : Int)) ((0 : Int), ((0 : Int), (ByteArray.empty, ())))) p0.2.2.2.1).2).2).1)))) && ((decide ((0 : Int) ≤ ((Go.Inc.placeX (List.getD p3 (Int.toNat (0 : Int)) ((0 : Int), ((0 : Int), (ByteArray.empty, ())))) p0.2.2.2.1).1))) && ((decide (((Go.Inc.placeX (List.getD p3 (Int.toNat (0 : Int)) ((0 : Int), ((0 : Int), (ByteArray.empty, ())))) p0.2.2.2.1).1) < (Go.IntKind.wrap .i64 (((Go.Inc.placeX (List.getD p3 (Int.toNat (0 : Int)) ((0 : Int), ((0 : Int), (ByteArray.empty, ())))) p0.2.2.2.1).1) + (1 : Int))))) && ((decide ((Go.IntKind.wrap .i64 (((Go.Inc.placeX (List.getD p3 (Int.toNat (0 : Int)) ((0 : Int), ((0 : Int), (ByteArray.empty, ())))) p0.2.2.2.1).1) + (1 : Int))) ≤ (((List.length ((((Go.Inc.placeX (List.getD p3 (Int.toNat (0 : Int)) ((0 : Int), ((0 : Int), (ByteArray.empty, ())))) p0.2.2.2.1).2).2).1)) : Nat) : Int))) && (decide (((List.length ((((Go.Inc.placeX (List.getD p3 (Int.toNat (0 : Int)) ((0 : Int), ((0 : Int), (ByteArray.empty, ())))) p0.2.2.2.1).2).2).1)) * 32) ≤ 140737488351232)))))) then
              bif decide (((List.length ((((Go.Inc.placeX (List.getD p3 (Int.toNat (0 : Int)) ((0 : Int), ((0 : Int), (ByteArray.empty, ())))) p0.2.2.2.1).2).2).1)) - ((Int.toNat (Go.IntKind.wrap .i64 (((Go.Inc.placeX (List.getD p3 (Int.toNat (0 : Int)) ((0 : Int), ((0 : Int), (ByteArray.empty, ())))) p0.2.2.2.1).1) + (1 : Int)))) - (Int.toNat ((Go.Inc.placeX (List.getD p3 (Int.toNat (0 : Int)) ((0 : Int), ((0 : Int), (ByteArray.empty, ())))) p0.2.2.2.1).1)))) = (List.length ((List.take (Int.toNat ((Go.Inc.placeX (List.getD p3 (Int.toNat (0 : Int)) ((0 : Int), ((0 : Int), (ByteArray.empty, ())))) p0.2.2.2.1).1)) ((((Go.Inc.placeX (List.getD p3 (Int.toNat (0 : Int)) ((0 : Int), ((0 : Int), (ByteArray.empty, ())))) p0.2.2.2.1).2).2).1)) ++ (List.drop (Int.toNat (Go.IntKind.wrap .i64 (((Go.Inc.placeX (List.getD p3 (Int.toNat (0 : Int)) ((0 : Int), ((0 : Int), (ByteArray.empty, ())))) p0.2.2.2.1).1) + (1 : Int)))) ((((Go.Inc.placeX (List.getD p3 (Int.toNat (0 : Int)) ((0 : Int), ((0 : Int), (ByteArray.empty, ())))) p0.2.2.2.1).2).2).1))))) then
              some ((p0.1, (p0.2.1, (p0.2.2.1, (((List.take (Int.toNat ((Go.Inc.placeX (List.getD p3 (Int.toNat (0 : Int)) ((0 : Int), ((0 : Int), (ByteArray.empty, ())))) p0.2.2.2.1).1)) ((((Go.Inc.placeX (List.getD p3 (Int.toNat (0 : Int)) ((0 : Int), ((0 : Int), (ByteArray.empty, ())))) p0.2.2.2.1).2).2).1)) ++ (List.drop (Int.toNat (Go.IntKind.wrap .i64 (((Go.Inc.placeX (List.getD p3 (Int.toNat (0 : Int)) ((0 : Int), ((0 : Int), (ByteArray.empty, ())))) p0.2.2.2.1).1) + (1 : Int)))) ((((Go.Inc.placeX (List.getD p3 (Int.toNat (0 : Int)) ((0 : Int), ((0 : Int), (ByteArray.empty, ())))) p0.2.2.2.1).2).2).1))), ())))), (([] : List (Int × (Int × (ByteArray × Unit)))), (true, ())))
            else
              none
            else
              none
            else
              bif decide ((List.length p0.2.2.2.1) = (List.length ((((Go.Inc.placeX (List.getD p3 (Int.toNat (0 : Int)) ((0 : Int), ((0 : Int), (ByteArray.empty, ())))) p0.2.2.2.1).2).2).1))) then
              some ((p0.1, (p0.2.1, (p0.2.2.1, ((Go.Inc.placeX (List.getD p3 (Int.toNat (0 : Int)) ((0 : Int), ((0 : Int), (ByteArray.empty, ())))) p0.2.2.2.1).2).2))), (([] : List (Int × (Int × (ByteArray × Unit)))), (true, ())))
            else
              none
            else
              bif decide ((List.length p0.2.2.2.1) = (List.length ((((Go.Inc.placeX (List.getD p3 (Int.toNat (0 : Int)) ((0 : Int), ((0 : Int), (ByteArray.empty, ())))) p0.2.2.2.1).2).2).1))) then
              some ((p0.1, (p0.2.1, (p0.2.2.1, ((Go.Inc.placeX (List.getD p3 (Int.toNat (0 : Int)) ((0 : Int), ((0 : Int), (ByteArray.empty, ())))) p0.2.2.2.1).2).2))), (([] : List (Int × (Int × (ByteArray × Unit)))), (true, ())))
            else
              none
            else
              bif (p2 == (5 : Int)) then
              bif ((Go.Inc.placeX (List.getD p3 (Int.toNat (0 : Int)) ((0 : Int), ((0 : Int), (ByteArray.empty, ())))) p0.2.2.2.1).2).1 then
              bif ((decide ((List.length p0.2.2.2.1) = (List.length ((((Go.Inc.placeX (List.getD p3 (Int.toNat (0 : Int)) ((0 : Int), ((0 : Int), (ByteArray.empty, ())))) p0.2.2.2.1).2).2).1)))) && ((decide ((0 : Int) ≤ ((Go.Inc.placeX (List.getD p3 (Int.toNat (0 : Int)) ((0 : Int), ((0 : Int), (ByteArray.empty, ())))) p0.2.2.2.1).1))) && ((decide (((Go.Inc.placeX (List.getD p3 (Int.toNat (0 : Int)) ((0 : Int), ((0 : Int), (ByteArray.empty, ())))) p0.2.2.2.1).1) < (Go.IntKind.wrap .i64 (((Go.Inc.placeX (List.getD p3 (Int.toNat (0 : Int)) ((0 : Int), ((0 : Int), (ByteArray.empty, ())))) p0.2.2.2.1).1) + (1 : Int))))) && ((decide ((Go.IntKind.wrap .i64 (((Go.Inc.placeX (List.getD p3 (Int.toNat (0 : Int)) ((0 : Int), ((0 : Int), (ByteArray.empty, ())))) p0.2.2.2.1).1) + (1 : Int))) ≤ (((List.length ((((Go.Inc.placeX (List.getD p3 (Int.toNat (0 : Int)) ((0 : Int), ((0 : Int), (ByteArray.empty, ())))) p0.2.2.2.1).2).2).1)) : Nat) : Int))) && (decide (((List.length ((((Go.Inc.placeX (List.getD p3 (Int.toNat (0 : Int)) ((0 : Int), ((0 : Int), (ByteArray.empty, ())))) p0.2.2.2.1).2).2).1)) * 32) ≤ 140737488351232)))))) then
              bif decide (((List.length ((((Go.Inc.placeX (List.getD p3 (Int.toNat (0 : Int)) ((0 : Int), ((0 : Int), (ByteArray.empty, ())))) p0.2.2.2.1).2).2).1)) - ((Int.toNat (Go.IntKind.wrap .i64 (((Go.Inc.placeX (List.getD p3 (Int.toNat (0 : Int)) ((0 : Int), ((0 : Int), (ByteArray.empty, ())))) p0.2.2.2.1).1) + (1 : Int)))) - (Int.toNat ((Go.Inc.placeX (List.getD p3 (Int.toNat (0 : Int)) ((0 : Int), ((0 : Int), (ByteArray.empty, ())))) p0.2.2.2.1).1)))) = (List.length ((List.take (Int.toNat ((Go.Inc.placeX (List.getD p3 (Int.toNat (0 : Int)) ((0 : Int), ((0 : Int), (ByteArray.empty, ())))) p0.2.2.2.1).1)) ((((Go.Inc.placeX (List.getD p3 (Int.toNat (0 : Int)) ((0 : Int), ((0 : Int), (ByteArray.empty, ())))) p0.2.2.2.1).2).2).1)) ++ (List.drop (Int.toNat (Go.IntKind.wrap .i64 (((Go.Inc.placeX (List.getD p3 (Int.toNat (0 : Int)) ((0 : Int), ((0 : Int), (ByteArray.empty, ())))) p0.2.2.2.1).1) + (1 : Int)))) ((((Go.Inc.placeX (List.getD p3 (Int.toNat (0 : Int)) ((0 : Int), ((0 : Int), (ByteArray.empty, ())))) p0.2.2.2.1).2).2).1))))) then
              some ((p0.1, (p0.2.1, (p0.2.2.1, (((List.take (Int.toNat ((Go.Inc.placeX (List.getD p3 (Int.toNat (0 : Int)) ((0 : Int), ((0 : Int), (ByteArray.empty, ())))) p0.2.2.2.1).1)) ((((Go.Inc.placeX (List.getD p3 (Int.toNat (0 : Int)) ((0 : Int), ((0 : Int), (ByteArray.empty, ())))) p0.2.2.2.1).2).2).1)) ++ (List.drop (Int.toNat (Go.IntKind.wrap .i64 (((Go.Inc.placeX (List.getD p3 (Int.toNat (0 : Int)) ((0 : Int), ((0 : Int), (ByteArray.empty, ())))) p0.2.2.2.1).1) + (1 : Int)))) ((((Go.Inc.placeX (List.getD p3 (Int.toNat (0 : Int)) ((0 : Int), ((0 : Int), (ByteArray.empty, ())))) p0.2.2.2.1).2).2).1))), ())))), (([] : List (Int × (Int × (ByteArray × Unit)))), (true, ())))
            else
              none
            else
              none
            else
              bif decide ((List.length p0.2.2.2.1) = (List.length ((((Go.Inc.placeX (List.getD p3 (Int.toNat (0 : Int)) ((0 : Int), ((0 : Int), (ByteArray.empty, ())))) p0.2.2.2.1).2).2).1))) then
              some ((p0.1, (p0.2.1, (p0.2.2.1, ((Go.Inc.placeX (List.getD p3 (Int.toNat (0 : Int)) ((0 : Int), ((0 : Int), (ByteArray.empty, ())))) p0.2.2.2.1).2).2))), (([] : List (Int × (Int × (ByteArray × Unit)))), (true, ())))
            else
              none
            else
              bif decide ((List.length p0.2.2.2.1) = (List.length ((((Go.Inc.placeX (List.getD p3 (Int.toNat (0 : Int)) ((0 : Int), ((0 : Int), (ByteArray.empty, ())))) p0.2.2.2.1).2).2).1))) then
              some ((p0.1, (p0.2.1, (p0.2.2.1, ((Go.Inc.placeX (List.getD p3 (Int.toNat (0 : Int)) ((0 : Int), ((0 : Int), (ByteArray.empty, ())))) p0.2.2.2.1).2).2))), (([] : List (Int × (Int × (ByteArray × Unit)))), (true, ())))
            else
              none
            else
              none
            else
              none
            else
              none
        else
          none
    else
      none
theorem loops12 (N : Nat) : loopsOk C12 (L12 N) Go.Proofs.Tryd.f12 := ⟨trivial, ⟨⟨trivial, ⟨⟨trivial, trivial⟩, trivial⟩⟩, ⟨trivial, ⟨trivial, ⟨⟨trivial, ⟨⟨trivial, ⟨⟨trivial, ⟨trivial, trivial⟩⟩, ⟨trivial, trivial⟩⟩⟩, ⟨trivial, ⟨trivial, ⟨trivial, ⟨trivial, trivial⟩⟩⟩⟩⟩⟩, ⟨trivial, trivial⟩⟩⟩⟩⟩⟩
theorem runs12 (N : Nat) (x : S12.ta.den) : run C12 S12 (L12 N) Go.Proofs.Tryd.f12 x = F12 N x.1 x.2.1 x.2.2.1 x.2.2.2.1 := by kernel_rfl

/-! ### 6: incognito/incognitolaw14.wakes -/
def L6 (_ : Nat) : Loops (Bool × Unit) := fun _ _ _ => none
def F6 (N : Nat) : Option (Bool × Unit) :=
  some ((Go.Inc.sameV (((Go.Inc.bagStep ((Go.Inc.bagStep ((Go.Inc.bagStep ((Go.Inc.bagNew (3 : Int)).1) (Go.Inc.num' (5 : Int)) (4 : Int) ((Go.Inc.num' (5 : Int)) :: ([] : List (Int × (Int × (ByteArray × Unit)))))).1) (Go.Inc.num' (5 : Int)) (5 : Int) ((Go.Inc.num' (5 : Int)) :: ([] : List (Int × (Int × (ByteArray × Unit)))))).1) (Go.Inc.num' (5 : Int)) (6 : Int) ((Go.Inc.num' (5 : Int)) :: ([] : List (Int × (Int × (ByteArray × Unit)))))).2).1) (((3 : Int), ((0 : Int), (ByteArray.empty, ()))) :: ([] : List (Int × (Int × (ByteArray × Unit)))))), ())
theorem loops6 (N : Nat) : loopsOk C6 (L6 N) Go.Proofs.Tryd.f6 := ⟨trivial, ⟨trivial, ⟨trivial, ⟨trivial, ⟨trivial, ⟨trivial, ⟨trivial, ⟨trivial, trivial⟩⟩⟩⟩⟩⟩⟩⟩
theorem runs6 (N : Nat) (x : S6.ta.den) : run C6 S6 (L6 N) Go.Proofs.Tryd.f6 x = F6 N := by kernel_rfl

/-! ### 11: incognito/incognitoref14.State -/
def W11_8 {β : Type} (N : Nat) (x3 : Int → (List ((Int × Int × ByteArray × Unit) × Int × (List (Int × Int × ByteArray × Unit)) × Unit)) → Int → Int → Int → ByteArray → Int → (List (Int × Int × ByteArray × Unit)) → (List (Int × Int × ByteArray × Unit)) → Int → Int → Int → ByteArray → Bool → Option β) : Nat → Int → (List ((Int × Int × ByteArray × Unit) × Int × (List (Int × Int × ByteArray × Unit)) × Unit)) → Int → Int → Int → ByteArray → Int → (List (Int × Int × ByteArray × Unit)) → (List (Int × Int × ByteArray × Unit)) → Int → Int → Int → ByteArray → Bool → Int → Option β
  | 0, _, _, _, _, _, _, _, _, _, _, _, _, _, _, _ => none
  | n + 1, t0, t1, b4a, b4ba, b4bba, b4bbba, b4bbbba, b4bbbbba, t5, t6, b7a, b7ba, b7bba, t8, t9 =>
  bif decide (t9 < (((List.length t5) : Nat) : Int)) then
    bif t8 then
      W11_8 N x3 n t0 t1 b4a b4ba b4bba b4bbba b4bbbba b4bbbbba t5 t6 b7a b7ba b7bba true (Go.IntKind.wrap .i64 (t9 + (1 : Int)))
    else
      bif ((decide ((0 : Int) ≤ t9)) && (decide (t9 < (((List.length t5) : Nat) : Int)))) then
        W11_8 N x3 n t0 t1 b4a b4ba b4bba b4bbba b4bbbba b4bbbbba t5 t6 b7a b7ba b7bba ((((List.getD t5 (Int.toNat t9) ((0 : Int), ((0 : Int), (ByteArray.empty, ())))).1) == b7a) && (((((List.getD t5 (Int.toNat t9) ((0 : Int), ((0 : Int), (ByteArray.empty, ())))).2).1) == b7ba) && ((((((List.getD t5 (Int.toNat t9) ((0 : Int), ((0 : Int), (ByteArray.empty, ())))).2).2).1) == b7bba) && true))) (Go.IntKind.wrap .i64 (t9 + (1 : Int)))
      else
        none
  else
    x3 t0 t1 b4a b4ba b4bba b4bbba b4bbbba b4bbbbba t5 t6 b7a b7ba b7bba t8
def W11_3 {β : Type} (N : Nat) (x1 : Int → Int → Int → Int → ByteArray → Int → (List (Int × Int × ByteArray × Unit)) → (List (Int × Int × ByteArray × Unit)) → Option β) : Nat → Int → (List ((Int × Int × ByteArray × Unit) × Int × (List (Int × Int × ByteArray × Unit)) × Unit)) → Int → Int → Int → ByteArray → Int → (List (Int × Int × ByteArray × Unit)) → (List (Int × Int × ByteArray × Unit)) → Int → Option β
  | 0, _, _, _, _, _, _, _, _, _, _ => none
  | n + 1, t0, t1, b4a, b4ba, b4bba, b4bbba, b4bbbba, b4bbbbba, t5, t6 =>
  bif decide (t6 < (((List.length t1) : Nat) : Int)) then
    bif ((decide ((0 : Int) ≤ t6)) && (decide (t6 < (((List.length t1) : Nat) : Int)))) then
      bif ((decide ((0 : Int) ≤ (0 : Int))) && (decide ((0 : Int) < (((List.length ((((List.getD t1 (Int.toNat t6) (((0 : Int), ((0 : Int), (ByteArray.empty, ()))), ((0 : Int), ([], ())))).2).2).1)) : Nat) : Int)))) then
        W11_8 N
          (fun t0 t1 b4a b4ba b4bba b4bbba b4bbbba b4bbbbba t5 t6 b7a b7ba b7bba t8 =>
            bif (!t8) then
              bif (Go.Inc.okBPast t1 (b7a, (b7ba, (b7bba, ())))) then
              bif (Go.Inc.bagHas t1 (b7a, (b7ba, (b7bba, ())))) then
              bif decide ((((List.length t5) + (List.length ((b7a, (b7ba, (b7bba, ()))) :: ([] : List (Int × (Int × (ByteArray × Unit))))))) * 32) ≤ 140737488351232) then
              W11_3 N x1 n t0 t1 b4a b4ba b4bba b4bbba b4bbbba b4bbbbba (t5 ++ ((b7a, (b7ba, (b7bba, ()))) :: ([] : List (Int × (Int × (ByteArray × Unit)))))) (Go.IntKind.wrap .i64 (t6 + (1 : Int)))
            else
              none
            else
              W11_3 N x1 n t0 t1 b4a b4ba b4bba b4bbba b4bbbba b4bbbbba t5 (Go.IntKind.wrap .i64 (t6 + (1 : Int)))
            else
              none
            else
              W11_3 N x1 n t0 t1 b4a b4ba b4bba b4bbba b4bbbba b4bbbbba t5 (Go.IntKind.wrap .i64 (t6 + (1 : Int))))
          N t0 t1 b4a b4ba b4bba b4bbba b4bbbba b4bbbbba t5 t6 ((List.getD ((((List.getD t1 (Int.toNat t6) (((0 : Int), ((0 : Int), (ByteArray.empty, ()))), ((0 : Int), ([], ())))).2).2).1) (Int.toNat (0 : Int)) ((0 : Int), ((0 : Int), (ByteArray.empty, ())))).1) (((List.getD ((((List.getD t1 (Int.toNat t6) (((0 : Int), ((0 : Int), (ByteArray.empty, ()))), ((0 : Int), ([], ())))).2).2).1) (Int.toNat (0 : Int)) ((0 : Int), ((0 : Int), (ByteArray.empty, ())))).2).1) ((((List.getD ((((List.getD t1 (Int.toNat t6) (((0 : Int), ((0 : Int), (ByteArray.empty, ()))), ((0 : Int), ([], ())))).2).2).1) (Int.toNat (0 : Int)) ((0 : Int), ((0 : Int), (ByteArray.empty, ())))).2).2).1) false (0 : Int)
      else
        none
    else
      none
  else
    x1 t0 b4a b4ba b4bba b4bbba b4bbbba b4bbbbba t5
def L11 (N : Nat) : Loops ((Int × (Int × Int × ByteArray × Unit) × Int × (List (Int × Int × ByteArray × Unit)) × Unit) × Unit) := fun k ρ K => match Nat.beq k 8 with
  | true => (match adH ρ H11_8.hd with
    | some v => W11_8 N (fun t0 t1 b4a b4ba b4bba b4bbba b4bbbba b4bbbbba t5 t6 b7a b7ba b7bba t8 => K (.exit 2) (encH [(0, (.i .i64)), (2, (.sl (.pr (.pr (.int .i64) (.pr (.int .i64) (.pr .str .un))) (.pr (.int .i64) (.pr (.sl (.pr (.int .i64) (.pr (.int .i64) (.pr .str .un)))) .un))) .no)), (8, (.bx 4 0)), (9, (.pr (.i .i64) (.pr (.i .i64) (.pr (.i .i64) (.pr .st (.pr (.i .i64) (.pr (.sl (.pr (.int .i64) (.pr (.int .i64) (.pr .str .un))) .full) .un))))))), (10, (.sl (.pr (.int .i64) (.pr (.int .i64) (.pr .str .un))) (.own 48))), (12, (.i .i64)), (14, (.bx 7 0)), (15, (.pr (.i .i64) (.pr (.i .i64) (.pr .st .un)))), (16, .bo)] (t0, (t1, ((), ((b4a, (b4ba, (b4bba, (b4bbba, (b4bbbba, (b4bbbbba, ())))))), (t5, (t6, ((), ((b7a, (b7ba, (b7bba, ()))), (t8, ()))))))))))) N v.1 v.2.1 v.2.2.2.1.1 v.2.2.2.1.2.1 v.2.2.2.1.2.2.1 v.2.2.2.1.2.2.2.1 v.2.2.2.1.2.2.2.2.1 v.2.2.2.1.2.2.2.2.2.1 v.2.2.2.2.1 v.2.2.2.2.2.1 v.2.2.2.2.2.2.2.1.1 v.2.2.2.2.2.2.2.1.2.1 v.2.2.2.2.2.2.2.1.2.2.1 v.2.2.2.2.2.2.2.2.1 v.2.2.2.2.2.2.2.2.2.1
    | none => none)
  | false => match Nat.beq k 3 with
  | true => (match adH ρ H11_3.hd with
    | some v => W11_3 N (fun t0 b4a b4ba b4bba b4bbba b4bbbba b4bbbbba t5 => K (.exit 0) (encH [(0, (.i .i64)), (8, (.bx 4 0)), (9, (.pr (.i .i64) (.pr (.i .i64) (.pr (.i .i64) (.pr .st (.pr (.i .i64) (.pr (.sl (.pr (.int .i64) (.pr (.int .i64) (.pr .str .un))) .full) .un))))))), (10, (.sl (.pr (.int .i64) (.pr (.int .i64) (.pr .str .un))) (.own 48)))] (t0, ((), ((b4a, (b4ba, (b4bba, (b4bbba, (b4bbbba, (b4bbbbba, ())))))), (t5, ())))))) N v.1 v.2.1 v.2.2.2.1.1 v.2.2.2.1.2.1 v.2.2.2.1.2.2.1 v.2.2.2.1.2.2.2.1 v.2.2.2.1.2.2.2.2.1 v.2.2.2.1.2.2.2.2.2.1 v.2.2.2.2.1 v.2.2.2.2.2.1
    | none => none)
  | false => none
def F11 (N : Nat) (p0 : Int) (p1 : List ((Int × Int × ByteArray × Unit) × Int × (List (Int × Int × ByteArray × Unit)) × Unit)) : Option ((Int × (Int × Int × ByteArray × Unit) × Int × (List (Int × Int × ByteArray × Unit)) × Unit) × Unit) :=
  W11_3 N
    (fun t0 b4a b4ba b4bba b4bbba b4bbbba b4bbbbba t5 =>
      bif (Go.Inc.okSort t5) then
        some ((t0, (((0 : Int), ((0 : Int), (ByteArray.empty, ()))), ((0 : Int), ((Go.Inc.sortV t5), ())))), ())
      else
        none)
    N p0 p1 (0 : Int) (0 : Int) (0 : Int) ByteArray.empty (0 : Int) ([] : List (Int × (Int × (ByteArray × Unit)))) ([] : List (Int × (Int × (ByteArray × Unit)))) (0 : Int)
theorem loops11 (N : Nat) : loopsOk C11 (L11 N) Go.Proofs.Tryd.f11 := ⟨trivial, ⟨trivial, ⟨⟨trivial, ⟨loopOk_of H11_3 N (fun K n v => W11_3 N (fun t0 b4a b4ba b4bba b4bbba b4bbbba b4bbbbba t5 => K (.exit 0) (encH [(0, (.i .i64)), (8, (.bx 4 0)), (9, (.pr (.i .i64) (.pr (.i .i64) (.pr (.i .i64) (.pr .st (.pr (.i .i64) (.pr (.sl (.pr (.int .i64) (.pr (.int .i64) (.pr .str .un))) .full) .un))))))), (10, (.sl (.pr (.int .i64) (.pr (.int .i64) (.pr .str .un))) (.own 48)))] (t0, ((), ((b4a, (b4ba, (b4bba, (b4bbba, (b4bbbba, (b4bbbbba, ())))))), (t5, ())))))) n v.1 v.2.1 v.2.2.2.1.1 v.2.2.2.1.2.1 v.2.2.2.1.2.2.1 v.2.2.2.1.2.2.2.1 v.2.2.2.1.2.2.2.2.1 v.2.2.2.1.2.2.2.2.2.1 v.2.2.2.2.1 v.2.2.2.2.2.1) (by kernel_rfl) (fun K v => by kernel_rfl) (fun K v => by kernel_rfl) (fun K n v => by kernel_rfl), ⟨⟨trivial, ⟨trivial, trivial⟩⟩, ⟨⟨trivial, ⟨trivial, ⟨⟨trivial, ⟨loopOk_of H11_8 N (fun K n v => W11_8 N (fun t0 t1 b4a b4ba b4bba b4bbba b4bbbba b4bbbbba t5 t6 b7a b7ba b7bba t8 => K (.exit 2) (encH [(0, (.i .i64)), (2, (.sl (.pr (.pr (.int .i64) (.pr (.int .i64) (.pr .str .un))) (.pr (.int .i64) (.pr (.sl (.pr (.int .i64) (.pr (.int .i64) (.pr .str .un)))) .un))) .no)), (8, (.bx 4 0)), (9, (.pr (.i .i64) (.pr (.i .i64) (.pr (.i .i64) (.pr .st (.pr (.i .i64) (.pr (.sl (.pr (.int .i64) (.pr (.int .i64) (.pr .str .un))) .full) .un))))))), (10, (.sl (.pr (.int .i64) (.pr (.int .i64) (.pr .str .un))) (.own 48))), (12, (.i .i64)), (14, (.bx 7 0)), (15, (.pr (.i .i64) (.pr (.i .i64) (.pr .st .un)))), (16, .bo)] (t0, (t1, ((), ((b4a, (b4ba, (b4bba, (b4bbba, (b4bbbba, (b4bbbbba, ())))))), (t5, (t6, ((), ((b7a, (b7ba, (b7bba, ()))), (t8, ()))))))))))) n v.1 v.2.1 v.2.2.2.1.1 v.2.2.2.1.2.1 v.2.2.2.1.2.2.1 v.2.2.2.1.2.2.2.1 v.2.2.2.1.2.2.2.2.1 v.2.2.2.1.2.2.2.2.2.1 v.2.2.2.2.1 v.2.2.2.2.2.1 v.2.2.2.2.2.2.2.1.1 v.2.2.2.2.2.2.2.1.2.1 v.2.2.2.2.2.2.2.1.2.2.1 v.2.2.2.2.2.2.2.2.1 v.2.2.2.2.2.2.2.2.2.1) (by kernel_rfl) (fun K v => by kernel_rfl) (fun K v => by kernel_rfl) (fun K n v => by kernel_rfl), ⟨⟨trivial, ⟨trivial, trivial⟩⟩, ⟨trivial, trivial⟩⟩⟩⟩, ⟨trivial, ⟨trivial, trivial⟩⟩⟩⟩⟩, trivial⟩⟩⟩⟩, ⟨trivial, trivial⟩⟩⟩⟩
theorem runs11 (N : Nat) (x : S11.ta.den) : run C11 S11 (L11 N) Go.Proofs.Tryd.f11 x = F11 N x.1 x.2.1 := by kernel_rfl

/-! ### 46: incognito/incognitoref07.IsWord -/
def W46_2 {β : Type} (N : Nat) (x0 : Bool → Option β) (x1 : ByteArray → Option β) : Nat → ByteArray → Int → Option β
  | 0, _, _ => none
  | n + 1, t0, t3 =>
  bif decide (t3 < (((ByteArray.size t0) : Nat) : Int)) then
    bif ((decide ((0 : Int) ≤ t3)) && (decide (t3 < (((ByteArray.size t0) : Nat) : Int)))) then
      bif (Go.Inc.ok8 (((UInt8.toNat (List.getD (Array.toList (ByteArray.data t0)) (Int.toNat t3) (0 : UInt8))) : Nat) : Int) (t3 == (0 : Int))) then
        bif (!(Go.Inc.letterGo (((UInt8.toNat (List.getD (Array.toList (ByteArray.data t0)) (Int.toNat t3) (0 : UInt8))) : Nat) : Int) (t3 == (0 : Int)))) then
          x0 false
        else
          W46_2 N x0 x1 n t0 (Go.IntKind.wrap .i64 (t3 + (1 : Int)))
      else
        none
    else
      none
  else
    x1 t0
def L46 (N : Nat) : Loops (Bool × Unit) := fun k ρ K => match Nat.beq k 2 with
  | true => (match adH ρ H46_2.hd with
    | some v => W46_2 N (fun t2 => K .ret (encH [(4, .bo)] (t2, ()))) (fun t0 => K (.exit 0) (encH [(0, .st)] (t0, ()))) N v.1 v.2.1
    | none => none)
  | false => none
def F46 (N : Nat) (p0 : ByteArray) : Option (Bool × Unit) :=
  W46_2 N
    (fun t2 =>
      some (t2, ()))
    (fun t0 =>
      bif decide ((((ByteArray.size t0) : Nat) : Int) ≥ (1 : Int)) then
        some (decide ((((ByteArray.size t0) : Nat) : Int) ≤ (40 : Int)), ())
      else
        some (false, ()))
    N p0 (0 : Int)
theorem loops46 (N : Nat) : loopsOk C46 (L46 N) Go.Proofs.Tryd.f46 := ⟨trivial, ⟨⟨trivial, ⟨loopOk_of H46_2 N (fun K n v => W46_2 N (fun t2 => K .ret (encH [(4, .bo)] (t2, ()))) (fun t0 => K (.exit 0) (encH [(0, .st)] (t0, ()))) n v.1 v.2.1) (by kernel_rfl) (fun K v => by kernel_rfl) (fun K v => by kernel_rfl) (fun K n v => by kernel_rfl), ⟨⟨trivial, ⟨trivial, trivial⟩⟩, ⟨⟨trivial, ⟨⟨trivial, trivial⟩, trivial⟩⟩, trivial⟩⟩⟩⟩, ⟨trivial, trivial⟩⟩⟩
theorem runs46 (N : Nat) (x : S46.ta.den) : run C46 S46 (L46 N) Go.Proofs.Tryd.f46 x = F46 N x.1 := by kernel_rfl

/-! ### 31: incognito/incognitoref07.Right -/
def L31 (_ : Nat) : Loops (Bool × Unit) := fun _ _ _ => none
def F31 (N : Nat) (p0 : Int × Int × ByteArray × Unit) : Option (Bool × Unit) :=
  bif (p0.1 == (0 : Int)) then
    bif (p0.2.1 == (0 : Int)) then
      some (((ByteArray.toList p0.2.2.1) == (ByteArray.toList (strL []))), ())
    else
      some (false, ())
  else
    bif (p0.1 == (1 : Int)) then
      some (((ByteArray.toList p0.2.2.1) == (ByteArray.toList (strL []))), ())
    else
      bif (p0.1 == (2 : Int)) then
        bif (p0.2.1 == (0 : Int)) then
          bif (Go.Inc.okS p0.2.2.1) then
            some ((Go.Inc.isWord p0.2.2.1), ())
          else
            none
        else
          some (false, ())
      else
        bif (p0.1 == (3 : Int)) then
          bif (p0.2.1 == (0 : Int)) then
            some (((ByteArray.toList p0.2.2.1) == (ByteArray.toList (strL []))), ())
          else
            bif (p0.2.1 == (1 : Int)) then
              some (((ByteArray.toList p0.2.2.1) == (ByteArray.toList (strL []))), ())
            else
              some (false, ())
        else
          some (false, ())
theorem loops31 (N : Nat) : loopsOk C31 (L31 N) Go.Proofs.Tryd.f31 := ⟨trivial, ⟨⟨trivial, ⟨trivial, ⟨⟨trivial, trivial⟩, ⟨trivial, ⟨⟨trivial, trivial⟩, ⟨trivial, ⟨⟨trivial, trivial⟩, ⟨trivial, ⟨⟨trivial, trivial⟩, trivial⟩⟩⟩⟩⟩⟩⟩⟩⟩, ⟨trivial, trivial⟩⟩⟩
theorem runs31 (N : Nat) (x : S31.ta.den) : run C31 S31 (L31 N) Go.Proofs.Tryd.f31 x = F31 N x.1 := by kernel_rfl

/-! ### 55: incognito/incognitoref09.ModelName -/
def L55 (_ : Nat) : Loops (ByteArray × Unit) := fun _ _ _ => none
def F55 (N : Nat) (p0 : Int) : Option (ByteArray × Unit) :=
  bif (p0 == (1 : Int)) then
    some ((strL [114, 101, 103]), ())
  else
    bif (p0 == (2 : Int)) then
      some ((strL [99, 97, 115]), ())
    else
      bif (p0 == (3 : Int)) then
        some ((strL [115, 101, 116]), ())
      else
        bif (p0 == (4 : Int)) then
          some ((strL [109, 97, 112]), ())
        else
          bif (p0 == (5 : Int)) then
            some ((strL [102, 105, 102, 111]), ())
          else
            bif (p0 == (6 : Int)) then
              some ((strL [115, 116, 97, 99, 107]), ())
            else
              bif (p0 == (7 : Int)) then
              some ((strL [108, 111, 99, 107]), ())
            else
              bif (p0 == (8 : Int)) then
              some ((strL [99, 111, 117, 110, 116]), ())
            else
              bif (p0 == (9 : Int)) then
              some ((strL [109, 97, 120]), ())
            else
              bif (p0 == (10 : Int)) then
              some ((strL [111, 109, 97, 112]), ())
            else
              some ((strL []), ())
theorem loops55 (N : Nat) : loopsOk C55 (L55 N) Go.Proofs.Tryd.f55 := ⟨trivial, ⟨⟨trivial, ⟨trivial, ⟨⟨trivial, trivial⟩, ⟨trivial, ⟨⟨trivial, trivial⟩, ⟨trivial, ⟨⟨trivial, trivial⟩, ⟨trivial, ⟨⟨trivial, trivial⟩, ⟨trivial, ⟨⟨trivial, trivial⟩, ⟨trivial, ⟨⟨trivial, trivial⟩, ⟨trivial, ⟨⟨trivial, trivial⟩, ⟨trivial, ⟨⟨trivial, trivial⟩, ⟨trivial, ⟨⟨trivial, trivial⟩, ⟨trivial, ⟨⟨trivial, trivial⟩, trivial⟩⟩⟩⟩⟩⟩⟩⟩⟩⟩⟩⟩⟩⟩⟩⟩⟩⟩⟩⟩⟩, ⟨trivial, trivial⟩⟩⟩
theorem runs55 (N : Nat) (x : S55.ta.den) : run C55 S55 (L55 N) Go.Proofs.Tryd.f55 x = F55 N x.1 := by kernel_rfl

/-! ### 45: incognito/incognitoref09.Takes -/
def L45 (_ : Nat) : Loops (Bool × Unit) := fun _ _ _ => none
def F45 (N : Nat) (p0 : Int) (p1 : Int × Int × ByteArray × Unit) : Option (Bool × Unit) :=
  bif decide (p0 ≥ (0 : Int)) then
    bif decide (p0 ≤ (4 : Int)) then
      bif (Go.Inc.okV p1) then
        some ((Go.Inc.name p1), ())
      else
        none
    else
      bif (p0 == (5 : Int)) then
        bif (Go.Inc.okV p1) then
          bif (Go.Inc.right p1) then
            bif (p1.1 == (1 : Int)) then
              some (true, ())
            else
              bif (p0 == (6 : Int)) then
              bif (Go.Inc.okV p1) then
              bif (Go.Inc.right p1) then
              some ((p1.1 == (3 : Int)), ())
            else
              some (false, ())
            else
              none
            else
              some (false, ())
          else
            bif (p0 == (6 : Int)) then
              bif (Go.Inc.okV p1) then
              bif (Go.Inc.right p1) then
              some ((p1.1 == (3 : Int)), ())
            else
              some (false, ())
            else
              none
            else
              some (false, ())
        else
          none
      else
        bif (p0 == (6 : Int)) then
          bif (Go.Inc.okV p1) then
            bif (Go.Inc.right p1) then
              some ((p1.1 == (3 : Int)), ())
            else
              some (false, ())
          else
            none
        else
          some (false, ())
  else
    bif (p0 == (5 : Int)) then
      bif (Go.Inc.okV p1) then
        bif (Go.Inc.right p1) then
          bif (p1.1 == (1 : Int)) then
            some (true, ())
          else
            bif (p0 == (6 : Int)) then
              bif (Go.Inc.okV p1) then
              bif (Go.Inc.right p1) then
              some ((p1.1 == (3 : Int)), ())
            else
              some (false, ())
            else
              none
            else
              some (false, ())
        else
          bif (p0 == (6 : Int)) then
            bif (Go.Inc.okV p1) then
              bif (Go.Inc.right p1) then
              some ((p1.1 == (3 : Int)), ())
            else
              some (false, ())
            else
              none
          else
            some (false, ())
      else
        none
    else
      bif (p0 == (6 : Int)) then
        bif (Go.Inc.okV p1) then
          bif (Go.Inc.right p1) then
            some ((p1.1 == (3 : Int)), ())
          else
            some (false, ())
        else
          none
      else
        some (false, ())
theorem loops45 (N : Nat) : loopsOk C45 (L45 N) Go.Proofs.Tryd.f45 := ⟨trivial, ⟨⟨trivial, ⟨⟨trivial, trivial⟩, trivial⟩⟩, ⟨trivial, trivial⟩⟩⟩
theorem runs45 (N : Nat) (x : S45.ta.den) : run C45 S45 (L45 N) Go.Proofs.Tryd.f45 x = F45 N x.1 x.2.1 := by kernel_rfl

/-! ### 13: incognito/incognitolaw14.may -/
def L13 (_ : Nat) : Loops (Bool × Unit) := fun _ _ _ => none
def F13 (N : Nat) (p0 : Int) (p1 : (Int × Int × ByteArray × Unit) × Int × (List (Int × Int × ByteArray × Unit)) × Unit) : Option (Bool × Unit) :=
  bif (Go.Inc.okV p1.1) then
    bif (Go.Inc.name p1.1) then
      bif (Go.Inc.okF p0 p1.2.1 p1.2.2.1) then
        some ((Go.Inc.fits p0 p1.2.1 p1.2.2.1), ())
      else
        none
    else
      some (false, ())
  else
    none
theorem loops13 (N : Nat) : loopsOk C13 (L13 N) Go.Proofs.Tryd.f13 := ⟨trivial, ⟨trivial, trivial⟩⟩
theorem runs13 (N : Nat) (x : S13.ta.den) : run C13 S13 (L13 N) Go.Proofs.Tryd.f13 x = F13 N x.1 x.2.1 := by kernel_rfl

/-! ### 30: incognito/incognitoref13.Yes -/
def L30 (_ : Nat) : Loops ((Int × Int × ByteArray × Unit) × Unit) := fun _ _ _ => none
def F30 (N : Nat) (p0 : Bool) : Option ((Int × Int × ByteArray × Unit) × Unit) :=
  bif p0 then
    some (((3 : Int), ((1 : Int), (ByteArray.empty, ()))), ())
  else
    some (((3 : Int), ((0 : Int), (ByteArray.empty, ()))), ())
theorem loops30 (N : Nat) : loopsOk C30 (L30 N) Go.Proofs.Tryd.f30 := ⟨trivial, ⟨⟨trivial, ⟨⟨trivial, trivial⟩, trivial⟩⟩, ⟨trivial, trivial⟩⟩⟩
theorem runs30 (N : Nat) (x : S30.ta.den) : run C30 S30 (L30 N) Go.Proofs.Tryd.f30 x = F30 N x.1 := by kernel_rfl


end Go.L14
