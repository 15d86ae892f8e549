/- The walks of package pair and its statements. Printed by a program of this session. -/
import Derived.Test.YtkkkjcpfahhhpaaDoorW0
set_option linter.unusedVariables false
set_option maxRecDepth 100000
namespace Go.L12
open Go Go.Abs Go.Inc

/-! ### 40: incognito/sign.Takes -/
def L40 (_ : Nat) : Loops (Bool × Unit) := fun _ _ _ => none
def F40 (N : Nat) (p0 : Int) (p1 : Int × Int × ByteArray × Unit) : Option (Bool × Unit) :=
  bif (Go.Inc.okV p1) then
    bif (!(Go.Inc.right p1)) then
      some (false, ())
    else
      bif (p0 == (0 : Int)) then
        bif (p0 == (0 : Int)) then
          bif (p1.1 == (1 : Int)) then
            some (true, ())
          else
            some ((p1.1 == (2 : Int)), ())
        else
          bif (p0 == (5 : Int)) then
            some ((p1.1 == (1 : Int)), ())
          else
            bif (p0 == (6 : Int)) then
              some ((p1.1 == (3 : Int)), ())
            else
              some (false, ())
      else
        bif (p0 == (1 : Int)) then
          bif (p0 == (1 : Int)) then
            bif (p1.1 == (1 : Int)) then
              some (true, ())
            else
              some ((p1.1 == (2 : Int)), ())
          else
            bif (p0 == (5 : Int)) then
              some ((p1.1 == (1 : Int)), ())
            else
              bif (p0 == (6 : Int)) then
              some ((p1.1 == (3 : Int)), ())
            else
              some (false, ())
        else
          bif (p0 == (2 : Int)) then
            bif (p0 == (2 : Int)) then
              bif (p1.1 == (1 : Int)) then
              some (true, ())
            else
              some ((p1.1 == (2 : Int)), ())
            else
              bif (p0 == (5 : Int)) then
              some ((p1.1 == (1 : Int)), ())
            else
              bif (p0 == (6 : Int)) then
              some ((p1.1 == (3 : Int)), ())
            else
              some (false, ())
          else
            bif (p0 == (3 : Int)) then
              bif (p0 == (3 : Int)) then
              bif (p1.1 == (1 : Int)) then
              some (true, ())
            else
              some ((p1.1 == (2 : Int)), ())
            else
              bif (p0 == (5 : Int)) then
              some ((p1.1 == (1 : Int)), ())
            else
              bif (p0 == (6 : Int)) then
              some ((p1.1 == (3 : Int)), ())
            else
              some (false, ())
            else
              bif (p0 == (4 : Int)) then
              bif (p1.1 == (1 : Int)) then
              some (true, ())
            else
              some ((p1.1 == (2 : Int)), ())
            else
              bif (p0 == (5 : Int)) then
              some ((p1.1 == (1 : Int)), ())
            else
              bif (p0 == (6 : Int)) then
              some ((p1.1 == (3 : Int)), ())
            else
              some (false, ())
  else
    none
theorem loops40 (N : Nat) : loopsOk C40 (L40 N) Go.Proofs.Tryd.f40 := ⟨trivial, ⟨⟨trivial, ⟨⟨trivial, trivial⟩, trivial⟩⟩, ⟨⟨trivial, ⟨⟨trivial, ⟨trivial, ⟨trivial, ⟨trivial, ⟨trivial, ⟨trivial, ⟨trivial, ⟨trivial, trivial⟩⟩⟩⟩⟩⟩⟩⟩, ⟨⟨trivial, trivial⟩, ⟨trivial, ⟨⟨trivial, trivial⟩, trivial⟩⟩⟩⟩⟩, ⟨trivial, trivial⟩⟩⟩⟩
theorem runs40 (N : Nat) (x : S40.ta.den) : run C40 S40 (L40 N) Go.Proofs.Tryd.f40 x = F40 N x.1 x.2.1 := by kernel_rfl

/-! ### 42: incognito/sign.Args -/
def W42_6 {β : Type} (N : Nat) (x1 : (List Int) → Option β) : Nat → Int → Int → ByteArray → Int → Bool → (List Int) → Int → Int → Option β
  | 0, _, _, _, _, _, _, _, _ => none
  | n + 1, b6a, b6ba, b6bba, b6bbba, b6bbbba, t8, t20, t21 =>
  bif decide (t21 < t20) then
    bif ((decide ((0 : Int) ≤ t21)) && (decide (t21 < (((ByteArray.size b6bba) : Nat) : Int)))) then
      bif decide ((((List.length t8) + (List.length ((Go.Inc.domain (((UInt8.toNat (List.getD (Array.toList (ByteArray.data b6bba)) (Int.toNat t21) (0 : UInt8))) : Nat) : Int)) :: ([] : List Int)))) * 8) ≤ 140737488351232) then
        W42_6 N x1 n b6a b6ba b6bba b6bbba b6bbbba (t8 ++ ((Go.Inc.domain (((UInt8.toNat (List.getD (Array.toList (ByteArray.data b6bba)) (Int.toNat t21) (0 : UInt8))) : Nat) : Int)) :: ([] : List Int))) t20 (Go.IntKind.wrap .i64 (t21 + (1 : Int)))
      else
        none
    else
      none
  else
    x1 t8
def L42 (N : Nat) : Loops ((List Int) × Bool × Unit) := fun k ρ K => match Nat.beq k 6 with
  | true => (match adH ρ H42_6.hd with
    | some v => W42_6 N (fun t8 => K (.exit 0) (encH [(16, (.sl (.int .i64) (.own 31)))] (t8, ()))) N v.2.1.1 v.2.1.2.1 v.2.1.2.2.1 v.2.1.2.2.2.1 v.2.1.2.2.2.2.1 v.2.2.1 v.2.2.2.1 v.2.2.2.2.1
    | none => none)
  | false => none
def F42 (N : Nat) (p0 : Int) (p1 : Int) : Option ((List Int) × Bool × Unit) :=
  bif (!(((Go.Inc.findGo p0 p1).2).1)) then
    some (([] : List Int), (false, ()))
  else
    W42_6 N
      (fun t8 =>
        some (t8, (true, ())))
      N (((Go.Inc.findGo p0 p1).1).1) ((((Go.Inc.findGo p0 p1).1).2).1) (((((Go.Inc.findGo p0 p1).1).2).2).1) ((((((Go.Inc.findGo p0 p1).1).2).2).2).1) (((((((Go.Inc.findGo p0 p1).1).2).2).2).2).1) ([] : List Int) (((ByteArray.size (((((Go.Inc.findGo p0 p1).1).2).2).1)) : Nat) : Int) (0 : Int)
theorem loops42 (N : Nat) : loopsOk C42 (L42 N) Go.Proofs.Tryd.f42 := ⟨trivial, ⟨trivial, ⟨⟨trivial, ⟨⟨trivial, trivial⟩, trivial⟩⟩, ⟨trivial, ⟨⟨trivial, ⟨loopOk_of H42_6 N (fun K n v => W42_6 N (fun t8 => K (.exit 0) (encH [(16, (.sl (.int .i64) (.own 31)))] (t8, ()))) n v.2.1.1 v.2.1.2.1 v.2.1.2.2.1 v.2.1.2.2.2.1 v.2.1.2.2.2.2.1 v.2.2.1 v.2.2.2.1 v.2.2.2.2.1) (by kernel_rfl) (fun K v => by kernel_rfl) (fun K v => by kernel_rfl) (fun K n v => by kernel_rfl), ⟨trivial, ⟨⟨trivial, trivial⟩, ⟨⟨trivial, trivial⟩, trivial⟩⟩⟩⟩⟩, ⟨trivial, trivial⟩⟩⟩⟩⟩⟩
theorem runs42 (N : Nat) (x : S42.ta.den) : run C42 S42 (L42 N) Go.Proofs.Tryd.f42 x = F42 N x.1 x.2.1 := by kernel_rfl

/-! ### 33: incognito/event.Right -/
def W33_9 {β : Type} (N : Nat) (x0 : Bool → Option β) (x1 : Int → Int → Int → ByteArray → Int → Int → Int → Int → ByteArray → Int → (List (Int × Int × ByteArray × Unit)) → (List (Int × Int × ByteArray × Unit)) → Bool → ByteArray → Option β) : Nat → Int → Int → Int → ByteArray → Int → Int → Int → Int → ByteArray → Int → (List (Int × Int × ByteArray × Unit)) → (List (Int × Int × ByteArray × Unit)) → Bool → ByteArray → (List (Int × Int × ByteArray × Unit)) → Int → Int → Option β
  | 0, _, _, _, _, _, _, _, _, _, _, _, _, _, _, _, _, _ => none
  | n + 1, b1a, b1ba, b1bba, b1bbba, b1bbbba, b1bbbbba, b1bbbbbba, b1bbbbbbba, b1bbbbbbbba, b1bbbbbbbbba, b1bbbbbbbbbba, b1bbbbbbbbbbba, b1bbbbbbbbbbbba, b1bbbbbbbbbbbbba, t71, t72, t73 =>
  bif decide (t73 < t72) then
    bif ((decide ((0 : Int) ≤ t73)) && (decide (t73 < (((List.length t71) : Nat) : Int)))) then
      bif (Go.Inc.okV (List.getD t71 (Int.toNat t73) ((0 : Int), ((0 : Int), (ByteArray.empty, ()))))) then
        bif (!(Go.Inc.right (List.getD t71 (Int.toNat t73) ((0 : Int), ((0 : Int), (ByteArray.empty, ())))))) then
          x0 false
        else
          W33_9 N x0 x1 n b1a b1ba b1bba b1bbba b1bbbba b1bbbbba b1bbbbbba b1bbbbbbba b1bbbbbbbba b1bbbbbbbbba b1bbbbbbbbbba b1bbbbbbbbbbba b1bbbbbbbbbbbba b1bbbbbbbbbbbbba t71 t72 (Go.IntKind.wrap .i64 (t73 + (1 : Int)))
      else
        none
    else
      none
  else
    x1 b1a b1ba b1bba b1bbba b1bbbba b1bbbbba b1bbbbbba b1bbbbbbba b1bbbbbbbba b1bbbbbbbbba b1bbbbbbbbbba b1bbbbbbbbbbba b1bbbbbbbbbbbba b1bbbbbbbbbbbbba
def L33 (N : Nat) : Loops (Bool × Unit) := fun k ρ K => match Nat.beq k 9 with
  | true => (match adH ρ H33_9.hd with
    | some v => W33_9 N (fun t2 => K .ret (encH [(4, .bo)] (t2, ()))) (fun b1a b1ba b1bba b1bbba b1bbbba b1bbbbba b1bbbbbba b1bbbbbbba b1bbbbbbbba b1bbbbbbbbba b1bbbbbbbbbba b1bbbbbbbbbbba b1bbbbbbbbbbbba b1bbbbbbbbbbbbba => K (.exit 0) (encH [(2, (.bx 1 0)), (3, (.pr (.i .i64) (.pr (.i .i64) (.pr (.i .i64) (.pr .st (.pr (.i .i64) (.pr (.i .i64) (.pr (.i .i64) (.pr (.i .i64) (.pr .st (.pr (.i .i64) (.pr (.sl (.pr (.int .i64) (.pr (.int .i64) (.pr .str .un))) .no) (.pr (.sl (.pr (.int .i64) (.pr (.int .i64) (.pr .str .un))) .no) (.pr .bo (.pr .st .un)))))))))))))))] ((), ((b1a, (b1ba, (b1bba, (b1bbba, (b1bbbba, (b1bbbbba, (b1bbbbbba, (b1bbbbbbba, (b1bbbbbbbba, (b1bbbbbbbbba, (b1bbbbbbbbbba, (b1bbbbbbbbbbba, (b1bbbbbbbbbbbba, (b1bbbbbbbbbbbbba, ())))))))))))))), ())))) N v.2.1.1 v.2.1.2.1 v.2.1.2.2.1 v.2.1.2.2.2.1 v.2.1.2.2.2.2.1 v.2.1.2.2.2.2.2.1 v.2.1.2.2.2.2.2.2.1 v.2.1.2.2.2.2.2.2.2.1 v.2.1.2.2.2.2.2.2.2.2.1 v.2.1.2.2.2.2.2.2.2.2.2.1 v.2.1.2.2.2.2.2.2.2.2.2.2.1 v.2.1.2.2.2.2.2.2.2.2.2.2.2.1 v.2.1.2.2.2.2.2.2.2.2.2.2.2.2.1 v.2.1.2.2.2.2.2.2.2.2.2.2.2.2.2.1 v.2.2.1 v.2.2.2.1 v.2.2.2.2.1
    | none => none)
  | false => none
def F33 (N : Nat) (p0 : Int × (Int × Int × ByteArray × Unit) × Int × Int × (Int × Int × ByteArray × Unit) × Int × (List (Int × Int × ByteArray × Unit)) × (List (Int × Int × ByteArray × Unit)) × Bool × ByteArray × Unit) : Option (Bool × Unit) :=
  bif decide (p0.1 < (0 : Int)) then
    some (false, ())
  else
    bif (Go.Inc.okT (0 : Int) p0.2.1) then
      bif (!(Go.Inc.takes (0 : Int) p0.2.1)) then
        some (false, ())
      else
        bif (Go.Inc.okE p0) then
          bif (!(Go.Inc.notedE p0)) then
            some (false, ())
          else
            bif (p0.2.2.1 == (1 : Int)) then
              bif ((Go.Inc.argsGo p0.2.2.2.1 p0.2.2.2.2.2.1).2).1 then
              bif (Go.Inc.okT (1 : Int) p0.2.2.2.2.1) then
              bif (Go.Inc.takes (1 : Int) p0.2.2.2.2.1) then
              bif (Go.Inc.okEvFits ((Go.Inc.argsGo p0.2.2.2.1 p0.2.2.2.2.2.1).1) p0.2.2.2.2.2.2.1) then
              bif (Go.Inc.evFits ((Go.Inc.argsGo p0.2.2.2.1 p0.2.2.2.2.2.1).1) p0.2.2.2.2.2.2.1) then
              some (((((List.length p0.2.2.2.2.2.2.2.1) : Nat) : Int) == (0 : Int)), ())
            else
              some (false, ())
            else
              none
            else
              some (false, ())
            else
              none
            else
              some (false, ())
            else
              bif (p0.2.2.2.1 != (0 : Int)) then
              some (false, ())
            else
              bif (p0.2.2.2.2.2.1 != (0 : Int)) then
              some (false, ())
            else
              bif (!((p0.2.2.2.2.1.1 == (0 : Int)) && ((p0.2.2.2.2.1.2.1 == (0 : Int)) && ((p0.2.2.2.2.1.2.2.1 == ByteArray.empty) && true)))) then
              some (false, ())
            else
              bif decide ((((List.length p0.2.2.2.2.2.2.1) : Nat) : Int) > (0 : Int)) then
              some (false, ())
            else
              W33_9 N
              (fun t2 =>
                some (t2, ()))
              (fun b1a b1ba b1bba b1bbba b1bbbba b1bbbbba b1bbbbbba b1bbbbbbba b1bbbbbbbba b1bbbbbbbbba b1bbbbbbbbbba b1bbbbbbbbbbba b1bbbbbbbbbbbba b1bbbbbbbbbbbbba =>
                bif (b1bbbba == (2 : Int)) then
              some (true, ())
            else
              bif (b1bbbba == (3 : Int)) then
              some (((((List.length b1bbbbbbbbbbba) : Nat) : Int) == (0 : Int)), ())
            else
              bif (b1bbbba == (4 : Int)) then
              some (((((List.length b1bbbbbbbbbbba) : Nat) : Int) == (0 : Int)), ())
            else
              some (false, ()))
              N p0.1 p0.2.1.1 p0.2.1.2.1 p0.2.1.2.2.1 p0.2.2.1 p0.2.2.2.1 p0.2.2.2.2.1.1 p0.2.2.2.2.1.2.1 p0.2.2.2.2.1.2.2.1 p0.2.2.2.2.2.1 p0.2.2.2.2.2.2.1 p0.2.2.2.2.2.2.2.1 p0.2.2.2.2.2.2.2.2.1 p0.2.2.2.2.2.2.2.2.2.1 p0.2.2.2.2.2.2.2.1 (((List.length p0.2.2.2.2.2.2.2.1) : Nat) : Int) (0 : Int)
        else
          none
    else
      none
theorem loops33 (N : Nat) : loopsOk C33 (L33 N) Go.Proofs.Tryd.f33 := ⟨trivial, ⟨⟨trivial, ⟨⟨trivial, trivial⟩, trivial⟩⟩, ⟨⟨trivial, ⟨⟨trivial, ⟨trivial, trivial⟩⟩, trivial⟩⟩, ⟨⟨trivial, ⟨⟨trivial, trivial⟩, trivial⟩⟩, ⟨⟨trivial, ⟨loopOk_of H33_9 N (fun K n v => W33_9 N (fun t2 => K .ret (encH [(4, .bo)] (t2, ()))) (fun b1a b1ba b1bba b1bbba b1bbbba b1bbbbba b1bbbbbba b1bbbbbbba b1bbbbbbbba b1bbbbbbbbba b1bbbbbbbbbba b1bbbbbbbbbbba b1bbbbbbbbbbbba b1bbbbbbbbbbbbba => K (.exit 0) (encH [(2, (.bx 1 0)), (3, (.pr (.i .i64) (.pr (.i .i64) (.pr (.i .i64) (.pr .st (.pr (.i .i64) (.pr (.i .i64) (.pr (.i .i64) (.pr (.i .i64) (.pr .st (.pr (.i .i64) (.pr (.sl (.pr (.int .i64) (.pr (.int .i64) (.pr .str .un))) .no) (.pr (.sl (.pr (.int .i64) (.pr (.int .i64) (.pr .str .un))) .no) (.pr .bo (.pr .st .un)))))))))))))))] ((), ((b1a, (b1ba, (b1bba, (b1bbba, (b1bbbba, (b1bbbbba, (b1bbbbbba, (b1bbbbbbba, (b1bbbbbbbba, (b1bbbbbbbbba, (b1bbbbbbbbbba, (b1bbbbbbbbbbba, (b1bbbbbbbbbbbba, (b1bbbbbbbbbbbbba, ())))))))))))))), ())))) n v.2.1.1 v.2.1.2.1 v.2.1.2.2.1 v.2.1.2.2.2.1 v.2.1.2.2.2.2.1 v.2.1.2.2.2.2.2.1 v.2.1.2.2.2.2.2.2.1 v.2.1.2.2.2.2.2.2.2.1 v.2.1.2.2.2.2.2.2.2.2.1 v.2.1.2.2.2.2.2.2.2.2.2.1 v.2.1.2.2.2.2.2.2.2.2.2.2.1 v.2.1.2.2.2.2.2.2.2.2.2.2.2.1 v.2.1.2.2.2.2.2.2.2.2.2.2.2.2.1 v.2.1.2.2.2.2.2.2.2.2.2.2.2.2.2.1 v.2.2.1 v.2.2.2.1 v.2.2.2.2.1) (by kernel_rfl) (fun K v => by kernel_rfl) (fun K v => by kernel_rfl) (fun K n v => by kernel_rfl), ⟨trivial, ⟨⟨trivial, trivial⟩, ⟨⟨trivial, ⟨trivial, ⟨⟨trivial, trivial⟩, trivial⟩⟩⟩, trivial⟩⟩⟩⟩⟩, ⟨trivial, trivial⟩⟩⟩⟩⟩⟩
theorem runs33 (N : Nat) (x : S33.ta.den) : run C33 S33 (L33 N) Go.Proofs.Tryd.f33 x = F33 N x.1 := by kernel_rfl

/-! ### 12: incognito/pair.Opers -/
def W12_6 {β : Type} (N : Nat) (x1 : Int → Int → Int → Int → (List ((Int × Int × ByteArray × Unit) × Int × (Int × Int × ByteArray × Unit) × Int × (List (Int × Int × ByteArray × Unit)) × (List (Int × Int × ByteArray × Unit)) × Int × Int × Unit)) → Option β) : Nat → (List (Int × (Int × Int × ByteArray × Unit) × Int × Int × (Int × Int × ByteArray × Unit) × Int × (List (Int × Int × ByteArray × Unit)) × (List (Int × Int × ByteArray × Unit)) × Bool × ByteArray × Unit)) → Int → Int → Int → Int → (List ((Int × Int × ByteArray × Unit) × Int × (Int × Int × ByteArray × Unit) × Int × (List (Int × Int × ByteArray × Unit)) × (List (Int × Int × ByteArray × Unit)) × Int × Int × Unit)) → Int → (List Int) → (List Int) → (List (Int × (Int × Int × ByteArray × Unit) × Int × Int × (Int × Int × ByteArray × Unit) × Int × (List (Int × Int × ByteArray × Unit)) × (List (Int × Int × ByteArray × Unit)) × Bool × ByteArray × Unit)) → Int → Int → Option β
  | 0, _, _, _, _, _, _, _, _, _, _, _, _ => none
  | n + 1, t0, b3a, b3ba, b5a, b5ba, t6, b13bba, b13bbba, b13bbbba, t20, t21, t22 =>
  bif decide (t22 < t21) then
    bif ((decide ((0 : Int) ≤ t22)) && (decide (t22 < (((List.length t20) : Nat) : Int)))) then
      bif (((((List.getD t20 (Int.toNat t22) ((0 : Int), (((0 : Int), ((0 : Int), (ByteArray.empty, ()))), ((0 : Int), ((0 : Int), (((0 : Int), ((0 : Int), (ByteArray.empty, ()))), ((0 : Int), ([], ([], (false, (ByteArray.empty, ()))))))))))).2).2).1) != (1 : Int)) then
        W12_6 N x1 n t0 b3a b3ba b5a b5ba t6 b13bba b13bbba b13bbbba t20 t21 (Go.IntKind.wrap .i64 (t22 + (1 : Int)))
      else
        bif (Go.Inc.okIdxI b13bbba t22) then
          bif (Go.Inc.hasI b13bbba t22) then
            W12_6 N x1 n t0 b3a b3ba b5a b5ba t6 b13bba b13bbba b13bbbba t20 t21 (Go.IntKind.wrap .i64 (t22 + (1 : Int)))
          else
            bif (Go.Inc.okClone ((((((((List.getD t20 (Int.toNat t22) ((0 : Int), (((0 : Int), ((0 : Int), (ByteArray.empty, ()))), ((0 : Int), ((0 : Int), (((0 : Int), ((0 : Int), (ByteArray.empty, ()))), ((0 : Int), ([], ([], (false, (ByteArray.empty, ()))))))))))).2).2).2).2).2).2).1)) then
              bif ((decide ((0 : Int) ≤ t22)) && (decide (t22 < (((List.length b13bbbba) : Nat) : Int)))) then
              bif decide ((List.getD b13bbbba (Int.toNat t22) (0 : Int)) > (0 : Int)) then
              bif ((decide ((0 : Int) ≤ (List.getD b13bbbba (Int.toNat t22) (0 : Int)))) && (decide ((List.getD b13bbbba (Int.toNat t22) (0 : Int)) < (((List.length t0) : Nat) : Int)))) then
              bif (Go.Inc.okClone (((((((((List.getD t0 (Int.toNat (List.getD b13bbbba (Int.toNat t22) (0 : Int))) ((0 : Int), (((0 : Int), ((0 : Int), (ByteArray.empty, ()))), ((0 : Int), ((0 : Int), (((0 : Int), ((0 : Int), (ByteArray.empty, ()))), ((0 : Int), ([], ([], (false, (ByteArray.empty, ()))))))))))).2).2).2).2).2).2).2).1)) then
              bif decide ((((List.length t6) + (List.length ((((List.getD t20 (Int.toNat t22) ((0 : Int), (((0 : Int), ((0 : Int), (ByteArray.empty, ()))), ((0 : Int), ((0 : Int), (((0 : Int), ((0 : Int), (ByteArray.empty, ()))), ((0 : Int), ([], ([], (false, (ByteArray.empty, ()))))))))))).2).1, (((((List.getD t20 (Int.toNat t22) ((0 : Int), (((0 : Int), ((0 : Int), (ByteArray.empty, ()))), ((0 : Int), ((0 : Int), (((0 : Int), ((0 : Int), (ByteArray.empty, ()))), ((0 : Int), ([], ([], (false, (ByteArray.empty, ()))))))))))).2).2).2).1, ((((((List.getD t20 (Int.toNat t22) ((0 : Int), (((0 : Int), ((0 : Int), (ByteArray.empty, ()))), ((0 : Int), ((0 : Int), (((0 : Int), ((0 : Int), (ByteArray.empty, ()))), ((0 : Int), ([], ([], (false, (ByteArray.empty, ()))))))))))).2).2).2).2).1, (((((((List.getD t20 (Int.toNat t22) ((0 : Int), (((0 : Int), ((0 : Int), (ByteArray.empty, ()))), ((0 : Int), ((0 : Int), (((0 : Int), ((0 : Int), (ByteArray.empty, ()))), ((0 : Int), ([], ([], (false, (ByteArray.empty, ()))))))))))).2).2).2).2).2).1, ((Go.Inc.cloneV ((((((((List.getD t20 (Int.toNat t22) ((0 : Int), (((0 : Int), ((0 : Int), (ByteArray.empty, ()))), ((0 : Int), ((0 : Int), (((0 : Int), ((0 : Int), (ByteArray.empty, ()))), ((0 : Int), ([], ([], (false, (ByteArray.empty, ()))))))))))).2).2).2).2).2).2).1)), ((Go.Inc.cloneV (((((((((List.getD t0 (Int.toNat (List.getD b13bbbba (Int.toNat t22) (0 : Int))) ((0 : Int), (((0 : Int), ((0 : Int), (ByteArray.empty, ()))), ((0 : Int), ((0 : Int), (((0 : Int), ((0 : Int), (ByteArray.empty, ()))), ((0 : Int), ([], ([], (false, (ByteArray.empty, ()))))))))))).2).2).2).2).2).2).2).1)), (t22, ((List.getD b13bbbba (Int.toNat t22) (0 : Int)), ())))))))) :: ([] : List ((Int × (Int × (ByteArray × Unit))) × (Int × ((Int × (Int × (ByteArray × Unit))) × (Int × ((List (Int × (Int × (ByteArray × Unit)))) × ((List (Int × (Int × (ByteArray × Unit)))) × (Int × (Int × Unit)))))))))))) * 144) ≤ 140737488351232) then
              W12_6 N x1 n t0 b3a b3ba b5a b5ba (t6 ++ ((((List.getD t20 (Int.toNat t22) ((0 : Int), (((0 : Int), ((0 : Int), (ByteArray.empty, ()))), ((0 : Int), ((0 : Int), (((0 : Int), ((0 : Int), (ByteArray.empty, ()))), ((0 : Int), ([], ([], (false, (ByteArray.empty, ()))))))))))).2).1, (((((List.getD t20 (Int.toNat t22) ((0 : Int), (((0 : Int), ((0 : Int), (ByteArray.empty, ()))), ((0 : Int), ((0 : Int), (((0 : Int), ((0 : Int), (ByteArray.empty, ()))), ((0 : Int), ([], ([], (false, (ByteArray.empty, ()))))))))))).2).2).2).1, ((((((List.getD t20 (Int.toNat t22) ((0 : Int), (((0 : Int), ((0 : Int), (ByteArray.empty, ()))), ((0 : Int), ((0 : Int), (((0 : Int), ((0 : Int), (ByteArray.empty, ()))), ((0 : Int), ([], ([], (false, (ByteArray.empty, ()))))))))))).2).2).2).2).1, (((((((List.getD t20 (Int.toNat t22) ((0 : Int), (((0 : Int), ((0 : Int), (ByteArray.empty, ()))), ((0 : Int), ((0 : Int), (((0 : Int), ((0 : Int), (ByteArray.empty, ()))), ((0 : Int), ([], ([], (false, (ByteArray.empty, ()))))))))))).2).2).2).2).2).1, ((Go.Inc.cloneV ((((((((List.getD t20 (Int.toNat t22) ((0 : Int), (((0 : Int), ((0 : Int), (ByteArray.empty, ()))), ((0 : Int), ((0 : Int), (((0 : Int), ((0 : Int), (ByteArray.empty, ()))), ((0 : Int), ([], ([], (false, (ByteArray.empty, ()))))))))))).2).2).2).2).2).2).1)), ((Go.Inc.cloneV (((((((((List.getD t0 (Int.toNat (List.getD b13bbbba (Int.toNat t22) (0 : Int))) ((0 : Int), (((0 : Int), ((0 : Int), (ByteArray.empty, ()))), ((0 : Int), ((0 : Int), (((0 : Int), ((0 : Int), (ByteArray.empty, ()))), ((0 : Int), ([], ([], (false, (ByteArray.empty, ()))))))))))).2).2).2).2).2).2).2).1)), (t22, ((List.getD b13bbbba (Int.toNat t22) (0 : Int)), ())))))))) :: ([] : List ((Int × (Int × (ByteArray × Unit))) × (Int × ((Int × (Int × (ByteArray × Unit))) × (Int × ((List (Int × (Int × (ByteArray × Unit)))) × ((List (Int × (Int × (ByteArray × Unit)))) × (Int × (Int × Unit))))))))))) b13bba b13bbba b13bbbba t20 t21 (Go.IntKind.wrap .i64 (t22 + (1 : Int)))
            else
              none
            else
              none
            else
              none
            else
              bif decide ((((List.length t6) + (List.length ((((List.getD t20 (Int.toNat t22) ((0 : Int), (((0 : Int), ((0 : Int), (ByteArray.empty, ()))), ((0 : Int), ((0 : Int), (((0 : Int), ((0 : Int), (ByteArray.empty, ()))), ((0 : Int), ([], ([], (false, (ByteArray.empty, ()))))))))))).2).1, (((((List.getD t20 (Int.toNat t22) ((0 : Int), (((0 : Int), ((0 : Int), (ByteArray.empty, ()))), ((0 : Int), ((0 : Int), (((0 : Int), ((0 : Int), (ByteArray.empty, ()))), ((0 : Int), ([], ([], (false, (ByteArray.empty, ()))))))))))).2).2).2).1, ((((((List.getD t20 (Int.toNat t22) ((0 : Int), (((0 : Int), ((0 : Int), (ByteArray.empty, ()))), ((0 : Int), ((0 : Int), (((0 : Int), ((0 : Int), (ByteArray.empty, ()))), ((0 : Int), ([], ([], (false, (ByteArray.empty, ()))))))))))).2).2).2).2).1, (((((((List.getD t20 (Int.toNat t22) ((0 : Int), (((0 : Int), ((0 : Int), (ByteArray.empty, ()))), ((0 : Int), ((0 : Int), (((0 : Int), ((0 : Int), (ByteArray.empty, ()))), ((0 : Int), ([], ([], (false, (ByteArray.empty, ()))))))))))).2).2).2).2).2).1, ((Go.Inc.cloneV ((((((((List.getD t20 (Int.toNat t22) ((0 : Int), (((0 : Int), ((0 : Int), (ByteArray.empty, ()))), ((0 : Int), ((0 : Int), (((0 : Int), ((0 : Int), (ByteArray.empty, ()))), ((0 : Int), ([], ([], (false, (ByteArray.empty, ()))))))))))).2).2).2).2).2).2).1)), (([] : List (Int × (Int × (ByteArray × Unit)))), (t22, ((-(1 : Int)), ())))))))) :: ([] : List ((Int × (Int × (ByteArray × Unit))) × (Int × ((Int × (Int × (ByteArray × Unit))) × (Int × ((List (Int × (Int × (ByteArray × Unit)))) × ((List (Int × (Int × (ByteArray × Unit)))) × (Int × (Int × Unit)))))))))))) * 144) ≤ 140737488351232) then
              W12_6 N x1 n t0 b3a b3ba b5a b5ba (t6 ++ ((((List.getD t20 (Int.toNat t22) ((0 : Int), (((0 : Int), ((0 : Int), (ByteArray.empty, ()))), ((0 : Int), ((0 : Int), (((0 : Int), ((0 : Int), (ByteArray.empty, ()))), ((0 : Int), ([], ([], (false, (ByteArray.empty, ()))))))))))).2).1, (((((List.getD t20 (Int.toNat t22) ((0 : Int), (((0 : Int), ((0 : Int), (ByteArray.empty, ()))), ((0 : Int), ((0 : Int), (((0 : Int), ((0 : Int), (ByteArray.empty, ()))), ((0 : Int), ([], ([], (false, (ByteArray.empty, ()))))))))))).2).2).2).1, ((((((List.getD t20 (Int.toNat t22) ((0 : Int), (((0 : Int), ((0 : Int), (ByteArray.empty, ()))), ((0 : Int), ((0 : Int), (((0 : Int), ((0 : Int), (ByteArray.empty, ()))), ((0 : Int), ([], ([], (false, (ByteArray.empty, ()))))))))))).2).2).2).2).1, (((((((List.getD t20 (Int.toNat t22) ((0 : Int), (((0 : Int), ((0 : Int), (ByteArray.empty, ()))), ((0 : Int), ((0 : Int), (((0 : Int), ((0 : Int), (ByteArray.empty, ()))), ((0 : Int), ([], ([], (false, (ByteArray.empty, ()))))))))))).2).2).2).2).2).1, ((Go.Inc.cloneV ((((((((List.getD t20 (Int.toNat t22) ((0 : Int), (((0 : Int), ((0 : Int), (ByteArray.empty, ()))), ((0 : Int), ((0 : Int), (((0 : Int), ((0 : Int), (ByteArray.empty, ()))), ((0 : Int), ([], ([], (false, (ByteArray.empty, ()))))))))))).2).2).2).2).2).2).1)), (([] : List (Int × (Int × (ByteArray × Unit)))), (t22, ((-(1 : Int)), ())))))))) :: ([] : List ((Int × (Int × (ByteArray × Unit))) × (Int × ((Int × (Int × (ByteArray × Unit))) × (Int × ((List (Int × (Int × (ByteArray × Unit)))) × ((List (Int × (Int × (ByteArray × Unit)))) × (Int × (Int × Unit))))))))))) b13bba b13bbba b13bbbba t20 t21 (Go.IntKind.wrap .i64 (t22 + (1 : Int)))
            else
              none
            else
              none
            else
              none
        else
          none
    else
      none
  else
    x1 b3a b3ba b5a b5ba t6
def L12 (N : Nat) : Loops ((List ((Int × Int × ByteArray × Unit) × Int × (Int × Int × ByteArray × Unit) × Int × (List (Int × Int × ByteArray × Unit)) × (List (Int × Int × ByteArray × Unit)) × Int × Int × Unit)) × (Int × Int × Unit) × Unit) := fun k ρ K => match Nat.beq k 6 with
  | true => (match adH ρ H12_6.hd with
    | some v => W12_6 N (fun b3a b3ba b5a b5ba t6 => K (.exit 0) (encH [(6, (.bx 3 0)), (7, (.pr (.i .i64) (.pr (.i .i64) .un))), (10, (.bx 5 0)), (11, (.pr (.i .i64) (.pr (.i .i64) .un))), (12, (.sl (.pr (.pr (.int .i64) (.pr (.int .i64) (.pr .str .un))) (.pr (.int .i64) (.pr (.pr (.int .i64) (.pr (.int .i64) (.pr .str .un))) (.pr (.int .i64) (.pr (.sl (.pr (.int .i64) (.pr (.int .i64) (.pr .str .un)))) (.pr (.sl (.pr (.int .i64) (.pr (.int .i64) (.pr .str .un)))) (.pr (.int .i64) (.pr (.int .i64) .un)))))))) (.own 72)))] ((), ((b3a, (b3ba, ())), ((), ((b5a, (b5ba, ())), (t6, ()))))))) N v.1 v.2.2.1.1 v.2.2.1.2.1 v.2.2.2.2.2.1.1 v.2.2.2.2.2.1.2.1 v.2.2.2.2.2.2.1 v.2.2.2.2.2.2.2.1.2.2.1 v.2.2.2.2.2.2.2.1.2.2.2.1 v.2.2.2.2.2.2.2.1.2.2.2.2.1 v.2.2.2.2.2.2.2.2.1 v.2.2.2.2.2.2.2.2.2.1 v.2.2.2.2.2.2.2.2.2.2.1
    | none => none)
  | false => none
def F12 (N : Nat) (p0 : List (Int × (Int × Int × ByteArray × Unit) × Int × Int × (Int × Int × ByteArray × Unit) × Int × (List (Int × Int × ByteArray × Unit)) × (List (Int × Int × ByteArray × Unit)) × Bool × ByteArray × Unit)) : Option ((List ((Int × Int × ByteArray × Unit) × Int × (Int × Int × ByteArray × Unit) × Int × (List (Int × Int × ByteArray × Unit)) × (List (Int × Int × ByteArray × Unit)) × Int × Int × Unit)) × (Int × Int × Unit) × Unit) :=
  bif (Go.Inc.okAll p0) then
    bif ((((Go.Inc.pairAll p0).2).1) != (0 : Int)) then
      some (([] : List ((Int × (Int × (ByteArray × Unit))) × (Int × ((Int × (Int × (ByteArray × Unit))) × (Int × ((List (Int × (Int × (ByteArray × Unit)))) × ((List (Int × (Int × (ByteArray × Unit)))) × (Int × (Int × Unit))))))))), ((Go.Inc.pairAll p0).2, ()))
    else
      W12_6 N
        (fun b3a b3ba b5a b5ba t6 =>
          some (t6, ((b5a, (b5ba, ())), ())))
        N p0 (0 : Int) (0 : Int) (((Go.Inc.pairAll p0).2).1) ((((Go.Inc.pairAll p0).2).2).1) ([] : List ((Int × (Int × (ByteArray × Unit))) × (Int × ((Int × (Int × (ByteArray × Unit))) × (Int × ((List (Int × (Int × (ByteArray × Unit)))) × ((List (Int × (Int × (ByteArray × Unit)))) × (Int × (Int × Unit))))))))) (((((Go.Inc.pairAll p0).1).2).2).1) ((((((Go.Inc.pairAll p0).1).2).2).2).1) ((((((Go.Inc.pairAll p0).1).2).2).2).2) p0 (((List.length p0) : Nat) : Int) (0 : Int)
  else
    none
theorem loops12 (N : Nat) : loopsOk C12 (L12 N) Go.Proofs.Tryd.f12 := ⟨trivial, ⟨trivial, ⟨⟨trivial, ⟨⟨trivial, trivial⟩, trivial⟩⟩, ⟨trivial, ⟨⟨trivial, ⟨loopOk_of H12_6 N (fun K n v => W12_6 N (fun b3a b3ba b5a b5ba t6 => K (.exit 0) (encH [(6, (.bx 3 0)), (7, (.pr (.i .i64) (.pr (.i .i64) .un))), (10, (.bx 5 0)), (11, (.pr (.i .i64) (.pr (.i .i64) .un))), (12, (.sl (.pr (.pr (.int .i64) (.pr (.int .i64) (.pr .str .un))) (.pr (.int .i64) (.pr (.pr (.int .i64) (.pr (.int .i64) (.pr .str .un))) (.pr (.int .i64) (.pr (.sl (.pr (.int .i64) (.pr (.int .i64) (.pr .str .un)))) (.pr (.sl (.pr (.int .i64) (.pr (.int .i64) (.pr .str .un)))) (.pr (.int .i64) (.pr (.int .i64) .un)))))))) (.own 72)))] ((), ((b3a, (b3ba, ())), ((), ((b5a, (b5ba, ())), (t6, ()))))))) n v.1 v.2.2.1.1 v.2.2.1.2.1 v.2.2.2.2.2.1.1 v.2.2.2.2.2.1.2.1 v.2.2.2.2.2.2.1 v.2.2.2.2.2.2.2.1.2.2.1 v.2.2.2.2.2.2.2.1.2.2.2.1 v.2.2.2.2.2.2.2.1.2.2.2.2.1 v.2.2.2.2.2.2.2.2.1 v.2.2.2.2.2.2.2.2.2.1 v.2.2.2.2.2.2.2.2.2.2.1) (by kernel_rfl) (fun K v => by kernel_rfl) (fun K v => by kernel_rfl) (fun K n v => by kernel_rfl), ⟨trivial, ⟨⟨trivial, trivial⟩, ⟨⟨trivial, ⟨⟨trivial, ⟨trivial, trivial⟩⟩, ⟨trivial, ⟨⟨trivial, ⟨trivial, ⟨trivial, trivial⟩⟩⟩, trivial⟩⟩⟩⟩, trivial⟩⟩⟩⟩⟩, ⟨trivial, trivial⟩⟩⟩⟩⟩⟩
theorem runs12 (N : Nat) (x : S12.ta.den) : run C12 S12 (L12 N) Go.Proofs.Tryd.f12 x = F12 N x.1 := by kernel_rfl

/-! ### 18: incognito/incognitolaw12.call -/
def L18 (_ : Nat) : Loops ((Int × (Int × Int × ByteArray × Unit) × Int × Int × (Int × Int × ByteArray × Unit) × Int × (List (Int × Int × ByteArray × Unit)) × (List (Int × Int × ByteArray × Unit)) × Bool × ByteArray × Unit) × Unit) := fun _ _ _ => none
def F18 (N : Nat) (p0 : ByteArray) : Option ((Int × (Int × Int × ByteArray × Unit) × Int × Int × (Int × Int × ByteArray × Unit) × Int × (List (Int × Int × ByteArray × Unit)) × (List (Int × Int × ByteArray × Unit)) × Bool × ByteArray × Unit) × Unit) :=
  some (((0 : Int), (((2 : Int), ((0 : Int), (p0, ()))), ((1 : Int), ((1 : Int), (((2 : Int), ((0 : Int), (p0, ()))), ((2 : Int), (([] : List (Int × (Int × (ByteArray × Unit)))), (([] : List (Int × (Int × (ByteArray × Unit)))), (false, (ByteArray.empty, ())))))))))), ())
theorem loops18 (N : Nat) : loopsOk C18 (L18 N) Go.Proofs.Tryd.f18 := ⟨trivial, ⟨trivial, ⟨trivial, trivial⟩⟩⟩
theorem runs18 (N : Nat) (x : S18.ta.den) : run C18 S18 (L18 N) Go.Proofs.Tryd.f18 x = F18 N x.1 := by kernel_rfl

/-! ### 9: incognito/incognitoref11.Great -/
def W9_4 {β : Type} (N : Nat) (x0 : Bool → Option β) (x1 : Unit → Option β) : Nat → (List (Int × (Int × Int × ByteArray × Unit) × Int × Int × (Int × Int × ByteArray × Unit) × Int × (List (Int × Int × ByteArray × Unit)) × (List (Int × Int × ByteArray × Unit)) × Bool × ByteArray × Unit)) → Int → Option β
  | 0, _, _ => none
  | n + 1, t0, t5 =>
  bif decide (t5 < (((List.length t0) : Nat) : Int)) then
    bif ((decide ((0 : Int) ≤ t5)) && (decide (t5 < (((List.length t0) : Nat) : Int)))) then
      bif (Go.Inc.okE (List.getD t0 (Int.toNat t5) ((0 : Int), (((0 : Int), ((0 : Int), (ByteArray.empty, ()))), ((0 : Int), ((0 : Int), (((0 : Int), ((0 : Int), (ByteArray.empty, ()))), ((0 : Int), ([], ([], (false, (ByteArray.empty, ())))))))))))) then
        bif (Go.Inc.greatE (List.getD t0 (Int.toNat t5) ((0 : Int), (((0 : Int), ((0 : Int), (ByteArray.empty, ()))), ((0 : Int), ((0 : Int), (((0 : Int), ((0 : Int), (ByteArray.empty, ()))), ((0 : Int), ([], ([], (false, (ByteArray.empty, ())))))))))))) then
          x0 true
        else
          W9_4 N x0 x1 n t0 (Go.IntKind.wrap .i64 (t5 + (1 : Int)))
      else
        none
    else
      none
  else
    x1 ()
def L9 (N : Nat) : Loops (Bool × Unit) := fun k ρ K => match Nat.beq k 4 with
  | true => (match adH ρ H9_4.hd with
    | some v => W9_4 N (fun t4 => K .ret (encH [(8, .bo)] (t4, ()))) (fun _ => K (.exit 0) (encH [] ())) N v.1 v.2.1
    | none => none)
  | false => none
def F9 (N : Nat) (p0 : List (Int × (Int × Int × ByteArray × Unit) × Int × Int × (Int × Int × ByteArray × Unit) × Int × (List (Int × Int × ByteArray × Unit)) × (List (Int × Int × ByteArray × Unit)) × Bool × ByteArray × Unit)) (p1 : Int) : Option (Bool × Unit) :=
  bif decide ((((List.length p0) : Nat) : Int) > p1) then
    some (true, ())
  else
    W9_4 N
      (fun t4 =>
        some (t4, ()))
      (fun (_ : Unit) =>
        some (false, ()))
      N p0 (0 : Int)
theorem loops9 (N : Nat) : loopsOk C9 (L9 N) Go.Proofs.Tryd.f9 := ⟨trivial, ⟨⟨trivial, ⟨⟨trivial, trivial⟩, trivial⟩⟩, ⟨⟨trivial, ⟨loopOk_of H9_4 N (fun K n v => W9_4 N (fun t4 => K .ret (encH [(8, .bo)] (t4, ()))) (fun _ => K (.exit 0) (encH [] ())) n v.1 v.2.1) (by kernel_rfl) (fun K v => by kernel_rfl) (fun K v => by kernel_rfl) (fun K n v => by kernel_rfl), ⟨⟨trivial, ⟨trivial, trivial⟩⟩, ⟨⟨trivial, ⟨⟨trivial, trivial⟩, trivial⟩⟩, trivial⟩⟩⟩⟩, ⟨trivial, trivial⟩⟩⟩⟩
theorem runs9 (N : Nat) (x : S9.ta.den) : run C9 S9 (L9 N) Go.Proofs.Tryd.f9 x = F9 N x.1 x.2.1 := by kernel_rfl

/-! ### 55: incognito/incognitoref07.letter -/
def W55_2 {β : Type} (N : Nat) (x0 : Bool → Option β) (x1 : Int → Bool → Option β) : Nat → Int → Bool → Int → Option β
  | 0, _, _, _ => none
  | n + 1, t0, t1, t5 =>
  bif decide (t5 ≤ (122 : Int)) then
    bif (t0 == t5) then
      x0 true
    else
      W55_2 N x0 x1 n t0 t1 (Go.IntKind.wrap .u8 (t5 + (1 : Int)))
  else
    x1 t0 t1
def L55 (N : Nat) : Loops (Bool × Unit) := fun k ρ K => match Nat.beq k 2 with
  | true => (match adH ρ H55_2.hd with
    | some v => W55_2 N (fun t4 => K .ret (encH [(8, .bo)] (t4, ()))) (fun t0 t1 => K (.exit 0) (encH [(0, (.i .u8)), (2, .bo)] (t0, (t1, ())))) N v.1 v.2.1 v.2.2.1
    | none => none)
  | false => none
def F55 (N : Nat) (p0 : Int) (p1 : Bool) : Option (Bool × Unit) :=
  W55_2 N
    (fun t4 =>
      some (t4, ()))
    (fun t0 t1 =>
      bif (!t1) then
        bif (t0 == (95 : Int)) then
          some (true, ())
        else
          bif decide (t0 ≥ (48 : Int)) then
            some (decide (t0 ≤ (57 : Int)), ())
          else
            some (false, ())
      else
        some (false, ()))
    N p0 p1 (97 : Int)
theorem loops55 (N : Nat) : loopsOk C55 (L55 N) Go.Proofs.Tryd.f55 := ⟨trivial, ⟨⟨trivial, ⟨loopOk_of H55_2 N (fun K n v => W55_2 N (fun t4 => K .ret (encH [(8, .bo)] (t4, ()))) (fun t0 t1 => K (.exit 0) (encH [(0, (.i .u8)), (2, .bo)] (t0, (t1, ())))) n v.1 v.2.1 v.2.2.1) (by kernel_rfl) (fun K v => by kernel_rfl) (fun K v => by kernel_rfl) (fun K n v => by kernel_rfl), ⟨⟨trivial, ⟨trivial, trivial⟩⟩, ⟨⟨trivial, ⟨⟨trivial, trivial⟩, trivial⟩⟩, trivial⟩⟩⟩⟩, ⟨trivial, trivial⟩⟩⟩
theorem runs55 (N : Nat) (x : S55.ta.den) : run C55 S55 (L55 N) Go.Proofs.Tryd.f55 x = F55 N x.1 x.2.1 := by kernel_rfl

/-! ### 47: incognito/incognitoref07.IsWord -/
def W47_2 {β : Type} (N : Nat) (x0 : Bool → Option β) (x1 : ByteArray → Option β) : Nat → ByteArray → Int → Option β
  | 0, _, _ => none
  | n + 1, t0, t3 =>
  bif decide (t3 < (((ByteArray.size t0) : Nat) : Int)) then
    bif ((decide ((0 : Int) ≤ t3)) && (decide (t3 < (((ByteArray.size t0) : Nat) : Int)))) then
      bif (Go.Inc.ok8 (((UInt8.toNat (List.getD (Array.toList (ByteArray.data t0)) (Int.toNat t3) (0 : UInt8))) : Nat) : Int) (t3 == (0 : Int))) then
        bif (!(Go.Inc.letterGo (((UInt8.toNat (List.getD (Array.toList (ByteArray.data t0)) (Int.toNat t3) (0 : UInt8))) : Nat) : Int) (t3 == (0 : Int)))) then
          x0 false
        else
          W47_2 N x0 x1 n t0 (Go.IntKind.wrap .i64 (t3 + (1 : Int)))
      else
        none
    else
      none
  else
    x1 t0
def L47 (N : Nat) : Loops (Bool × Unit) := fun k ρ K => match Nat.beq k 2 with
  | true => (match adH ρ H47_2.hd with
    | some v => W47_2 N (fun t2 => K .ret (encH [(4, .bo)] (t2, ()))) (fun t0 => K (.exit 0) (encH [(0, .st)] (t0, ()))) N v.1 v.2.1
    | none => none)
  | false => none
def F47 (N : Nat) (p0 : ByteArray) : Option (Bool × Unit) :=
  W47_2 N
    (fun t2 =>
      some (t2, ()))
    (fun t0 =>
      bif decide ((((ByteArray.size t0) : Nat) : Int) ≥ (1 : Int)) then
        some (decide ((((ByteArray.size t0) : Nat) : Int) ≤ (40 : Int)), ())
      else
        some (false, ()))
    N p0 (0 : Int)
theorem loops47 (N : Nat) : loopsOk C47 (L47 N) Go.Proofs.Tryd.f47 := ⟨trivial, ⟨⟨trivial, ⟨loopOk_of H47_2 N (fun K n v => W47_2 N (fun t2 => K .ret (encH [(4, .bo)] (t2, ()))) (fun t0 => K (.exit 0) (encH [(0, .st)] (t0, ()))) n v.1 v.2.1) (by kernel_rfl) (fun K v => by kernel_rfl) (fun K v => by kernel_rfl) (fun K n v => by kernel_rfl), ⟨⟨trivial, ⟨trivial, trivial⟩⟩, ⟨⟨trivial, ⟨⟨trivial, trivial⟩, trivial⟩⟩, trivial⟩⟩⟩⟩, ⟨trivial, trivial⟩⟩⟩
theorem runs47 (N : Nat) (x : S47.ta.den) : run C47 S47 (L47 N) Go.Proofs.Tryd.f47 x = F47 N x.1 := by kernel_rfl

/-! ### 35: incognito/incognitoref07.Name -/
def L35 (_ : Nat) : Loops (Bool × Unit) := fun _ _ _ => none
def F35 (N : Nat) (p0 : Int × Int × ByteArray × Unit) : Option (Bool × Unit) :=
  bif (Go.Inc.okV p0) then
    bif (Go.Inc.right p0) then
      bif (p0.1 == (1 : Int)) then
        some (true, ())
      else
        some ((p0.1 == (2 : Int)), ())
    else
      some (false, ())
  else
    none
theorem loops35 (N : Nat) : loopsOk C35 (L35 N) Go.Proofs.Tryd.f35 := ⟨trivial, ⟨trivial, trivial⟩⟩
theorem runs35 (N : Nat) (x : S35.ta.den) : run C35 S35 (L35 N) Go.Proofs.Tryd.f35 x = F35 N x.1 := by kernel_rfl

/-! ### 30: incognito/incognitoref12.last -/
def W30_2 {β : Type} (N : Nat) (x0 : Int → Option β) (x1 : Unit → Option β) : Nat → (List (Int × (Int × Int × ByteArray × Unit) × Int × Int × (Int × Int × ByteArray × Unit) × Int × (List (Int × Int × ByteArray × Unit)) × (List (Int × Int × ByteArray × Unit)) × Bool × ByteArray × Unit)) → Int → Int → Option β
  | 0, _, _, _ => none
  | n + 1, t0, t1, t5 =>
  bif decide (t5 ≥ (0 : Int)) then
    bif ((decide ((0 : Int) ≤ t5)) && (decide (t5 < (((List.length t0) : Nat) : Int)))) then
      bif ((decide ((0 : Int) ≤ t1)) && (decide (t1 < (((List.length t0) : Nat) : Int)))) then
        bif ((((((List.getD t0 (Int.toNat t5) ((0 : Int), (((0 : Int), ((0 : Int), (ByteArray.empty, ()))), ((0 : Int), ((0 : Int), (((0 : Int), ((0 : Int), (ByteArray.empty, ()))), ((0 : Int), ([], ([], (false, (ByteArray.empty, ()))))))))))).2).1).1) == ((((List.getD t0 (Int.toNat t1) ((0 : Int), (((0 : Int), ((0 : Int), (ByteArray.empty, ()))), ((0 : Int), ((0 : Int), (((0 : Int), ((0 : Int), (ByteArray.empty, ()))), ((0 : Int), ([], ([], (false, (ByteArray.empty, ()))))))))))).2).1).1)) && (((((((List.getD t0 (Int.toNat t5) ((0 : Int), (((0 : Int), ((0 : Int), (ByteArray.empty, ()))), ((0 : Int), ((0 : Int), (((0 : Int), ((0 : Int), (ByteArray.empty, ()))), ((0 : Int), ([], ([], (false, (ByteArray.empty, ()))))))))))).2).1).2).1) == (((((List.getD t0 (Int.toNat t1) ((0 : Int), (((0 : Int), ((0 : Int), (ByteArray.empty, ()))), ((0 : Int), ((0 : Int), (((0 : Int), ((0 : Int), (ByteArray.empty, ()))), ((0 : Int), ([], ([], (false, (ByteArray.empty, ()))))))))))).2).1).2).1)) && ((((((((List.getD t0 (Int.toNat t5) ((0 : Int), (((0 : Int), ((0 : Int), (ByteArray.empty, ()))), ((0 : Int), ((0 : Int), (((0 : Int), ((0 : Int), (ByteArray.empty, ()))), ((0 : Int), ([], ([], (false, (ByteArray.empty, ()))))))))))).2).1).2).2).1) == ((((((List.getD t0 (Int.toNat t1) ((0 : Int), (((0 : Int), ((0 : Int), (ByteArray.empty, ()))), ((0 : Int), ((0 : Int), (((0 : Int), ((0 : Int), (ByteArray.empty, ()))), ((0 : Int), ([], ([], (false, (ByteArray.empty, ()))))))))))).2).1).2).2).1)) && true))) then
          x0 t5
        else
          W30_2 N x0 x1 n t0 t1 (Go.IntKind.wrap .i64 (t5 - (1 : Int)))
      else
        none
    else
      none
  else
    x1 ()
def L30 (N : Nat) : Loops (Int × Unit) := fun k ρ K => match Nat.beq k 2 with
  | true => (match adH ρ H30_2.hd with
    | some v => W30_2 N (fun t4 => K .ret (encH [(8, (.i .i64))] (t4, ()))) (fun _ => K (.exit 0) (encH [] ())) N v.1 v.2.1 v.2.2.1
    | none => none)
  | false => none
def F30 (N : Nat) (p0 : List (Int × (Int × Int × ByteArray × Unit) × Int × Int × (Int × Int × ByteArray × Unit) × Int × (List (Int × Int × ByteArray × Unit)) × (List (Int × Int × ByteArray × Unit)) × Bool × ByteArray × Unit)) (p1 : Int) : Option (Int × Unit) :=
  W30_2 N
    (fun t4 =>
      some (t4, ()))
    (fun (_ : Unit) =>
      some ((-(1 : Int)), ()))
    N p0 p1 (Go.IntKind.wrap .i64 (p1 - (1 : Int)))
theorem loops30 (N : Nat) : loopsOk C30 (L30 N) Go.Proofs.Tryd.f30 := ⟨trivial, ⟨⟨trivial, ⟨loopOk_of H30_2 N (fun K n v => W30_2 N (fun t4 => K .ret (encH [(8, (.i .i64))] (t4, ()))) (fun _ => K (.exit 0) (encH [] ())) n v.1 v.2.1 v.2.2.1) (by kernel_rfl) (fun K v => by kernel_rfl) (fun K v => by kernel_rfl) (fun K n v => by kernel_rfl), ⟨⟨trivial, ⟨trivial, trivial⟩⟩, ⟨⟨trivial, ⟨⟨trivial, trivial⟩, trivial⟩⟩, trivial⟩⟩⟩⟩, ⟨trivial, trivial⟩⟩⟩
theorem runs30 (N : Nat) (x : S30.ta.den) : run C30 S30 (L30 N) Go.Proofs.Tryd.f30 x = F30 N x.1 x.2.1 := by kernel_rfl

/-! ### 3: incognito/incognitolaw12.PairChecks -/
def L3 (_ : Nat) : Loops (Bool × Unit) := fun _ _ _ => none
def F3 (N : Nat) (p0 : List (Int × (Int × Int × ByteArray × Unit) × Int × Int × (Int × Int × ByteArray × Unit) × Int × (List (Int × Int × ByteArray × Unit)) × (List (Int × Int × ByteArray × Unit)) × Bool × ByteArray × Unit)) : Option (Bool × Unit) :=
  bif (Go.Inc.okGH p0 (60 : Int)) then
    bif (Go.Inc.greatH p0 (60 : Int)) then
      some (true, ())
    else
      bif (Go.Inc.okAll p0) then
        bif (Go.Inc.okAll p0) then
          bif (((Go.Inc.pairCheck p0).1) == ((Go.Inc.refCheck p0).1)) then
            some (((((Go.Inc.pairCheck p0).2).1) == (((Go.Inc.refCheck p0).2).1)), ())
          else
            some (false, ())
        else
          none
      else
        none
  else
    none
theorem loops3 (N : Nat) : loopsOk C3 (L3 N) Go.Proofs.Tryd.f3 := ⟨trivial, ⟨⟨trivial, ⟨⟨trivial, trivial⟩, trivial⟩⟩, ⟨⟨trivial, ⟨⟨trivial, trivial⟩, trivial⟩⟩, ⟨trivial, ⟨trivial, ⟨trivial, trivial⟩⟩⟩⟩⟩⟩
theorem runs3 (N : Nat) (x : S3.ta.den) : run C3 S3 (L3 N) Go.Proofs.Tryd.f3 x = F3 N x.1 := by kernel_rfl

/-! ### 24: incognito/incognitoref12.next -/
def W24_2 {β : Type} (N : Nat) (x0 : Int → Option β) (x1 : Unit → Option β) : Nat → (List (Int × (Int × Int × ByteArray × Unit) × Int × Int × (Int × Int × ByteArray × Unit) × Int × (List (Int × Int × ByteArray × Unit)) × (List (Int × Int × ByteArray × Unit)) × Bool × ByteArray × Unit)) → Int → Int → Option β
  | 0, _, _, _ => none
  | n + 1, t0, t1, t5 =>
  bif decide (t5 < (((List.length t0) : Nat) : Int)) then
    bif ((decide ((0 : Int) ≤ t5)) && (decide (t5 < (((List.length t0) : Nat) : Int)))) then
      bif ((decide ((0 : Int) ≤ t1)) && (decide (t1 < (((List.length t0) : Nat) : Int)))) then
        bif ((((((List.getD t0 (Int.toNat t5) ((0 : Int), (((0 : Int), ((0 : Int), (ByteArray.empty, ()))), ((0 : Int), ((0 : Int), (((0 : Int), ((0 : Int), (ByteArray.empty, ()))), ((0 : Int), ([], ([], (false, (ByteArray.empty, ()))))))))))).2).1).1) == ((((List.getD t0 (Int.toNat t1) ((0 : Int), (((0 : Int), ((0 : Int), (ByteArray.empty, ()))), ((0 : Int), ((0 : Int), (((0 : Int), ((0 : Int), (ByteArray.empty, ()))), ((0 : Int), ([], ([], (false, (ByteArray.empty, ()))))))))))).2).1).1)) && (((((((List.getD t0 (Int.toNat t5) ((0 : Int), (((0 : Int), ((0 : Int), (ByteArray.empty, ()))), ((0 : Int), ((0 : Int), (((0 : Int), ((0 : Int), (ByteArray.empty, ()))), ((0 : Int), ([], ([], (false, (ByteArray.empty, ()))))))))))).2).1).2).1) == (((((List.getD t0 (Int.toNat t1) ((0 : Int), (((0 : Int), ((0 : Int), (ByteArray.empty, ()))), ((0 : Int), ((0 : Int), (((0 : Int), ((0 : Int), (ByteArray.empty, ()))), ((0 : Int), ([], ([], (false, (ByteArray.empty, ()))))))))))).2).1).2).1)) && ((((((((List.getD t0 (Int.toNat t5) ((0 : Int), (((0 : Int), ((0 : Int), (ByteArray.empty, ()))), ((0 : Int), ((0 : Int), (((0 : Int), ((0 : Int), (ByteArray.empty, ()))), ((0 : Int), ([], ([], (false, (ByteArray.empty, ()))))))))))).2).1).2).2).1) == ((((((List.getD t0 (Int.toNat t1) ((0 : Int), (((0 : Int), ((0 : Int), (ByteArray.empty, ()))), ((0 : Int), ((0 : Int), (((0 : Int), ((0 : Int), (ByteArray.empty, ()))), ((0 : Int), ([], ([], (false, (ByteArray.empty, ()))))))))))).2).1).2).2).1)) && true))) then
          x0 t5
        else
          W24_2 N x0 x1 n t0 t1 (Go.IntKind.wrap .i64 (t5 + (1 : Int)))
      else
        none
    else
      none
  else
    x1 ()
def L24 (N : Nat) : Loops (Int × Unit) := fun k ρ K => match Nat.beq k 2 with
  | true => (match adH ρ H24_2.hd with
    | some v => W24_2 N (fun t4 => K .ret (encH [(8, (.i .i64))] (t4, ()))) (fun _ => K (.exit 0) (encH [] ())) N v.1 v.2.1 v.2.2.1
    | none => none)
  | false => none
def F24 (N : Nat) (p0 : List (Int × (Int × Int × ByteArray × Unit) × Int × Int × (Int × Int × ByteArray × Unit) × Int × (List (Int × Int × ByteArray × Unit)) × (List (Int × Int × ByteArray × Unit)) × Bool × ByteArray × Unit)) (p1 : Int) : Option (Int × Unit) :=
  W24_2 N
    (fun t4 =>
      some (t4, ()))
    (fun (_ : Unit) =>
      some ((-(1 : Int)), ()))
    N p0 p1 (Go.IntKind.wrap .i64 (p1 + (1 : Int)))
theorem loops24 (N : Nat) : loopsOk C24 (L24 N) Go.Proofs.Tryd.f24 := ⟨trivial, ⟨⟨trivial, ⟨loopOk_of H24_2 N (fun K n v => W24_2 N (fun t4 => K .ret (encH [(8, (.i .i64))] (t4, ()))) (fun _ => K (.exit 0) (encH [] ())) n v.1 v.2.1 v.2.2.1) (by kernel_rfl) (fun K v => by kernel_rfl) (fun K v => by kernel_rfl) (fun K n v => by kernel_rfl), ⟨⟨trivial, ⟨trivial, trivial⟩⟩, ⟨⟨trivial, ⟨⟨trivial, trivial⟩, trivial⟩⟩, trivial⟩⟩⟩⟩, ⟨trivial, trivial⟩⟩⟩
theorem runs24 (N : Nat) (x : S24.ta.den) : run C24 S24 (L24 N) Go.Proofs.Tryd.f24 x = F24 N x.1 x.2.1 := by kernel_rfl

/-! ### 14: incognito/incognitoref12.Opers -/
def W14_3 {β : Type} (N : Nat) (x1 : (List ((Int × Int × ByteArray × Unit) × Int × (Int × Int × ByteArray × Unit) × Int × (List (Int × Int × ByteArray × Unit)) × (List (Int × Int × ByteArray × Unit)) × Int × Int × Unit)) → Option β) : Nat → (List (Int × (Int × Int × ByteArray × Unit) × Int × Int × (Int × Int × ByteArray × Unit) × Int × (List (Int × Int × ByteArray × Unit)) × (List (Int × Int × ByteArray × Unit)) × Bool × ByteArray × Unit)) → (List ((Int × Int × ByteArray × Unit) × Int × (Int × Int × ByteArray × Unit) × Int × (List (Int × Int × ByteArray × Unit)) × (List (Int × Int × ByteArray × Unit)) × Int × Int × Unit)) → Int → Option β
  | 0, _, _, _ => none
  | n + 1, t0, t3, t4 =>
  bif decide (t4 < (((List.length t0) : Nat) : Int)) then
    bif ((decide ((0 : Int) ≤ t4)) && (decide (t4 < (((List.length t0) : Nat) : Int)))) then
      bif (((((List.getD t0 (Int.toNat t4) ((0 : Int), (((0 : Int), ((0 : Int), (ByteArray.empty, ()))), ((0 : Int), ((0 : Int), (((0 : Int), ((0 : Int), (ByteArray.empty, ()))), ((0 : Int), ([], ([], (false, (ByteArray.empty, ()))))))))))).2).2).1) != (1 : Int)) then
        W14_3 N x1 n t0 t3 (Go.IntKind.wrap .i64 (t4 + (1 : Int)))
      else
        bif (Go.Inc.okAt t0 t4) then
          bif decide ((Go.Inc.nextE t0 t4) ≥ (0 : Int)) then
            bif ((decide ((0 : Int) ≤ (Go.Inc.nextE t0 t4))) && (decide ((Go.Inc.nextE t0 t4) < (((List.length t0) : Nat) : Int)))) then
              bif (((((List.getD t0 (Int.toNat (Go.Inc.nextE t0 t4)) ((0 : Int), (((0 : Int), ((0 : Int), (ByteArray.empty, ()))), ((0 : Int), ((0 : Int), (((0 : Int), ((0 : Int), (ByteArray.empty, ()))), ((0 : Int), ([], ([], (false, (ByteArray.empty, ()))))))))))).2).2).1) == (3 : Int)) then
              W14_3 N x1 n t0 t3 (Go.IntKind.wrap .i64 (t4 + (1 : Int)))
            else
              bif decide ((Go.Inc.nextE t0 t4) ≥ (0 : Int)) then
              bif ((decide ((0 : Int) ≤ (Go.Inc.nextE t0 t4))) && (decide ((Go.Inc.nextE t0 t4) < (((List.length t0) : Nat) : Int)))) then
              bif (((((List.getD t0 (Int.toNat (Go.Inc.nextE t0 t4)) ((0 : Int), (((0 : Int), ((0 : Int), (ByteArray.empty, ()))), ((0 : Int), ((0 : Int), (((0 : Int), ((0 : Int), (ByteArray.empty, ()))), ((0 : Int), ([], ([], (false, (ByteArray.empty, ()))))))))))).2).2).1) == (2 : Int)) then
              bif ((decide ((0 : Int) ≤ (Go.Inc.nextE t0 t4))) && (decide ((Go.Inc.nextE t0 t4) < (((List.length t0) : Nat) : Int)))) then
              bif decide ((((List.length t3) + (List.length ((((List.getD t0 (Int.toNat t4) ((0 : Int), (((0 : Int), ((0 : Int), (ByteArray.empty, ()))), ((0 : Int), ((0 : Int), (((0 : Int), ((0 : Int), (ByteArray.empty, ()))), ((0 : Int), ([], ([], (false, (ByteArray.empty, ()))))))))))).2).1, (((((List.getD t0 (Int.toNat t4) ((0 : Int), (((0 : Int), ((0 : Int), (ByteArray.empty, ()))), ((0 : Int), ((0 : Int), (((0 : Int), ((0 : Int), (ByteArray.empty, ()))), ((0 : Int), ([], ([], (false, (ByteArray.empty, ()))))))))))).2).2).2).1, ((((((List.getD t0 (Int.toNat t4) ((0 : Int), (((0 : Int), ((0 : Int), (ByteArray.empty, ()))), ((0 : Int), ((0 : Int), (((0 : Int), ((0 : Int), (ByteArray.empty, ()))), ((0 : Int), ([], ([], (false, (ByteArray.empty, ()))))))))))).2).2).2).2).1, (((((((List.getD t0 (Int.toNat t4) ((0 : Int), (((0 : Int), ((0 : Int), (ByteArray.empty, ()))), ((0 : Int), ((0 : Int), (((0 : Int), ((0 : Int), (ByteArray.empty, ()))), ((0 : Int), ([], ([], (false, (ByteArray.empty, ()))))))))))).2).2).2).2).2).1, ((((((((List.getD t0 (Int.toNat t4) ((0 : Int), (((0 : Int), ((0 : Int), (ByteArray.empty, ()))), ((0 : Int), ((0 : Int), (((0 : Int), ((0 : Int), (ByteArray.empty, ()))), ((0 : Int), ([], ([], (false, (ByteArray.empty, ()))))))))))).2).2).2).2).2).2).1, (((((((((List.getD t0 (Int.toNat (Go.Inc.nextE t0 t4)) ((0 : Int), (((0 : Int), ((0 : Int), (ByteArray.empty, ()))), ((0 : Int), ((0 : Int), (((0 : Int), ((0 : Int), (ByteArray.empty, ()))), ((0 : Int), ([], ([], (false, (ByteArray.empty, ()))))))))))).2).2).2).2).2).2).2).1, (t4, ((Go.Inc.nextE t0 t4), ())))))))) :: ([] : List ((Int × (Int × (ByteArray × Unit))) × (Int × ((Int × (Int × (ByteArray × Unit))) × (Int × ((List (Int × (Int × (ByteArray × Unit)))) × ((List (Int × (Int × (ByteArray × Unit)))) × (Int × (Int × Unit)))))))))))) * 144) ≤ 140737488351232) then
              W14_3 N x1 n t0 (t3 ++ ((((List.getD t0 (Int.toNat t4) ((0 : Int), (((0 : Int), ((0 : Int), (ByteArray.empty, ()))), ((0 : Int), ((0 : Int), (((0 : Int), ((0 : Int), (ByteArray.empty, ()))), ((0 : Int), ([], ([], (false, (ByteArray.empty, ()))))))))))).2).1, (((((List.getD t0 (Int.toNat t4) ((0 : Int), (((0 : Int), ((0 : Int), (ByteArray.empty, ()))), ((0 : Int), ((0 : Int), (((0 : Int), ((0 : Int), (ByteArray.empty, ()))), ((0 : Int), ([], ([], (false, (ByteArray.empty, ()))))))))))).2).2).2).1, ((((((List.getD t0 (Int.toNat t4) ((0 : Int), (((0 : Int), ((0 : Int), (ByteArray.empty, ()))), ((0 : Int), ((0 : Int), (((0 : Int), ((0 : Int), (ByteArray.empty, ()))), ((0 : Int), ([], ([], (false, (ByteArray.empty, ()))))))))))).2).2).2).2).1, (((((((List.getD t0 (Int.toNat t4) ((0 : Int), (((0 : Int), ((0 : Int), (ByteArray.empty, ()))), ((0 : Int), ((0 : Int), (((0 : Int), ((0 : Int), (ByteArray.empty, ()))), ((0 : Int), ([], ([], (false, (ByteArray.empty, ()))))))))))).2).2).2).2).2).1, ((((((((List.getD t0 (Int.toNat t4) ((0 : Int), (((0 : Int), ((0 : Int), (ByteArray.empty, ()))), ((0 : Int), ((0 : Int), (((0 : Int), ((0 : Int), (ByteArray.empty, ()))), ((0 : Int), ([], ([], (false, (ByteArray.empty, ()))))))))))).2).2).2).2).2).2).1, (((((((((List.getD t0 (Int.toNat (Go.Inc.nextE t0 t4)) ((0 : Int), (((0 : Int), ((0 : Int), (ByteArray.empty, ()))), ((0 : Int), ((0 : Int), (((0 : Int), ((0 : Int), (ByteArray.empty, ()))), ((0 : Int), ([], ([], (false, (ByteArray.empty, ()))))))))))).2).2).2).2).2).2).2).1, (t4, ((Go.Inc.nextE t0 t4), ())))))))) :: ([] : List ((Int × (Int × (ByteArray × Unit))) × (Int × ((Int × (Int × (ByteArray × Unit))) × (Int × ((List (Int × (Int × (ByteArray × Unit)))) × ((List (Int × (Int × (ByteArray × Unit)))) × (Int × (Int × Unit))))))))))) (Go.IntKind.wrap .i64 (t4 + (1 : Int)))
            else
              none
            else
              none
            else
              bif decide ((((List.length t3) + (List.length ((((List.getD t0 (Int.toNat t4) ((0 : Int), (((0 : Int), ((0 : Int), (ByteArray.empty, ()))), ((0 : Int), ((0 : Int), (((0 : Int), ((0 : Int), (ByteArray.empty, ()))), ((0 : Int), ([], ([], (false, (ByteArray.empty, ()))))))))))).2).1, (((((List.getD t0 (Int.toNat t4) ((0 : Int), (((0 : Int), ((0 : Int), (ByteArray.empty, ()))), ((0 : Int), ((0 : Int), (((0 : Int), ((0 : Int), (ByteArray.empty, ()))), ((0 : Int), ([], ([], (false, (ByteArray.empty, ()))))))))))).2).2).2).1, ((((((List.getD t0 (Int.toNat t4) ((0 : Int), (((0 : Int), ((0 : Int), (ByteArray.empty, ()))), ((0 : Int), ((0 : Int), (((0 : Int), ((0 : Int), (ByteArray.empty, ()))), ((0 : Int), ([], ([], (false, (ByteArray.empty, ()))))))))))).2).2).2).2).1, (((((((List.getD t0 (Int.toNat t4) ((0 : Int), (((0 : Int), ((0 : Int), (ByteArray.empty, ()))), ((0 : Int), ((0 : Int), (((0 : Int), ((0 : Int), (ByteArray.empty, ()))), ((0 : Int), ([], ([], (false, (ByteArray.empty, ()))))))))))).2).2).2).2).2).1, ((((((((List.getD t0 (Int.toNat t4) ((0 : Int), (((0 : Int), ((0 : Int), (ByteArray.empty, ()))), ((0 : Int), ((0 : Int), (((0 : Int), ((0 : Int), (ByteArray.empty, ()))), ((0 : Int), ([], ([], (false, (ByteArray.empty, ()))))))))))).2).2).2).2).2).2).1, (([] : List (Int × (Int × (ByteArray × Unit)))), (t4, ((-(1 : Int)), ())))))))) :: ([] : List ((Int × (Int × (ByteArray × Unit))) × (Int × ((Int × (Int × (ByteArray × Unit))) × (Int × ((List (Int × (Int × (ByteArray × Unit)))) × ((List (Int × (Int × (ByteArray × Unit)))) × (Int × (Int × Unit)))))))))))) * 144) ≤ 140737488351232) then
              W14_3 N x1 n t0 (t3 ++ ((((List.getD t0 (Int.toNat t4) ((0 : Int), (((0 : Int), ((0 : Int), (ByteArray.empty, ()))), ((0 : Int), ((0 : Int), (((0 : Int), ((0 : Int), (ByteArray.empty, ()))), ((0 : Int), ([], ([], (false, (ByteArray.empty, ()))))))))))).2).1, (((((List.getD t0 (Int.toNat t4) ((0 : Int), (((0 : Int), ((0 : Int), (ByteArray.empty, ()))), ((0 : Int), ((0 : Int), (((0 : Int), ((0 : Int), (ByteArray.empty, ()))), ((0 : Int), ([], ([], (false, (ByteArray.empty, ()))))))))))).2).2).2).1, ((((((List.getD t0 (Int.toNat t4) ((0 : Int), (((0 : Int), ((0 : Int), (ByteArray.empty, ()))), ((0 : Int), ((0 : Int), (((0 : Int), ((0 : Int), (ByteArray.empty, ()))), ((0 : Int), ([], ([], (false, (ByteArray.empty, ()))))))))))).2).2).2).2).1, (((((((List.getD t0 (Int.toNat t4) ((0 : Int), (((0 : Int), ((0 : Int), (ByteArray.empty, ()))), ((0 : Int), ((0 : Int), (((0 : Int), ((0 : Int), (ByteArray.empty, ()))), ((0 : Int), ([], ([], (false, (ByteArray.empty, ()))))))))))).2).2).2).2).2).1, ((((((((List.getD t0 (Int.toNat t4) ((0 : Int), (((0 : Int), ((0 : Int), (ByteArray.empty, ()))), ((0 : Int), ((0 : Int), (((0 : Int), ((0 : Int), (ByteArray.empty, ()))), ((0 : Int), ([], ([], (false, (ByteArray.empty, ()))))))))))).2).2).2).2).2).2).1, (([] : List (Int × (Int × (ByteArray × Unit)))), (t4, ((-(1 : Int)), ())))))))) :: ([] : List ((Int × (Int × (ByteArray × Unit))) × (Int × ((Int × (Int × (ByteArray × Unit))) × (Int × ((List (Int × (Int × (ByteArray × Unit)))) × ((List (Int × (Int × (ByteArray × Unit)))) × (Int × (Int × Unit))))))))))) (Go.IntKind.wrap .i64 (t4 + (1 : Int)))
            else
              none
            else
              none
            else
              bif decide ((((List.length t3) + (List.length ((((List.getD t0 (Int.toNat t4) ((0 : Int), (((0 : Int), ((0 : Int), (ByteArray.empty, ()))), ((0 : Int), ((0 : Int), (((0 : Int), ((0 : Int), (ByteArray.empty, ()))), ((0 : Int), ([], ([], (false, (ByteArray.empty, ()))))))))))).2).1, (((((List.getD t0 (Int.toNat t4) ((0 : Int), (((0 : Int), ((0 : Int), (ByteArray.empty, ()))), ((0 : Int), ((0 : Int), (((0 : Int), ((0 : Int), (ByteArray.empty, ()))), ((0 : Int), ([], ([], (false, (ByteArray.empty, ()))))))))))).2).2).2).1, ((((((List.getD t0 (Int.toNat t4) ((0 : Int), (((0 : Int), ((0 : Int), (ByteArray.empty, ()))), ((0 : Int), ((0 : Int), (((0 : Int), ((0 : Int), (ByteArray.empty, ()))), ((0 : Int), ([], ([], (false, (ByteArray.empty, ()))))))))))).2).2).2).2).1, (((((((List.getD t0 (Int.toNat t4) ((0 : Int), (((0 : Int), ((0 : Int), (ByteArray.empty, ()))), ((0 : Int), ((0 : Int), (((0 : Int), ((0 : Int), (ByteArray.empty, ()))), ((0 : Int), ([], ([], (false, (ByteArray.empty, ()))))))))))).2).2).2).2).2).1, ((((((((List.getD t0 (Int.toNat t4) ((0 : Int), (((0 : Int), ((0 : Int), (ByteArray.empty, ()))), ((0 : Int), ((0 : Int), (((0 : Int), ((0 : Int), (ByteArray.empty, ()))), ((0 : Int), ([], ([], (false, (ByteArray.empty, ()))))))))))).2).2).2).2).2).2).1, (([] : List (Int × (Int × (ByteArray × Unit)))), (t4, ((-(1 : Int)), ())))))))) :: ([] : List ((Int × (Int × (ByteArray × Unit))) × (Int × ((Int × (Int × (ByteArray × Unit))) × (Int × ((List (Int × (Int × (ByteArray × Unit)))) × ((List (Int × (Int × (ByteArray × Unit)))) × (Int × (Int × Unit)))))))))))) * 144) ≤ 140737488351232) then
              W14_3 N x1 n t0 (t3 ++ ((((List.getD t0 (Int.toNat t4) ((0 : Int), (((0 : Int), ((0 : Int), (ByteArray.empty, ()))), ((0 : Int), ((0 : Int), (((0 : Int), ((0 : Int), (ByteArray.empty, ()))), ((0 : Int), ([], ([], (false, (ByteArray.empty, ()))))))))))).2).1, (((((List.getD t0 (Int.toNat t4) ((0 : Int), (((0 : Int), ((0 : Int), (ByteArray.empty, ()))), ((0 : Int), ((0 : Int), (((0 : Int), ((0 : Int), (ByteArray.empty, ()))), ((0 : Int), ([], ([], (false, (ByteArray.empty, ()))))))))))).2).2).2).1, ((((((List.getD t0 (Int.toNat t4) ((0 : Int), (((0 : Int), ((0 : Int), (ByteArray.empty, ()))), ((0 : Int), ((0 : Int), (((0 : Int), ((0 : Int), (ByteArray.empty, ()))), ((0 : Int), ([], ([], (false, (ByteArray.empty, ()))))))))))).2).2).2).2).1, (((((((List.getD t0 (Int.toNat t4) ((0 : Int), (((0 : Int), ((0 : Int), (ByteArray.empty, ()))), ((0 : Int), ((0 : Int), (((0 : Int), ((0 : Int), (ByteArray.empty, ()))), ((0 : Int), ([], ([], (false, (ByteArray.empty, ()))))))))))).2).2).2).2).2).1, ((((((((List.getD t0 (Int.toNat t4) ((0 : Int), (((0 : Int), ((0 : Int), (ByteArray.empty, ()))), ((0 : Int), ((0 : Int), (((0 : Int), ((0 : Int), (ByteArray.empty, ()))), ((0 : Int), ([], ([], (false, (ByteArray.empty, ()))))))))))).2).2).2).2).2).2).1, (([] : List (Int × (Int × (ByteArray × Unit)))), (t4, ((-(1 : Int)), ())))))))) :: ([] : List ((Int × (Int × (ByteArray × Unit))) × (Int × ((Int × (Int × (ByteArray × Unit))) × (Int × ((List (Int × (Int × (ByteArray × Unit)))) × ((List (Int × (Int × (ByteArray × Unit)))) × (Int × (Int × Unit))))))))))) (Go.IntKind.wrap .i64 (t4 + (1 : Int)))
            else
              none
            else
              none
          else
            bif decide ((Go.Inc.nextE t0 t4) ≥ (0 : Int)) then
              bif ((decide ((0 : Int) ≤ (Go.Inc.nextE t0 t4))) && (decide ((Go.Inc.nextE t0 t4) < (((List.length t0) : Nat) : Int)))) then
              bif (((((List.getD t0 (Int.toNat (Go.Inc.nextE t0 t4)) ((0 : Int), (((0 : Int), ((0 : Int), (ByteArray.empty, ()))), ((0 : Int), ((0 : Int), (((0 : Int), ((0 : Int), (ByteArray.empty, ()))), ((0 : Int), ([], ([], (false, (ByteArray.empty, ()))))))))))).2).2).1) == (2 : Int)) then
              bif ((decide ((0 : Int) ≤ (Go.Inc.nextE t0 t4))) && (decide ((Go.Inc.nextE t0 t4) < (((List.length t0) : Nat) : Int)))) then
              bif decide ((((List.length t3) + (List.length ((((List.getD t0 (Int.toNat t4) ((0 : Int), (((0 : Int), ((0 : Int), (ByteArray.empty, ()))), ((0 : Int), ((0 : Int), (((0 : Int), ((0 : Int), (ByteArray.empty, ()))), ((0 : Int), ([], ([], (false, (ByteArray.empty, ()))))))))))).2).1, (((((List.getD t0 (Int.toNat t4) ((0 : Int), (((0 : Int), ((0 : Int), (ByteArray.empty, ()))), ((0 : Int), ((0 : Int), (((0 : Int), ((0 : Int), (ByteArray.empty, ()))), ((0 : Int), ([], ([], (false, (ByteArray.empty, ()))))))))))).2).2).2).1, ((((((List.getD t0 (Int.toNat t4) ((0 : Int), (((0 : Int), ((0 : Int), (ByteArray.empty, ()))), ((0 : Int), ((0 : Int), (((0 : Int), ((0 : Int), (ByteArray.empty, ()))), ((0 : Int), ([], ([], (false, (ByteArray.empty, ()))))))))))).2).2).2).2).1, (((((((List.getD t0 (Int.toNat t4) ((0 : Int), (((0 : Int), ((0 : Int), (ByteArray.empty, ()))), ((0 : Int), ((0 : Int), (((0 : Int), ((0 : Int), (ByteArray.empty, ()))), ((0 : Int), ([], ([], (false, (ByteArray.empty, ()))))))))))).2).2).2).2).2).1, ((((((((List.getD t0 (Int.toNat t4) ((0 : Int), (((0 : Int), ((0 : Int), (ByteArray.empty, ()))), ((0 : Int), ((0 : Int), (((0 : Int), ((0 : Int), (ByteArray.empty, ()))), ((0 : Int), ([], ([], (false, (ByteArray.empty, ()))))))))))).2).2).2).2).2).2).1, (((((((((List.getD t0 (Int.toNat (Go.Inc.nextE t0 t4)) ((0 : Int), (((0 : Int), ((0 : Int), (ByteArray.empty, ()))), ((0 : Int), ((0 : Int), (((0 : Int), ((0 : Int), (ByteArray.empty, ()))), ((0 : Int), ([], ([], (false, (ByteArray.empty, ()))))))))))).2).2).2).2).2).2).2).1, (t4, ((Go.Inc.nextE t0 t4), ())))))))) :: ([] : List ((Int × (Int × (ByteArray × Unit))) × (Int × ((Int × (Int × (ByteArray × Unit))) × (Int × ((List (Int × (Int × (ByteArray × Unit)))) × ((List (Int × (Int × (ByteArray × Unit)))) × (Int × (Int × Unit)))))))))))) * 144) ≤ 140737488351232) then
              W14_3 N x1 n t0 (t3 ++ ((((List.getD t0 (Int.toNat t4) ((0 : Int), (((0 : Int), ((0 : Int), (ByteArray.empty, ()))), ((0 : Int), ((0 : Int), (((0 : Int), ((0 : Int), (ByteArray.empty, ()))), ((0 : Int), ([], ([], (false, (ByteArray.empty, ()))))))))))).2).1, (((((List.getD t0 (Int.toNat t4) ((0 : Int), (((0 : Int), ((0 : Int), (ByteArray.empty, ()))), ((0 : Int), ((0 : Int), (((0 : Int), ((0 : Int), (ByteArray.empty, ()))), ((0 : Int), ([], ([], (false, (ByteArray.empty, ()))))))))))).2).2).2).1, ((((((List.getD t0 (Int.toNat t4) ((0 : Int), (((0 : Int), ((0 : Int), (ByteArray.empty, ()))), ((0 : Int), ((0 : Int), (((0 : Int), ((0 : Int), (ByteArray.empty, ()))), ((0 : Int), ([], ([], (false, (ByteArray.empty, ()))))))))))).2).2).2).2).1, (((((((List.getD t0 (Int.toNat t4) ((0 : Int), (((0 : Int), ((0 : Int), (ByteArray.empty, ()))), ((0 : Int), ((0 : Int), (((0 : Int), ((0 : Int), (ByteArray.empty, ()))), ((0 : Int), ([], ([], (false, (ByteArray.empty, ()))))))))))).2).2).2).2).2).1, ((((((((List.getD t0 (Int.toNat t4) ((0 : Int), (((0 : Int), ((0 : Int), (ByteArray.empty, ()))), ((0 : Int), ((0 : Int), (((0 : Int), ((0 : Int), (ByteArray.empty, ()))), ((0 : Int), ([], ([], (false, (ByteArray.empty, ()))))))))))).2).2).2).2).2).2).1, (((((((((List.getD t0 (Int.toNat (Go.Inc.nextE t0 t4)) ((0 : Int), (((0 : Int), ((0 : Int), (ByteArray.empty, ()))), ((0 : Int), ((0 : Int), (((0 : Int), ((0 : Int), (ByteArray.empty, ()))), ((0 : Int), ([], ([], (false, (ByteArray.empty, ()))))))))))).2).2).2).2).2).2).2).1, (t4, ((Go.Inc.nextE t0 t4), ())))))))) :: ([] : List ((Int × (Int × (ByteArray × Unit))) × (Int × ((Int × (Int × (ByteArray × Unit))) × (Int × ((List (Int × (Int × (ByteArray × Unit)))) × ((List (Int × (Int × (ByteArray × Unit)))) × (Int × (Int × Unit))))))))))) (Go.IntKind.wrap .i64 (t4 + (1 : Int)))
            else
              none
            else
              none
            else
              bif decide ((((List.length t3) + (List.length ((((List.getD t0 (Int.toNat t4) ((0 : Int), (((0 : Int), ((0 : Int), (ByteArray.empty, ()))), ((0 : Int), ((0 : Int), (((0 : Int), ((0 : Int), (ByteArray.empty, ()))), ((0 : Int), ([], ([], (false, (ByteArray.empty, ()))))))))))).2).1, (((((List.getD t0 (Int.toNat t4) ((0 : Int), (((0 : Int), ((0 : Int), (ByteArray.empty, ()))), ((0 : Int), ((0 : Int), (((0 : Int), ((0 : Int), (ByteArray.empty, ()))), ((0 : Int), ([], ([], (false, (ByteArray.empty, ()))))))))))).2).2).2).1, ((((((List.getD t0 (Int.toNat t4) ((0 : Int), (((0 : Int), ((0 : Int), (ByteArray.empty, ()))), ((0 : Int), ((0 : Int), (((0 : Int), ((0 : Int), (ByteArray.empty, ()))), ((0 : Int), ([], ([], (false, (ByteArray.empty, ()))))))))))).2).2).2).2).1, (((((((List.getD t0 (Int.toNat t4) ((0 : Int), (((0 : Int), ((0 : Int), (ByteArray.empty, ()))), ((0 : Int), ((0 : Int), (((0 : Int), ((0 : Int), (ByteArray.empty, ()))), ((0 : Int), ([], ([], (false, (ByteArray.empty, ()))))))))))).2).2).2).2).2).1, ((((((((List.getD t0 (Int.toNat t4) ((0 : Int), (((0 : Int), ((0 : Int), (ByteArray.empty, ()))), ((0 : Int), ((0 : Int), (((0 : Int), ((0 : Int), (ByteArray.empty, ()))), ((0 : Int), ([], ([], (false, (ByteArray.empty, ()))))))))))).2).2).2).2).2).2).1, (([] : List (Int × (Int × (ByteArray × Unit)))), (t4, ((-(1 : Int)), ())))))))) :: ([] : List ((Int × (Int × (ByteArray × Unit))) × (Int × ((Int × (Int × (ByteArray × Unit))) × (Int × ((List (Int × (Int × (ByteArray × Unit)))) × ((List (Int × (Int × (ByteArray × Unit)))) × (Int × (Int × Unit)))))))))))) * 144) ≤ 140737488351232) then
              W14_3 N x1 n t0 (t3 ++ ((((List.getD t0 (Int.toNat t4) ((0 : Int), (((0 : Int), ((0 : Int), (ByteArray.empty, ()))), ((0 : Int), ((0 : Int), (((0 : Int), ((0 : Int), (ByteArray.empty, ()))), ((0 : Int), ([], ([], (false, (ByteArray.empty, ()))))))))))).2).1, (((((List.getD t0 (Int.toNat t4) ((0 : Int), (((0 : Int), ((0 : Int), (ByteArray.empty, ()))), ((0 : Int), ((0 : Int), (((0 : Int), ((0 : Int), (ByteArray.empty, ()))), ((0 : Int), ([], ([], (false, (ByteArray.empty, ()))))))))))).2).2).2).1, ((((((List.getD t0 (Int.toNat t4) ((0 : Int), (((0 : Int), ((0 : Int), (ByteArray.empty, ()))), ((0 : Int), ((0 : Int), (((0 : Int), ((0 : Int), (ByteArray.empty, ()))), ((0 : Int), ([], ([], (false, (ByteArray.empty, ()))))))))))).2).2).2).2).1, (((((((List.getD t0 (Int.toNat t4) ((0 : Int), (((0 : Int), ((0 : Int), (ByteArray.empty, ()))), ((0 : Int), ((0 : Int), (((0 : Int), ((0 : Int), (ByteArray.empty, ()))), ((0 : Int), ([], ([], (false, (ByteArray.empty, ()))))))))))).2).2).2).2).2).1, ((((((((List.getD t0 (Int.toNat t4) ((0 : Int), (((0 : Int), ((0 : Int), (ByteArray.empty, ()))), ((0 : Int), ((0 : Int), (((0 : Int), ((0 : Int), (ByteArray.empty, ()))), ((0 : Int), ([], ([], (false, (ByteArray.empty, ()))))))))))).2).2).2).2).2).2).1, (([] : List (Int × (Int × (ByteArray × Unit)))), (t4, ((-(1 : Int)), ())))))))) :: ([] : List ((Int × (Int × (ByteArray × Unit))) × (Int × ((Int × (Int × (ByteArray × Unit))) × (Int × ((List (Int × (Int × (ByteArray × Unit)))) × ((List (Int × (Int × (ByteArray × Unit)))) × (Int × (Int × Unit))))))))))) (Go.IntKind.wrap .i64 (t4 + (1 : Int)))
            else
              none
            else
              none
            else
              bif decide ((((List.length t3) + (List.length ((((List.getD t0 (Int.toNat t4) ((0 : Int), (((0 : Int), ((0 : Int), (ByteArray.empty, ()))), ((0 : Int), ((0 : Int), (((0 : Int), ((0 : Int), (ByteArray.empty, ()))), ((0 : Int), ([], ([], (false, (ByteArray.empty, ()))))))))))).2).1, (((((List.getD t0 (Int.toNat t4) ((0 : Int), (((0 : Int), ((0 : Int), (ByteArray.empty, ()))), ((0 : Int), ((0 : Int), (((0 : Int), ((0 : Int), (ByteArray.empty, ()))), ((0 : Int), ([], ([], (false, (ByteArray.empty, ()))))))))))).2).2).2).1, ((((((List.getD t0 (Int.toNat t4) ((0 : Int), (((0 : Int), ((0 : Int), (ByteArray.empty, ()))), ((0 : Int), ((0 : Int), (((0 : Int), ((0 : Int), (ByteArray.empty, ()))), ((0 : Int), ([], ([], (false, (ByteArray.empty, ()))))))))))).2).2).2).2).1, (((((((List.getD t0 (Int.toNat t4) ((0 : Int), (((0 : Int), ((0 : Int), (ByteArray.empty, ()))), ((0 : Int), ((0 : Int), (((0 : Int), ((0 : Int), (ByteArray.empty, ()))), ((0 : Int), ([], ([], (false, (ByteArray.empty, ()))))))))))).2).2).2).2).2).1, ((((((((List.getD t0 (Int.toNat t4) ((0 : Int), (((0 : Int), ((0 : Int), (ByteArray.empty, ()))), ((0 : Int), ((0 : Int), (((0 : Int), ((0 : Int), (ByteArray.empty, ()))), ((0 : Int), ([], ([], (false, (ByteArray.empty, ()))))))))))).2).2).2).2).2).2).1, (([] : List (Int × (Int × (ByteArray × Unit)))), (t4, ((-(1 : Int)), ())))))))) :: ([] : List ((Int × (Int × (ByteArray × Unit))) × (Int × ((Int × (Int × (ByteArray × Unit))) × (Int × ((List (Int × (Int × (ByteArray × Unit)))) × ((List (Int × (Int × (ByteArray × Unit)))) × (Int × (Int × Unit)))))))))))) * 144) ≤ 140737488351232) then
              W14_3 N x1 n t0 (t3 ++ ((((List.getD t0 (Int.toNat t4) ((0 : Int), (((0 : Int), ((0 : Int), (ByteArray.empty, ()))), ((0 : Int), ((0 : Int), (((0 : Int), ((0 : Int), (ByteArray.empty, ()))), ((0 : Int), ([], ([], (false, (ByteArray.empty, ()))))))))))).2).1, (((((List.getD t0 (Int.toNat t4) ((0 : Int), (((0 : Int), ((0 : Int), (ByteArray.empty, ()))), ((0 : Int), ((0 : Int), (((0 : Int), ((0 : Int), (ByteArray.empty, ()))), ((0 : Int), ([], ([], (false, (ByteArray.empty, ()))))))))))).2).2).2).1, ((((((List.getD t0 (Int.toNat t4) ((0 : Int), (((0 : Int), ((0 : Int), (ByteArray.empty, ()))), ((0 : Int), ((0 : Int), (((0 : Int), ((0 : Int), (ByteArray.empty, ()))), ((0 : Int), ([], ([], (false, (ByteArray.empty, ()))))))))))).2).2).2).2).1, (((((((List.getD t0 (Int.toNat t4) ((0 : Int), (((0 : Int), ((0 : Int), (ByteArray.empty, ()))), ((0 : Int), ((0 : Int), (((0 : Int), ((0 : Int), (ByteArray.empty, ()))), ((0 : Int), ([], ([], (false, (ByteArray.empty, ()))))))))))).2).2).2).2).2).1, ((((((((List.getD t0 (Int.toNat t4) ((0 : Int), (((0 : Int), ((0 : Int), (ByteArray.empty, ()))), ((0 : Int), ((0 : Int), (((0 : Int), ((0 : Int), (ByteArray.empty, ()))), ((0 : Int), ([], ([], (false, (ByteArray.empty, ()))))))))))).2).2).2).2).2).2).1, (([] : List (Int × (Int × (ByteArray × Unit)))), (t4, ((-(1 : Int)), ())))))))) :: ([] : List ((Int × (Int × (ByteArray × Unit))) × (Int × ((Int × (Int × (ByteArray × Unit))) × (Int × ((List (Int × (Int × (ByteArray × Unit)))) × ((List (Int × (Int × (ByteArray × Unit)))) × (Int × (Int × Unit))))))))))) (Go.IntKind.wrap .i64 (t4 + (1 : Int)))
            else
              none
        else
          none
    else
      none
  else
    x1 t3
def L14 (N : Nat) : Loops ((List ((Int × Int × ByteArray × Unit) × Int × (Int × Int × ByteArray × Unit) × Int × (List (Int × Int × ByteArray × Unit)) × (List (Int × Int × ByteArray × Unit)) × Int × Int × Unit)) × Unit) := fun k ρ K => match Nat.beq k 3 with
  | true => (match adH ρ H14_3.hd with
    | some v => W14_3 N (fun t3 => K (.exit 0) (encH [(6, (.sl (.pr (.pr (.int .i64) (.pr (.int .i64) (.pr .str .un))) (.pr (.int .i64) (.pr (.pr (.int .i64) (.pr (.int .i64) (.pr .str .un))) (.pr (.int .i64) (.pr (.sl (.pr (.int .i64) (.pr (.int .i64) (.pr .str .un)))) (.pr (.sl (.pr (.int .i64) (.pr (.int .i64) (.pr .str .un)))) (.pr (.int .i64) (.pr (.int .i64) .un)))))))) (.own 67)))] (t3, ()))) N v.1 v.2.1 v.2.2.1
    | none => none)
  | false => none
def F14 (N : Nat) (p0 : List (Int × (Int × Int × ByteArray × Unit) × Int × Int × (Int × Int × ByteArray × Unit) × Int × (List (Int × Int × ByteArray × Unit)) × (List (Int × Int × ByteArray × Unit)) × Bool × ByteArray × Unit)) : Option ((List ((Int × Int × ByteArray × Unit) × Int × (Int × Int × ByteArray × Unit) × Int × (List (Int × Int × ByteArray × Unit)) × (List (Int × Int × ByteArray × Unit)) × Int × Int × Unit)) × Unit) :=
  W14_3 N
    (fun t3 =>
      some (t3, ()))
    N p0 ([] : List ((Int × (Int × (ByteArray × Unit))) × (Int × ((Int × (Int × (ByteArray × Unit))) × (Int × ((List (Int × (Int × (ByteArray × Unit)))) × ((List (Int × (Int × (ByteArray × Unit)))) × (Int × (Int × Unit))))))))) (0 : Int)
theorem loops14 (N : Nat) : loopsOk C14 (L14 N) Go.Proofs.Tryd.f14 := ⟨trivial, ⟨trivial, ⟨⟨trivial, ⟨loopOk_of H14_3 N (fun K n v => W14_3 N (fun t3 => K (.exit 0) (encH [(6, (.sl (.pr (.pr (.int .i64) (.pr (.int .i64) (.pr .str .un))) (.pr (.int .i64) (.pr (.pr (.int .i64) (.pr (.int .i64) (.pr .str .un))) (.pr (.int .i64) (.pr (.sl (.pr (.int .i64) (.pr (.int .i64) (.pr .str .un)))) (.pr (.sl (.pr (.int .i64) (.pr (.int .i64) (.pr .str .un)))) (.pr (.int .i64) (.pr (.int .i64) .un)))))))) (.own 67)))] (t3, ()))) n v.1 v.2.1 v.2.2.1) (by kernel_rfl) (fun K v => by kernel_rfl) (fun K v => by kernel_rfl) (fun K n v => by kernel_rfl), ⟨⟨trivial, ⟨trivial, trivial⟩⟩, ⟨⟨trivial, ⟨⟨trivial, ⟨trivial, trivial⟩⟩, ⟨trivial, ⟨trivial, ⟨⟨trivial, ⟨trivial, trivial⟩⟩, ⟨⟨trivial, ⟨⟨trivial, trivial⟩, trivial⟩⟩, trivial⟩⟩⟩⟩⟩⟩, trivial⟩⟩⟩⟩, ⟨trivial, trivial⟩⟩⟩⟩
theorem runs14 (N : Nat) (x : S14.ta.den) : run C14 S14 (L14 N) Go.Proofs.Tryd.f14 x = F14 N x.1 := by kernel_rfl

/-! ### 4: incognito/incognitolaw12.PairOpers -/
def L4 (_ : Nat) : Loops (Bool × Unit) := fun _ _ _ => none
def F4 (N : Nat) (p0 : List (Int × (Int × Int × ByteArray × Unit) × Int × Int × (Int × Int × ByteArray × Unit) × Int × (List (Int × Int × ByteArray × Unit)) × (List (Int × Int × ByteArray × Unit)) × Bool × ByteArray × Unit)) : Option (Bool × Unit) :=
  bif (Go.Inc.okGH p0 (60 : Int)) then
    bif (Go.Inc.greatH p0 (60 : Int)) then
      some (true, ())
    else
      bif (Go.Inc.okAll p0) then
        bif (Go.Inc.okAll p0) then
          bif (((((Go.Inc.pairOpers p0).2).1).1) != ((Go.Inc.refCheck p0).1)) then
            some (false, ())
          else
            bif ((((((Go.Inc.pairOpers p0).2).1).2).1) != (((Go.Inc.refCheck p0).2).1)) then
              some (false, ())
            else
              bif (((Go.Inc.refCheck p0).1) != (0 : Int)) then
              some (((((List.length ((Go.Inc.pairOpers p0).1)) : Nat) : Int) == (0 : Int)), ())
            else
              bif (Go.Inc.okAll p0) then
              bif (Go.Inc.okOps2 ((Go.Inc.pairOpers p0).1) (Go.Inc.refOpers p0)) then
              some ((Go.Inc.sameOps ((Go.Inc.pairOpers p0).1) (Go.Inc.refOpers p0)), ())
            else
              none
            else
              none
        else
          none
      else
        none
  else
    none
theorem loops4 (N : Nat) : loopsOk C4 (L4 N) Go.Proofs.Tryd.f4 := ⟨trivial, ⟨⟨trivial, ⟨⟨trivial, trivial⟩, trivial⟩⟩, ⟨⟨trivial, ⟨⟨trivial, trivial⟩, trivial⟩⟩, ⟨trivial, ⟨trivial, ⟨⟨trivial, ⟨⟨trivial, trivial⟩, trivial⟩⟩, ⟨⟨trivial, ⟨⟨trivial, trivial⟩, trivial⟩⟩, ⟨trivial, trivial⟩⟩⟩⟩⟩⟩⟩⟩
theorem runs4 (N : Nat) (x : S4.ta.den) : run C4 S4 (L4 N) Go.Proofs.Tryd.f4 x = F4 N x.1 := by kernel_rfl


end Go.L12
