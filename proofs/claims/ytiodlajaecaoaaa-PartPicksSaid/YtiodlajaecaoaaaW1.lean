/- The walks of package part and its statements. Printed by a program of this session. -/
import Derived.Test.YtiodlajaecaoaaaW0
set_option linter.unusedVariables false
set_option maxRecDepth 100000
namespace Go.L19
open Go Go.Abs Go.Inc

/-! ### 6: incognito/incognitolaw19.wakes -/
def L6 (_ : Nat) : Loops (Bool × Unit) := fun _ _ _ => none
def F6 (N : Nat) : Option (Bool × Unit) :=
  some ((Go.Inc.sameLL (Go.Inc.objects ((((0 : Int), ((0 : Int), (ByteArray.empty, ()))), ((0 : Int), (((2 : Int), ((0 : Int), ((strL [120]), ()))), ((0 : Int), (([] : List (Int × (Int × (ByteArray × Unit)))), (([] : List (Int × (Int × (ByteArray × Unit)))), ((0 : Int), ((0 : Int), ())))))))) :: ((((0 : Int), ((0 : Int), (ByteArray.empty, ()))), ((0 : Int), (((2 : Int), ((0 : Int), ((strL [121]), ()))), ((0 : Int), (([] : List (Int × (Int × (ByteArray × Unit)))), (([] : List (Int × (Int × (ByteArray × Unit)))), ((0 : Int), ((0 : Int), ())))))))) :: ((((0 : Int), ((0 : Int), (ByteArray.empty, ()))), ((0 : Int), (((2 : Int), ((0 : Int), ((strL [120]), ()))), ((0 : Int), (([] : List (Int × (Int × (ByteArray × Unit)))), (([] : List (Int × (Int × (ByteArray × Unit)))), ((0 : Int), ((0 : Int), ())))))))) :: ([] : List ((Int × (Int × (ByteArray × Unit))) × (Int × ((Int × (Int × (ByteArray × Unit))) × (Int × ((List (Int × (Int × (ByteArray × Unit)))) × ((List (Int × (Int × (ByteArray × Unit)))) × (Int × (Int × Unit))))))))))))) (((0 : Int) :: ((2 : Int) :: ([] : List Int))) :: (((1 : Int) :: ([] : List Int)) :: ([] : List (List Int))))), ())
theorem loops6 (N : Nat) : loopsOk C6 (L6 N) Go.Proofs.Try.f6 := ⟨trivial, ⟨trivial, ⟨trivial, trivial⟩⟩⟩
theorem runs6 (N : Nat) (x : S6.ta.den) : run C6 S6 (L6 N) Go.Proofs.Try.f6 x = F6 N := by kernel_rfl

/-! ### 4: incognito/incognitolaw19.PartOnce -/
def W4_15 {β : Type} (N : Nat) (x0 : Bool → Option β) (x3 : (List ((Int × Int × ByteArray × Unit) × Int × (Int × Int × ByteArray × Unit) × Int × (List (Int × Int × ByteArray × Unit)) × (List (Int × Int × ByteArray × Unit)) × Int × Int × Unit)) → Nat → Int → (List (List Int)) → (List Int) → Int → Int → Option β) : Nat → (List ((Int × Int × ByteArray × Unit) × Int × (Int × Int × ByteArray × Unit) × Int × (List (Int × Int × ByteArray × Unit)) × (List (Int × Int × ByteArray × Unit)) × Int × Int × Unit)) → Nat → Int → (List (List Int)) → Int → (List Int) → Int → Int → (List Int) → Int → Int → Option β
  | 0, _, _, _, _, _, _, _, _, _, _, _ => none
  | n + 1, t0, t3, t4, t5, t6, b19, t23, t24, t52, t53, t54 =>
  bif decide (t54 < t53) then
    bif ((decide ((0 : Int) ≤ t54)) && (decide (t54 < (((List.length t52) : Nat) : Int)))) then
      bif decide ((List.getD t52 (Int.toNat t54) (0 : Int)) < (0 : Int)) then
        x0 false
      else
        bif decide ((List.getD t52 (Int.toNat t54) (0 : Int)) ≥ (((List.length t0) : Nat) : Int)) then
          x0 false
        else
          bif decide (t54 > (0 : Int)) then
            bif ((decide ((0 : Int) ≤ t6)) && (decide (t6 < (((List.length t5) : Nat) : Int)))) then
              bif ((decide ((0 : Int) ≤ (Go.IntKind.wrap .i64 (t54 - (1 : Int))))) && (decide ((Go.IntKind.wrap .i64 (t54 - (1 : Int))) < (((List.length (List.getD t5 (Int.toNat t6) [])) : Nat) : Int)))) then
              bif decide ((List.getD t52 (Int.toNat t54) (0 : Int)) ≤ (List.getD (List.getD t5 (Int.toNat t6) []) (Int.toNat (Go.IntKind.wrap .i64 (t54 - (1 : Int)))) (0 : Int))) then
              x0 false
            else
              bif ((decide ((0 : Int) ≤ (List.getD t52 (Int.toNat t54) (0 : Int)))) && (decide ((List.getD t52 (Int.toNat t54) (0 : Int)) < (((List.length t0) : Nat) : Int)))) then
              bif ((decide ((0 : Int) ≤ t4)) && (decide (t4 < (((List.length t0) : Nat) : Int)))) then
              bif ((((List.getD t0 (Int.toNat (List.getD t52 (Int.toNat t54) (0 : Int))) (((0 : Int), ((0 : Int), (ByteArray.empty, ()))), ((0 : Int), (((0 : Int), ((0 : Int), (ByteArray.empty, ()))), ((0 : Int), ([], ([], ((0 : Int), ((0 : Int), ()))))))))).2).1) != (((List.getD t0 (Int.toNat t4) (((0 : Int), ((0 : Int), (ByteArray.empty, ()))), ((0 : Int), (((0 : Int), ((0 : Int), (ByteArray.empty, ()))), ((0 : Int), ([], ([], ((0 : Int), ((0 : Int), ()))))))))).2).1)) then
              x0 false
            else
              bif ((decide ((0 : Int) ≤ (List.getD t52 (Int.toNat t54) (0 : Int)))) && (decide ((List.getD t52 (Int.toNat t54) (0 : Int)) < (((List.length t0) : Nat) : Int)))) then
              bif ((decide ((0 : Int) ≤ t4)) && (decide (t4 < (((List.length t0) : Nat) : Int)))) then
              bif (!(((((((List.getD t0 (Int.toNat (List.getD t52 (Int.toNat t54) (0 : Int))) (((0 : Int), ((0 : Int), (ByteArray.empty, ()))), ((0 : Int), (((0 : Int), ((0 : Int), (ByteArray.empty, ()))), ((0 : Int), ([], ([], ((0 : Int), ((0 : Int), ()))))))))).2).2).1).1) == (((((List.getD t0 (Int.toNat t4) (((0 : Int), ((0 : Int), (ByteArray.empty, ()))), ((0 : Int), (((0 : Int), ((0 : Int), (ByteArray.empty, ()))), ((0 : Int), ([], ([], ((0 : Int), ((0 : Int), ()))))))))).2).2).1).1)) && ((((((((List.getD t0 (Int.toNat (List.getD t52 (Int.toNat t54) (0 : Int))) (((0 : Int), ((0 : Int), (ByteArray.empty, ()))), ((0 : Int), (((0 : Int), ((0 : Int), (ByteArray.empty, ()))), ((0 : Int), ([], ([], ((0 : Int), ((0 : Int), ()))))))))).2).2).1).2).1) == ((((((List.getD t0 (Int.toNat t4) (((0 : Int), ((0 : Int), (ByteArray.empty, ()))), ((0 : Int), (((0 : Int), ((0 : Int), (ByteArray.empty, ()))), ((0 : Int), ([], ([], ((0 : Int), ((0 : Int), ()))))))))).2).2).1).2).1)) && (((((((((List.getD t0 (Int.toNat (List.getD t52 (Int.toNat t54) (0 : Int))) (((0 : Int), ((0 : Int), (ByteArray.empty, ()))), ((0 : Int), (((0 : Int), ((0 : Int), (ByteArray.empty, ()))), ((0 : Int), ([], ([], ((0 : Int), ((0 : Int), ()))))))))).2).2).1).2).2).1) == (((((((List.getD t0 (Int.toNat t4) (((0 : Int), ((0 : Int), (ByteArray.empty, ()))), ((0 : Int), (((0 : Int), ((0 : Int), (ByteArray.empty, ()))), ((0 : Int), ([], ([], ((0 : Int), ((0 : Int), ()))))))))).2).2).1).2).2).1)) && true)))) then
              x0 false
            else
              bif ((decide ((0 : Int) ≤ (List.getD t52 (Int.toNat t54) (0 : Int)))) && (decide ((List.getD t52 (Int.toNat t54) (0 : Int)) < ((t3 : Nat) : Int)))) then
              bif decide ((Int.toNat (List.getD t52 (Int.toNat t54) (0 : Int))) < (List.length b19)) then
              bif ((decide ((0 : Int) ≤ (List.getD t52 (Int.toNat t54) (0 : Int)))) && (decide ((List.getD t52 (Int.toNat t54) (0 : Int)) < ((t3 : Nat) : Int)))) then
              bif decide ((Int.toNat (List.getD t52 (Int.toNat t54) (0 : Int))) < (List.length b19)) then
              W4_15 N x0 x3 n t0 t3 t4 t5 t6 (List.set b19 (Int.toNat (List.getD t52 (Int.toNat t54) (0 : Int))) (Go.IntKind.wrap .i64 ((List.getD b19 (Int.toNat (List.getD t52 (Int.toNat t54) (0 : Int))) (0 : Int)) + (1 : Int)))) t23 t24 t52 t53 (Go.IntKind.wrap .i64 (t54 + (1 : Int)))
            else
              none
            else
              none
            else
              none
            else
              none
            else
              none
            else
              none
            else
              none
            else
              none
            else
              none
            else
              none
          else
            bif ((decide ((0 : Int) ≤ (List.getD t52 (Int.toNat t54) (0 : Int)))) && (decide ((List.getD t52 (Int.toNat t54) (0 : Int)) < (((List.length t0) : Nat) : Int)))) then
              bif ((decide ((0 : Int) ≤ t4)) && (decide (t4 < (((List.length t0) : Nat) : Int)))) then
              bif ((((List.getD t0 (Int.toNat (List.getD t52 (Int.toNat t54) (0 : Int))) (((0 : Int), ((0 : Int), (ByteArray.empty, ()))), ((0 : Int), (((0 : Int), ((0 : Int), (ByteArray.empty, ()))), ((0 : Int), ([], ([], ((0 : Int), ((0 : Int), ()))))))))).2).1) != (((List.getD t0 (Int.toNat t4) (((0 : Int), ((0 : Int), (ByteArray.empty, ()))), ((0 : Int), (((0 : Int), ((0 : Int), (ByteArray.empty, ()))), ((0 : Int), ([], ([], ((0 : Int), ((0 : Int), ()))))))))).2).1)) then
              x0 false
            else
              bif ((decide ((0 : Int) ≤ (List.getD t52 (Int.toNat t54) (0 : Int)))) && (decide ((List.getD t52 (Int.toNat t54) (0 : Int)) < (((List.length t0) : Nat) : Int)))) then
              bif ((decide ((0 : Int) ≤ t4)) && (decide (t4 < (((List.length t0) : Nat) : Int)))) then
              bif (!(((((((List.getD t0 (Int.toNat (List.getD t52 (Int.toNat t54) (0 : Int))) (((0 : Int), ((0 : Int), (ByteArray.empty, ()))), ((0 : Int), (((0 : Int), ((0 : Int), (ByteArray.empty, ()))), ((0 : Int), ([], ([], ((0 : Int), ((0 : Int), ()))))))))).2).2).1).1) == (((((List.getD t0 (Int.toNat t4) (((0 : Int), ((0 : Int), (ByteArray.empty, ()))), ((0 : Int), (((0 : Int), ((0 : Int), (ByteArray.empty, ()))), ((0 : Int), ([], ([], ((0 : Int), ((0 : Int), ()))))))))).2).2).1).1)) && ((((((((List.getD t0 (Int.toNat (List.getD t52 (Int.toNat t54) (0 : Int))) (((0 : Int), ((0 : Int), (ByteArray.empty, ()))), ((0 : Int), (((0 : Int), ((0 : Int), (ByteArray.empty, ()))), ((0 : Int), ([], ([], ((0 : Int), ((0 : Int), ()))))))))).2).2).1).2).1) == ((((((List.getD t0 (Int.toNat t4) (((0 : Int), ((0 : Int), (ByteArray.empty, ()))), ((0 : Int), (((0 : Int), ((0 : Int), (ByteArray.empty, ()))), ((0 : Int), ([], ([], ((0 : Int), ((0 : Int), ()))))))))).2).2).1).2).1)) && (((((((((List.getD t0 (Int.toNat (List.getD t52 (Int.toNat t54) (0 : Int))) (((0 : Int), ((0 : Int), (ByteArray.empty, ()))), ((0 : Int), (((0 : Int), ((0 : Int), (ByteArray.empty, ()))), ((0 : Int), ([], ([], ((0 : Int), ((0 : Int), ()))))))))).2).2).1).2).2).1) == (((((((List.getD t0 (Int.toNat t4) (((0 : Int), ((0 : Int), (ByteArray.empty, ()))), ((0 : Int), (((0 : Int), ((0 : Int), (ByteArray.empty, ()))), ((0 : Int), ([], ([], ((0 : Int), ((0 : Int), ()))))))))).2).2).1).2).2).1)) && true)))) then
              x0 false
            else
              bif ((decide ((0 : Int) ≤ (List.getD t52 (Int.toNat t54) (0 : Int)))) && (decide ((List.getD t52 (Int.toNat t54) (0 : Int)) < ((t3 : Nat) : Int)))) then
              bif decide ((Int.toNat (List.getD t52 (Int.toNat t54) (0 : Int))) < (List.length b19)) then
              bif ((decide ((0 : Int) ≤ (List.getD t52 (Int.toNat t54) (0 : Int)))) && (decide ((List.getD t52 (Int.toNat t54) (0 : Int)) < ((t3 : Nat) : Int)))) then
              bif decide ((Int.toNat (List.getD t52 (Int.toNat t54) (0 : Int))) < (List.length b19)) then
              W4_15 N x0 x3 n t0 t3 t4 t5 t6 (List.set b19 (Int.toNat (List.getD t52 (Int.toNat t54) (0 : Int))) (Go.IntKind.wrap .i64 ((List.getD b19 (Int.toNat (List.getD t52 (Int.toNat t54) (0 : Int))) (0 : Int)) + (1 : Int)))) t23 t24 t52 t53 (Go.IntKind.wrap .i64 (t54 + (1 : Int)))
            else
              none
            else
              none
            else
              none
            else
              none
            else
              none
            else
              none
            else
              none
            else
              none
    else
      none
  else
    x3 t0 t3 t4 t5 b19 t23 t24
def W4_9 {β : Type} (N : Nat) (x0 : Bool → Option β) (x1 : (List ((Int × Int × ByteArray × Unit) × Int × (Int × Int × ByteArray × Unit) × Int × (List (Int × Int × ByteArray × Unit)) × (List (Int × Int × ByteArray × Unit)) × Int × Int × Unit)) → Nat → (List (List Int)) → (List Int) → Option β) : Nat → (List ((Int × Int × ByteArray × Unit) × Int × (Int × Int × ByteArray × Unit) × Int × (List (Int × Int × ByteArray × Unit)) × (List (Int × Int × ByteArray × Unit)) × Int × Int × Unit)) → Nat → Int → (List (List Int)) → (List Int) → Int → Int → Option β
  | 0, _, _, _, _, _, _, _ => none
  | n + 1, t0, t3, t4, t5, b19, t23, t24 =>
  bif decide (t24 < t23) then
    bif ((decide ((0 : Int) ≤ t24)) && (decide (t24 < (((List.length t5) : Nat) : Int)))) then
      bif ((((List.length (List.getD t5 (Int.toNat t24) [])) : Nat) : Int) == (0 : Int)) then
        x0 false
      else
        bif ((decide ((0 : Int) ≤ t24)) && (decide (t24 < (((List.length t5) : Nat) : Int)))) then
          bif ((decide ((0 : Int) ≤ (0 : Int))) && (decide ((0 : Int) < (((List.length (List.getD t5 (Int.toNat t24) [])) : Nat) : Int)))) then
            bif decide ((List.getD (List.getD t5 (Int.toNat t24) []) (Int.toNat (0 : Int)) (0 : Int)) ≤ t4) then
              x0 false
            else
              bif ((decide ((0 : Int) ≤ t24)) && (decide (t24 < (((List.length t5) : Nat) : Int)))) then
              bif ((decide ((0 : Int) ≤ (0 : Int))) && (decide ((0 : Int) < (((List.length (List.getD t5 (Int.toNat t24) [])) : Nat) : Int)))) then
              bif ((decide ((0 : Int) ≤ t24)) && (decide (t24 < (((List.length t5) : Nat) : Int)))) then
              W4_15 N
              (fun t2 =>
                x0 t2)
              (fun t0 t3 t4 t5 b19 t23 t24 =>
                W4_9 N x0 x1 n t0 t3 t4 t5 b19 t23 (Go.IntKind.wrap .i64 (t24 + (1 : Int))))
              N t0 t3 (List.getD (List.getD t5 (Int.toNat t24) []) (Int.toNat (0 : Int)) (0 : Int)) t5 t24 b19 t23 t24 (List.getD t5 (Int.toNat t24) []) (((List.length (List.getD t5 (Int.toNat t24) [])) : Nat) : Int) (0 : Int)
            else
              none
            else
              none
            else
              none
          else
            none
        else
          none
    else
      none
  else
    x1 t0 t3 t5 b19
def W4_28 {β : Type} (N : Nat) (x0 : Bool → Option β) (x7 : (List ((Int × Int × ByteArray × Unit) × Int × (Int × Int × ByteArray × Unit) × Int × (List (Int × Int × ByteArray × Unit)) × (List (Int × Int × ByteArray × Unit)) × Int × Int × Unit)) → (List (List Int)) → (List Int) → Nat → Int → Int → Option β) : Nat → (List ((Int × Int × ByteArray × Unit) × Int × (Int × Int × ByteArray × Unit) × Int × (List (Int × Int × ByteArray × Unit)) × (List (Int × Int × ByteArray × Unit)) × Int × Int × Unit)) → (List (List Int)) → Int → (List Int) → Nat → Int → Int → Int → Int → Option β
  | 0, _, _, _, _, _, _, _, _, _ => none
  | n + 1, t0, t5, t9, b19, t117, t118, t119, t127, t128 =>
  bif decide (t128 < t127) then
    bif ((decide ((0 : Int) ≤ t128)) && (decide (t128 < (((List.length t5) : Nat) : Int)))) then
      bif ((decide ((0 : Int) ≤ (0 : Int))) && (decide ((0 : Int) < (((List.length (List.getD t5 (Int.toNat t128) [])) : Nat) : Int)))) then
        bif ((List.getD (List.getD t5 (Int.toNat t128) []) (Int.toNat (0 : Int)) (0 : Int)) != t9) then
          bif ((decide ((0 : Int) ≤ t128)) && (decide (t128 < (((List.length t5) : Nat) : Int)))) then
            bif ((decide ((0 : Int) ≤ (0 : Int))) && (decide ((0 : Int) < (((List.length (List.getD t5 (Int.toNat t128) [])) : Nat) : Int)))) then
              bif ((decide ((0 : Int) ≤ (List.getD (List.getD t5 (Int.toNat t128) []) (Int.toNat (0 : Int)) (0 : Int)))) && (decide ((List.getD (List.getD t5 (Int.toNat t128) []) (Int.toNat (0 : Int)) (0 : Int)) < (((List.length t0) : Nat) : Int)))) then
              bif ((decide ((0 : Int) ≤ t9)) && (decide (t9 < (((List.length t0) : Nat) : Int)))) then
              bif ((((List.getD t0 (Int.toNat (List.getD (List.getD t5 (Int.toNat t128) []) (Int.toNat (0 : Int)) (0 : Int))) (((0 : Int), ((0 : Int), (ByteArray.empty, ()))), ((0 : Int), (((0 : Int), ((0 : Int), (ByteArray.empty, ()))), ((0 : Int), ([], ([], ((0 : Int), ((0 : Int), ()))))))))).2).1) == (((List.getD t0 (Int.toNat t9) (((0 : Int), ((0 : Int), (ByteArray.empty, ()))), ((0 : Int), (((0 : Int), ((0 : Int), (ByteArray.empty, ()))), ((0 : Int), ([], ([], ((0 : Int), ((0 : Int), ()))))))))).2).1)) then
              bif ((decide ((0 : Int) ≤ t128)) && (decide (t128 < (((List.length t5) : Nat) : Int)))) then
              bif ((decide ((0 : Int) ≤ (0 : Int))) && (decide ((0 : Int) < (((List.length (List.getD t5 (Int.toNat t128) [])) : Nat) : Int)))) then
              bif ((decide ((0 : Int) ≤ (List.getD (List.getD t5 (Int.toNat t128) []) (Int.toNat (0 : Int)) (0 : Int)))) && (decide ((List.getD (List.getD t5 (Int.toNat t128) []) (Int.toNat (0 : Int)) (0 : Int)) < (((List.length t0) : Nat) : Int)))) then
              bif ((decide ((0 : Int) ≤ t9)) && (decide (t9 < (((List.length t0) : Nat) : Int)))) then
              bif (((((((List.getD t0 (Int.toNat (List.getD (List.getD t5 (Int.toNat t128) []) (Int.toNat (0 : Int)) (0 : Int))) (((0 : Int), ((0 : Int), (ByteArray.empty, ()))), ((0 : Int), (((0 : Int), ((0 : Int), (ByteArray.empty, ()))), ((0 : Int), ([], ([], ((0 : Int), ((0 : Int), ()))))))))).2).2).1).1) == (((((List.getD t0 (Int.toNat t9) (((0 : Int), ((0 : Int), (ByteArray.empty, ()))), ((0 : Int), (((0 : Int), ((0 : Int), (ByteArray.empty, ()))), ((0 : Int), ([], ([], ((0 : Int), ((0 : Int), ()))))))))).2).2).1).1)) && ((((((((List.getD t0 (Int.toNat (List.getD (List.getD t5 (Int.toNat t128) []) (Int.toNat (0 : Int)) (0 : Int))) (((0 : Int), ((0 : Int), (ByteArray.empty, ()))), ((0 : Int), (((0 : Int), ((0 : Int), (ByteArray.empty, ()))), ((0 : Int), ([], ([], ((0 : Int), ((0 : Int), ()))))))))).2).2).1).2).1) == ((((((List.getD t0 (Int.toNat t9) (((0 : Int), ((0 : Int), (ByteArray.empty, ()))), ((0 : Int), (((0 : Int), ((0 : Int), (ByteArray.empty, ()))), ((0 : Int), ([], ([], ((0 : Int), ((0 : Int), ()))))))))).2).2).1).2).1)) && (((((((((List.getD t0 (Int.toNat (List.getD (List.getD t5 (Int.toNat t128) []) (Int.toNat (0 : Int)) (0 : Int))) (((0 : Int), ((0 : Int), (ByteArray.empty, ()))), ((0 : Int), (((0 : Int), ((0 : Int), (ByteArray.empty, ()))), ((0 : Int), ([], ([], ((0 : Int), ((0 : Int), ()))))))))).2).2).1).2).2).1) == (((((((List.getD t0 (Int.toNat t9) (((0 : Int), ((0 : Int), (ByteArray.empty, ()))), ((0 : Int), (((0 : Int), ((0 : Int), (ByteArray.empty, ()))), ((0 : Int), ([], ([], ((0 : Int), ((0 : Int), ()))))))))).2).2).1).2).2).1)) && true))) then
              bif ((decide ((0 : Int) ≤ t128)) && (decide (t128 < (((List.length t5) : Nat) : Int)))) then
              bif ((decide ((0 : Int) ≤ (0 : Int))) && (decide ((0 : Int) < (((List.length (List.getD t5 (Int.toNat t128) [])) : Nat) : Int)))) then
              bif decide ((List.getD (List.getD t5 (Int.toNat t128) []) (Int.toNat (0 : Int)) (0 : Int)) > t9) then
              x0 false
            else
              W4_28 N x0 x7 n t0 t5 t9 b19 t117 t118 t119 t127 (Go.IntKind.wrap .i64 (t128 + (1 : Int)))
            else
              none
            else
              none
            else
              W4_28 N x0 x7 n t0 t5 t9 b19 t117 t118 t119 t127 (Go.IntKind.wrap .i64 (t128 + (1 : Int)))
            else
              none
            else
              none
            else
              none
            else
              none
            else
              W4_28 N x0 x7 n t0 t5 t9 b19 t117 t118 t119 t127 (Go.IntKind.wrap .i64 (t128 + (1 : Int)))
            else
              none
            else
              none
            else
              none
          else
            none
        else
          W4_28 N x0 x7 n t0 t5 t9 b19 t117 t118 t119 t127 (Go.IntKind.wrap .i64 (t128 + (1 : Int)))
      else
        none
    else
      none
  else
    x7 t0 t5 b19 t117 t118 t119
def W4_23 {β : Type} (N : Nat) (x0 : Bool → Option β) (x5 : Unit → Option β) : Nat → (List ((Int × Int × ByteArray × Unit) × Int × (Int × Int × ByteArray × Unit) × Int × (List (Int × Int × ByteArray × Unit)) × (List (Int × Int × ByteArray × Unit)) × Int × Int × Unit)) → (List (List Int)) → (List Int) → Nat → Int → Int → Option β
  | 0, _, _, _, _, _, _ => none
  | n + 1, t0, t5, b19, t117, t118, t119 =>
  bif decide (t119 < t118) then
    bif ((decide ((0 : Int) ≤ t119)) && (decide (t119 < ((t117 : Nat) : Int)))) then
      bif decide ((Int.toNat t119) < (List.length b19)) then
        bif ((List.getD b19 (Int.toNat t119) (0 : Int)) != (1 : Int)) then
          x0 false
        else
          W4_28 N
            (fun t2 =>
              x0 t2)
            (fun t0 t5 b19 t117 t118 t119 =>
              W4_23 N x0 x5 n t0 t5 b19 t117 t118 (Go.IntKind.wrap .i64 (t119 + (1 : Int))))
            N t0 t5 t119 b19 t117 t118 t119 (((List.length t5) : Nat) : Int) (0 : Int)
      else
        none
    else
      none
  else
    x5 ()
def L4 (N : Nat) : Loops (Bool × Unit) := fun k ρ K => match Nat.beq k 15 with
  | true => (match adH ρ H4_15.hd with
    | some v => W4_15 N (fun t2 => K .ret (encH [(4, .bo)] (t2, ()))) (fun t0 t3 t4 t5 b19 t23 t24 => K (.exit 2) (encH [(0, (.sl (.pr (.pr (.int .i64) (.pr (.int .i64) (.pr .str .un))) (.pr (.int .i64) (.pr (.pr (.int .i64) (.pr (.int .i64) (.pr .str .un))) (.pr (.int .i64) (.pr (.sl (.pr (.int .i64) (.pr (.int .i64) (.pr .str .un)))) (.pr (.sl (.pr (.int .i64) (.pr (.int .i64) (.pr .str .un)))) (.pr (.int .i64) (.pr (.int .i64) .un)))))))) .no)), (6, (.os 19)), (8, (.i .i64)), (10, (.sl (.sl (.int .i64)) .no)), (39, (.ar (.int .i64))), (46, (.i .i64)), (48, (.i .i64))] (t0, (t3, (t4, (t5, (b19, (t23, (t24, ()))))))))) N v.1 v.2.1 v.2.2.1 v.2.2.2.1 v.2.2.2.2.1 v.2.2.2.2.2.1 v.2.2.2.2.2.2.1 v.2.2.2.2.2.2.2.1 v.2.2.2.2.2.2.2.2.1 v.2.2.2.2.2.2.2.2.2.1 v.2.2.2.2.2.2.2.2.2.2.1
    | none => none)
  | false => match Nat.beq k 9 with
  | true => (match adH ρ H4_9.hd with
    | some v => W4_9 N (fun t2 => K .ret (encH [(4, .bo)] (t2, ()))) (fun t0 t3 t5 b19 => K (.exit 0) (encH [(0, (.sl (.pr (.pr (.int .i64) (.pr (.int .i64) (.pr .str .un))) (.pr (.int .i64) (.pr (.pr (.int .i64) (.pr (.int .i64) (.pr .str .un))) (.pr (.int .i64) (.pr (.sl (.pr (.int .i64) (.pr (.int .i64) (.pr .str .un)))) (.pr (.sl (.pr (.int .i64) (.pr (.int .i64) (.pr .str .un)))) (.pr (.int .i64) (.pr (.int .i64) .un)))))))) .no)), (6, (.os 19)), (10, (.sl (.sl (.int .i64)) .no)), (39, (.ar (.int .i64)))] (t0, (t3, (t5, (b19, ())))))) N v.1 v.2.1 v.2.2.1 v.2.2.2.1 v.2.2.2.2.1 v.2.2.2.2.2.1 v.2.2.2.2.2.2.1
    | none => none)
  | false => match Nat.beq k 28 with
  | true => (match adH ρ H4_28.hd with
    | some v => W4_28 N (fun t2 => K .ret (encH [(4, .bo)] (t2, ()))) (fun t0 t5 b19 t117 t118 t119 => K (.exit 6) (encH [(0, (.sl (.pr (.pr (.int .i64) (.pr (.int .i64) (.pr .str .un))) (.pr (.int .i64) (.pr (.pr (.int .i64) (.pr (.int .i64) (.pr .str .un))) (.pr (.int .i64) (.pr (.sl (.pr (.int .i64) (.pr (.int .i64) (.pr .str .un)))) (.pr (.sl (.pr (.int .i64) (.pr (.int .i64) (.pr .str .un)))) (.pr (.int .i64) (.pr (.int .i64) .un)))))))) .no)), (10, (.sl (.sl (.int .i64)) .no)), (39, (.ar (.int .i64))), (234, (.os 19)), (236, (.i .i64)), (238, (.i .i64))] (t0, (t5, (b19, (t117, (t118, (t119, ())))))))) N v.1 v.2.1 v.2.2.1 v.2.2.2.1 v.2.2.2.2.1 v.2.2.2.2.2.1 v.2.2.2.2.2.2.1 v.2.2.2.2.2.2.2.1 v.2.2.2.2.2.2.2.2.1
    | none => none)
  | false => match Nat.beq k 23 with
  | true => (match adH ρ H4_23.hd with
    | some v => W4_23 N (fun t2 => K .ret (encH [(4, .bo)] (t2, ()))) (fun _ => K (.exit 4) (encH [] ())) N v.1 v.2.1 v.2.2.1 v.2.2.2.1 v.2.2.2.2.1 v.2.2.2.2.2.1
    | none => none)
  | false => none
def F4 (N : Nat) (p0 : List ((Int × Int × ByteArray × Unit) × Int × (Int × Int × ByteArray × Unit) × Int × (List (Int × Int × ByteArray × Unit)) × (List (Int × Int × ByteArray × Unit)) × Int × Int × Unit)) : Option (Bool × Unit) :=
  bif decide ((((List.length p0) : Nat) : Int) > (60 : Int)) then
    some (true, ())
  else
    bif ((decide ((0 : Int) ≤ (((List.length p0) : Nat) : Int))) && ((decide (((((List.length p0) : Nat) : Int) * ((8 : Nat) : Int)) ≤ (140737488351232 : Int))) && ((((List.length p0) : Nat) : Int) == (((List.length p0) : Nat) : Int)))) then
      bif (Go.Inc.okObj p0) then
        W4_9 N
          (fun t2 =>
            some (t2, ()))
          (fun t0 t3 t5 b19 =>
            W4_23 N
              (fun t2 =>
                some (t2, ()))
              (fun (_ : Unit) =>
                some (true, ()))
              N t0 t5 b19 t3 ((t3 : Nat) : Int) (0 : Int))
          N p0 (Int.toNat (((List.length p0) : Nat) : Int)) (-(1 : Int)) (Go.Inc.objects p0) (List.replicate (Int.toNat (((List.length p0) : Nat) : Int)) (0 : Int)) (((List.length (Go.Inc.objects p0)) : Nat) : Int) (0 : Int)
      else
        none
    else
      none
theorem loops4 (N : Nat) : loopsOk C4 (L4 N) Go.Proofs.Try.f4 := ⟨trivial, ⟨⟨trivial, ⟨⟨trivial, trivial⟩, trivial⟩⟩, ⟨⟨trivial, ⟨⟨trivial, trivial⟩, trivial⟩⟩, ⟨trivial, ⟨trivial, ⟨trivial, ⟨⟨trivial, ⟨loopOk_of H4_9 N (fun K n v => W4_9 N (fun t2 => K .ret (encH [(4, .bo)] (t2, ()))) (fun t0 t3 t5 b19 => K (.exit 0) (encH [(0, (.sl (.pr (.pr (.int .i64) (.pr (.int .i64) (.pr .str .un))) (.pr (.int .i64) (.pr (.pr (.int .i64) (.pr (.int .i64) (.pr .str .un))) (.pr (.int .i64) (.pr (.sl (.pr (.int .i64) (.pr (.int .i64) (.pr .str .un)))) (.pr (.sl (.pr (.int .i64) (.pr (.int .i64) (.pr .str .un)))) (.pr (.int .i64) (.pr (.int .i64) .un)))))))) .no)), (6, (.os 19)), (10, (.sl (.sl (.int .i64)) .no)), (39, (.ar (.int .i64)))] (t0, (t3, (t5, (b19, ())))))) n v.1 v.2.1 v.2.2.1 v.2.2.2.1 v.2.2.2.2.1 v.2.2.2.2.2.1 v.2.2.2.2.2.2.1) (by kernel_rfl) (fun K v => by kernel_rfl) (fun K v => by kernel_rfl) (fun K n v => by kernel_rfl), ⟨trivial, ⟨⟨trivial, trivial⟩, ⟨⟨trivial, ⟨⟨trivial, ⟨⟨trivial, trivial⟩, trivial⟩⟩, ⟨trivial, ⟨trivial, ⟨loopOk_of H4_15 N (fun K n v => W4_15 N (fun t2 => K .ret (encH [(4, .bo)] (t2, ()))) (fun t0 t3 t4 t5 b19 t23 t24 => K (.exit 2) (encH [(0, (.sl (.pr (.pr (.int .i64) (.pr (.int .i64) (.pr .str .un))) (.pr (.int .i64) (.pr (.pr (.int .i64) (.pr (.int .i64) (.pr .str .un))) (.pr (.int .i64) (.pr (.sl (.pr (.int .i64) (.pr (.int .i64) (.pr .str .un)))) (.pr (.sl (.pr (.int .i64) (.pr (.int .i64) (.pr .str .un)))) (.pr (.int .i64) (.pr (.int .i64) .un)))))))) .no)), (6, (.os 19)), (8, (.i .i64)), (10, (.sl (.sl (.int .i64)) .no)), (39, (.ar (.int .i64))), (46, (.i .i64)), (48, (.i .i64))] (t0, (t3, (t4, (t5, (b19, (t23, (t24, ()))))))))) n v.1 v.2.1 v.2.2.1 v.2.2.2.1 v.2.2.2.2.1 v.2.2.2.2.2.1 v.2.2.2.2.2.2.1 v.2.2.2.2.2.2.2.1 v.2.2.2.2.2.2.2.2.1 v.2.2.2.2.2.2.2.2.2.1 v.2.2.2.2.2.2.2.2.2.2.1) (by kernel_rfl) (fun K v => by kernel_rfl) (fun K v => by kernel_rfl) (fun K n v => by kernel_rfl), ⟨trivial, ⟨⟨trivial, trivial⟩, ⟨⟨trivial, ⟨⟨trivial, ⟨⟨trivial, trivial⟩, trivial⟩⟩, trivial⟩⟩, trivial⟩⟩⟩⟩⟩⟩⟩⟩, trivial⟩⟩⟩⟩⟩, ⟨⟨trivial, ⟨loopOk_of H4_23 N (fun K n v => W4_23 N (fun t2 => K .ret (encH [(4, .bo)] (t2, ()))) (fun _ => K (.exit 4) (encH [] ())) n v.1 v.2.1 v.2.2.1 v.2.2.2.1 v.2.2.2.2.1 v.2.2.2.2.2.1) (by kernel_rfl) (fun K v => by kernel_rfl) (fun K v => by kernel_rfl) (fun K n v => by kernel_rfl), ⟨trivial, ⟨⟨trivial, trivial⟩, ⟨⟨trivial, ⟨⟨trivial, ⟨⟨trivial, trivial⟩, trivial⟩⟩, ⟨trivial, ⟨loopOk_of H4_28 N (fun K n v => W4_28 N (fun t2 => K .ret (encH [(4, .bo)] (t2, ()))) (fun t0 t5 b19 t117 t118 t119 => K (.exit 6) (encH [(0, (.sl (.pr (.pr (.int .i64) (.pr (.int .i64) (.pr .str .un))) (.pr (.int .i64) (.pr (.pr (.int .i64) (.pr (.int .i64) (.pr .str .un))) (.pr (.int .i64) (.pr (.sl (.pr (.int .i64) (.pr (.int .i64) (.pr .str .un)))) (.pr (.sl (.pr (.int .i64) (.pr (.int .i64) (.pr .str .un)))) (.pr (.int .i64) (.pr (.int .i64) .un)))))))) .no)), (10, (.sl (.sl (.int .i64)) .no)), (39, (.ar (.int .i64))), (234, (.os 19)), (236, (.i .i64)), (238, (.i .i64))] (t0, (t5, (b19, (t117, (t118, (t119, ())))))))) n v.1 v.2.1 v.2.2.1 v.2.2.2.1 v.2.2.2.2.1 v.2.2.2.2.2.1 v.2.2.2.2.2.2.1 v.2.2.2.2.2.2.2.1 v.2.2.2.2.2.2.2.2.1) (by kernel_rfl) (fun K v => by kernel_rfl) (fun K v => by kernel_rfl) (fun K n v => by kernel_rfl), ⟨trivial, ⟨⟨trivial, trivial⟩, ⟨⟨trivial, ⟨trivial, ⟨⟨trivial, trivial⟩, trivial⟩⟩⟩, trivial⟩⟩⟩⟩⟩⟩⟩, trivial⟩⟩⟩⟩⟩, ⟨trivial, trivial⟩⟩⟩⟩⟩⟩⟩⟩⟩
theorem runs4 (N : Nat) (x : S4.ta.den) : run C4 S4 (L4 N) Go.Proofs.Try.f4 x = F4 N x.1 := by kernel_rfl


end Go.L19
