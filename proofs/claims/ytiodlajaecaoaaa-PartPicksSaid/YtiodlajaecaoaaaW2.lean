/- The walks of package part and its statements. Printed by a program of this session. -/
import Derived.Test.YtiodlajaecaoaaaW0
set_option linter.unusedVariables false
set_option maxRecDepth 100000
namespace Go.L19
open Go Go.Abs Go.Inc

/-! ### 7: incognito/incognitoref19.Same -/
def W7_9 {β : Type} (N : Nat) (x0 : Bool → Option β) (x3 : (List (List Int)) → (List (List Int)) → Int → Option β) : Nat → (List (List Int)) → (List (List Int)) → Int → Int → Option β
  | 0, _, _, _, _ => none
  | n + 1, t0, t1, t5, t6 =>
  bif ((decide ((0 : Int) ≤ t5)) && (decide (t5 < (((List.length t0) : Nat) : Int)))) then
    bif decide (t6 < (((List.length (List.getD t0 (Int.toNat t5) [])) : Nat) : Int)) then
      bif ((decide ((0 : Int) ≤ t5)) && (decide (t5 < (((List.length t0) : Nat) : Int)))) then
        bif ((decide ((0 : Int) ≤ t6)) && (decide (t6 < (((List.length (List.getD t0 (Int.toNat t5) [])) : Nat) : Int)))) then
          bif ((decide ((0 : Int) ≤ t5)) && (decide (t5 < (((List.length t1) : Nat) : Int)))) then
            bif ((decide ((0 : Int) ≤ t6)) && (decide (t6 < (((List.length (List.getD t1 (Int.toNat t5) [])) : Nat) : Int)))) then
              bif ((List.getD (List.getD t0 (Int.toNat t5) []) (Int.toNat t6) (0 : Int)) != (List.getD (List.getD t1 (Int.toNat t5) []) (Int.toNat t6) (0 : Int))) then
              x0 false
            else
              W7_9 N x0 x3 n t0 t1 t5 (Go.IntKind.wrap .i64 (t6 + (1 : Int)))
            else
              none
          else
            none
        else
          none
      else
        none
    else
      x3 t0 t1 t5
  else
    none
def W7_4 {β : Type} (N : Nat) (x0 : Bool → Option β) (x1 : Unit → Option β) : Nat → (List (List Int)) → (List (List Int)) → Int → Option β
  | 0, _, _, _ => none
  | n + 1, t0, t1, t5 =>
  bif decide (t5 < (((List.length t0) : Nat) : Int)) then
    bif ((decide ((0 : Int) ≤ t5)) && (decide (t5 < (((List.length t0) : Nat) : Int)))) then
      bif ((decide ((0 : Int) ≤ t5)) && (decide (t5 < (((List.length t1) : Nat) : Int)))) then
        bif ((((List.length (List.getD t0 (Int.toNat t5) [])) : Nat) : Int) != (((List.length (List.getD t1 (Int.toNat t5) [])) : Nat) : Int)) then
          x0 false
        else
          W7_9 N
            (fun t4 =>
              x0 t4)
            (fun t0 t1 t5 =>
              W7_4 N x0 x1 n t0 t1 (Go.IntKind.wrap .i64 (t5 + (1 : Int))))
            N t0 t1 t5 (0 : Int)
      else
        none
    else
      none
  else
    x1 ()
def L7 (N : Nat) : Loops (Bool × Unit) := fun k ρ K => match Nat.beq k 9 with
  | true => (match adH ρ H7_9.hd with
    | some v => W7_9 N (fun t4 => K .ret (encH [(8, .bo)] (t4, ()))) (fun t0 t1 t5 => K (.exit 2) (encH [(0, (.sl (.sl (.int .i64)) .no)), (2, (.sl (.sl (.int .i64)) .no)), (10, (.i .i64))] (t0, (t1, (t5, ()))))) N v.1 v.2.1 v.2.2.1 v.2.2.2.1
    | none => none)
  | false => match Nat.beq k 4 with
  | true => (match adH ρ H7_4.hd with
    | some v => W7_4 N (fun t4 => K .ret (encH [(8, .bo)] (t4, ()))) (fun _ => K (.exit 0) (encH [] ())) N v.1 v.2.1 v.2.2.1
    | none => none)
  | false => none
def F7 (N : Nat) (p0 : List (List Int)) (p1 : List (List Int)) : Option (Bool × Unit) :=
  bif ((((List.length p0) : Nat) : Int) != (((List.length p1) : Nat) : Int)) then
    some (false, ())
  else
    W7_4 N
      (fun t4 =>
        some (t4, ()))
      (fun (_ : Unit) =>
        some (true, ()))
      N p0 p1 (0 : Int)
theorem loops7 (N : Nat) : loopsOk C7 (L7 N) Go.Proofs.Try.f7 := ⟨trivial, ⟨⟨trivial, ⟨⟨trivial, trivial⟩, trivial⟩⟩, ⟨⟨trivial, ⟨loopOk_of H7_4 N (fun K n v => W7_4 N (fun t4 => K .ret (encH [(8, .bo)] (t4, ()))) (fun _ => K (.exit 0) (encH [] ())) n v.1 v.2.1 v.2.2.1) (by kernel_rfl) (fun K v => by kernel_rfl) (fun K v => by kernel_rfl) (fun K n v => by kernel_rfl), ⟨⟨trivial, ⟨trivial, trivial⟩⟩, ⟨⟨⟨trivial, ⟨⟨trivial, trivial⟩, trivial⟩⟩, ⟨trivial, ⟨loopOk_of H7_9 N (fun K n v => W7_9 N (fun t4 => K .ret (encH [(8, .bo)] (t4, ()))) (fun t0 t1 t5 => K (.exit 2) (encH [(0, (.sl (.sl (.int .i64)) .no)), (2, (.sl (.sl (.int .i64)) .no)), (10, (.i .i64))] (t0, (t1, (t5, ()))))) n v.1 v.2.1 v.2.2.1 v.2.2.2.1) (by kernel_rfl) (fun K v => by kernel_rfl) (fun K v => by kernel_rfl) (fun K n v => by kernel_rfl), ⟨⟨trivial, ⟨trivial, trivial⟩⟩, ⟨⟨trivial, ⟨⟨trivial, trivial⟩, trivial⟩⟩, trivial⟩⟩⟩⟩⟩, trivial⟩⟩⟩⟩, ⟨trivial, trivial⟩⟩⟩⟩
theorem runs7 (N : Nat) (x : S7.ta.den) : run C7 S7 (L7 N) Go.Proofs.Try.f7 x = F7 N x.1 x.2.1 := by kernel_rfl

/-! ### 13: incognito/incognitoref19.first -/
def W13_2 {β : Type} (N : Nat) (x0 : Int → Option β) (x1 : Int → Option β) : Nat → (List ((Int × Int × ByteArray × Unit) × Int × (Int × Int × ByteArray × Unit) × Int × (List (Int × Int × ByteArray × Unit)) × (List (Int × Int × ByteArray × Unit)) × Int × Int × Unit)) → Int → Int → Option β
  | 0, _, _, _ => none
  | n + 1, t0, t1, t5 =>
  bif decide (t5 < t1) then
    bif ((decide ((0 : Int) ≤ t5)) && (decide (t5 < (((List.length t0) : Nat) : Int)))) then
      bif ((decide ((0 : Int) ≤ t1)) && (decide (t1 < (((List.length t0) : Nat) : Int)))) then
        bif ((((List.getD t0 (Int.toNat t5) (((0 : Int), ((0 : Int), (ByteArray.empty, ()))), ((0 : Int), (((0 : Int), ((0 : Int), (ByteArray.empty, ()))), ((0 : Int), ([], ([], ((0 : Int), ((0 : Int), ()))))))))).2).1) == (((List.getD t0 (Int.toNat t1) (((0 : Int), ((0 : Int), (ByteArray.empty, ()))), ((0 : Int), (((0 : Int), ((0 : Int), (ByteArray.empty, ()))), ((0 : Int), ([], ([], ((0 : Int), ((0 : Int), ()))))))))).2).1)) then
          bif ((decide ((0 : Int) ≤ t5)) && (decide (t5 < (((List.length t0) : Nat) : Int)))) then
            bif ((decide ((0 : Int) ≤ t1)) && (decide (t1 < (((List.length t0) : Nat) : Int)))) then
              bif (((((((List.getD t0 (Int.toNat t5) (((0 : Int), ((0 : Int), (ByteArray.empty, ()))), ((0 : Int), (((0 : Int), ((0 : Int), (ByteArray.empty, ()))), ((0 : Int), ([], ([], ((0 : Int), ((0 : Int), ()))))))))).2).2).1).1) == (((((List.getD t0 (Int.toNat t1) (((0 : Int), ((0 : Int), (ByteArray.empty, ()))), ((0 : Int), (((0 : Int), ((0 : Int), (ByteArray.empty, ()))), ((0 : Int), ([], ([], ((0 : Int), ((0 : Int), ()))))))))).2).2).1).1)) && ((((((((List.getD t0 (Int.toNat t5) (((0 : Int), ((0 : Int), (ByteArray.empty, ()))), ((0 : Int), (((0 : Int), ((0 : Int), (ByteArray.empty, ()))), ((0 : Int), ([], ([], ((0 : Int), ((0 : Int), ()))))))))).2).2).1).2).1) == ((((((List.getD t0 (Int.toNat t1) (((0 : Int), ((0 : Int), (ByteArray.empty, ()))), ((0 : Int), (((0 : Int), ((0 : Int), (ByteArray.empty, ()))), ((0 : Int), ([], ([], ((0 : Int), ((0 : Int), ()))))))))).2).2).1).2).1)) && (((((((((List.getD t0 (Int.toNat t5) (((0 : Int), ((0 : Int), (ByteArray.empty, ()))), ((0 : Int), (((0 : Int), ((0 : Int), (ByteArray.empty, ()))), ((0 : Int), ([], ([], ((0 : Int), ((0 : Int), ()))))))))).2).2).1).2).2).1) == (((((((List.getD t0 (Int.toNat t1) (((0 : Int), ((0 : Int), (ByteArray.empty, ()))), ((0 : Int), (((0 : Int), ((0 : Int), (ByteArray.empty, ()))), ((0 : Int), ([], ([], ((0 : Int), ((0 : Int), ()))))))))).2).2).1).2).2).1)) && true))) then
              x0 t5
            else
              W13_2 N x0 x1 n t0 t1 (Go.IntKind.wrap .i64 (t5 + (1 : Int)))
            else
              none
          else
            none
        else
          W13_2 N x0 x1 n t0 t1 (Go.IntKind.wrap .i64 (t5 + (1 : Int)))
      else
        none
    else
      none
  else
    x1 t1
def L13 (N : Nat) : Loops (Int × Unit) := fun k ρ K => match Nat.beq k 2 with
  | true => (match adH ρ H13_2.hd with
    | some v => W13_2 N (fun t4 => K .ret (encH [(8, (.i .i64))] (t4, ()))) (fun t1 => K (.exit 0) (encH [(2, (.i .i64))] (t1, ()))) N v.1 v.2.1 v.2.2.1
    | none => none)
  | false => none
def F13 (N : Nat) (p0 : List ((Int × Int × ByteArray × Unit) × Int × (Int × Int × ByteArray × Unit) × Int × (List (Int × Int × ByteArray × Unit)) × (List (Int × Int × ByteArray × Unit)) × Int × Int × Unit)) (p1 : Int) : Option (Int × Unit) :=
  W13_2 N
    (fun t4 =>
      some (t4, ()))
    (fun t1 =>
      some (t1, ()))
    N p0 p1 (0 : Int)
theorem loops13 (N : Nat) : loopsOk C13 (L13 N) Go.Proofs.Try.f13 := ⟨trivial, ⟨⟨trivial, ⟨loopOk_of H13_2 N (fun K n v => W13_2 N (fun t4 => K .ret (encH [(8, (.i .i64))] (t4, ()))) (fun t1 => K (.exit 0) (encH [(2, (.i .i64))] (t1, ()))) n v.1 v.2.1 v.2.2.1) (by kernel_rfl) (fun K v => by kernel_rfl) (fun K v => by kernel_rfl) (fun K n v => by kernel_rfl), ⟨⟨trivial, ⟨trivial, trivial⟩⟩, ⟨⟨trivial, ⟨⟨trivial, trivial⟩, trivial⟩⟩, trivial⟩⟩⟩⟩, ⟨trivial, trivial⟩⟩⟩
theorem runs13 (N : Nat) (x : S13.ta.den) : run C13 S13 (L13 N) Go.Proofs.Try.f13 x = F13 N x.1 x.2.1 := by kernel_rfl

/-! ### 9: incognito/incognitoref19.Objects -/
def W9_8 {β : Type} (N : Nat) (x3 : (List ((Int × Int × ByteArray × Unit) × Int × (Int × Int × ByteArray × Unit) × Int × (List (Int × Int × ByteArray × Unit)) × (List (Int × Int × ByteArray × Unit)) × Int × Int × Unit)) → (List (List Int)) → Int → (List Int) → Option β) : Nat → (List ((Int × Int × ByteArray × Unit) × Int × (Int × Int × ByteArray × Unit) × Int × (List (Int × Int × ByteArray × Unit)) × (List (Int × Int × ByteArray × Unit)) × Int × Int × Unit)) → (List (List Int)) → Int → (List Int) → Int → Option β
  | 0, _, _, _, _, _ => none
  | n + 1, t0, t3, t4, t5, t6 =>
  bif decide (t6 < (((List.length t0) : Nat) : Int)) then
    bif (Go.Inc.okFirst t0 t6) then
      bif ((Go.Inc.firstO t0 t6) == t4) then
        bif decide ((((List.length t5) + (List.length (t6 :: ([] : List Int)))) * 8) ≤ 140737488351232) then
          W9_8 N x3 n t0 t3 t4 (t5 ++ (t6 :: ([] : List Int))) (Go.IntKind.wrap .i64 (t6 + (1 : Int)))
        else
          none
      else
        W9_8 N x3 n t0 t3 t4 t5 (Go.IntKind.wrap .i64 (t6 + (1 : Int)))
    else
      none
  else
    x3 t0 t3 t4 t5
def W9_3 {β : Type} (N : Nat) (x1 : (List (List Int)) → Option β) : Nat → (List ((Int × Int × ByteArray × Unit) × Int × (Int × Int × ByteArray × Unit) × Int × (List (Int × Int × ByteArray × Unit)) × (List (Int × Int × ByteArray × Unit)) × Int × Int × Unit)) → (List (List Int)) → Int → Option β
  | 0, _, _, _ => none
  | n + 1, t0, t3, t4 =>
  bif decide (t4 < (((List.length t0) : Nat) : Int)) then
    bif (Go.Inc.okFirst t0 t4) then
      bif ((Go.Inc.firstO t0 t4) != t4) then
        W9_3 N x1 n t0 t3 (Go.IntKind.wrap .i64 (t4 + (1 : Int)))
      else
        W9_8 N
          (fun t0 t3 t4 t5 =>
            bif decide ((((List.length t3) + (List.length (t5 :: ([] : List (List Int))))) * 24) ≤ 140737488351232) then
              W9_3 N x1 n t0 (t3 ++ (t5 :: ([] : List (List Int)))) (Go.IntKind.wrap .i64 (t4 + (1 : Int)))
            else
              none)
          N t0 t3 t4 ([] : List Int) t4
    else
      none
  else
    x1 t3
def L9 (N : Nat) : Loops ((List (List Int)) × Unit) := fun k ρ K => match Nat.beq k 8 with
  | true => (match adH ρ H9_8.hd with
    | some v => W9_8 N (fun t0 t3 t4 t5 => K (.exit 2) (encH [(0, (.sl (.pr (.pr (.int .i64) (.pr (.int .i64) (.pr .str .un))) (.pr (.int .i64) (.pr (.pr (.int .i64) (.pr (.int .i64) (.pr .str .un))) (.pr (.int .i64) (.pr (.sl (.pr (.int .i64) (.pr (.int .i64) (.pr .str .un)))) (.pr (.sl (.pr (.int .i64) (.pr (.int .i64) (.pr .str .un)))) (.pr (.int .i64) (.pr (.int .i64) .un)))))))) .no)), (6, (.sl (.sl (.int .i64)) (.own 37))), (8, (.i .i64)), (10, (.sl (.int .i64) (.own 33)))] (t0, (t3, (t4, (t5, ())))))) N v.1 v.2.1 v.2.2.1 v.2.2.2.1 v.2.2.2.2.1
    | none => none)
  | false => match Nat.beq k 3 with
  | true => (match adH ρ H9_3.hd with
    | some v => W9_3 N (fun t3 => K (.exit 0) (encH [(6, (.sl (.sl (.int .i64)) (.own 37)))] (t3, ()))) N v.1 v.2.1 v.2.2.1
    | none => none)
  | false => none
def F9 (N : Nat) (p0 : List ((Int × Int × ByteArray × Unit) × Int × (Int × Int × ByteArray × Unit) × Int × (List (Int × Int × ByteArray × Unit)) × (List (Int × Int × ByteArray × Unit)) × Int × Int × Unit)) : Option ((List (List Int)) × Unit) :=
  W9_3 N
    (fun t3 =>
      some (t3, ()))
    N p0 ([] : List (List Int)) (0 : Int)
theorem loops9 (N : Nat) : loopsOk C9 (L9 N) Go.Proofs.Try.f9 := ⟨trivial, ⟨trivial, ⟨⟨trivial, ⟨loopOk_of H9_3 N (fun K n v => W9_3 N (fun t3 => K (.exit 0) (encH [(6, (.sl (.sl (.int .i64)) (.own 37)))] (t3, ()))) n v.1 v.2.1 v.2.2.1) (by kernel_rfl) (fun K v => by kernel_rfl) (fun K v => by kernel_rfl) (fun K n v => by kernel_rfl), ⟨⟨trivial, ⟨trivial, trivial⟩⟩, ⟨⟨⟨trivial, ⟨trivial, trivial⟩⟩, ⟨trivial, ⟨⟨trivial, ⟨loopOk_of H9_8 N (fun K n v => W9_8 N (fun t0 t3 t4 t5 => K (.exit 2) (encH [(0, (.sl (.pr (.pr (.int .i64) (.pr (.int .i64) (.pr .str .un))) (.pr (.int .i64) (.pr (.pr (.int .i64) (.pr (.int .i64) (.pr .str .un))) (.pr (.int .i64) (.pr (.sl (.pr (.int .i64) (.pr (.int .i64) (.pr .str .un)))) (.pr (.sl (.pr (.int .i64) (.pr (.int .i64) (.pr .str .un)))) (.pr (.int .i64) (.pr (.int .i64) .un)))))))) .no)), (6, (.sl (.sl (.int .i64)) (.own 37))), (8, (.i .i64)), (10, (.sl (.int .i64) (.own 33)))] (t0, (t3, (t4, (t5, ())))))) n v.1 v.2.1 v.2.2.1 v.2.2.2.1 v.2.2.2.2.1) (by kernel_rfl) (fun K v => by kernel_rfl) (fun K v => by kernel_rfl) (fun K n v => by kernel_rfl), ⟨⟨trivial, ⟨trivial, trivial⟩⟩, ⟨⟨trivial, ⟨trivial, trivial⟩⟩, trivial⟩⟩⟩⟩, trivial⟩⟩⟩, trivial⟩⟩⟩⟩, ⟨trivial, trivial⟩⟩⟩⟩
theorem runs9 (N : Nat) (x : S9.ta.den) : run C9 S9 (L9 N) Go.Proofs.Try.f9 x = F9 N x.1 := by kernel_rfl

/-! ### 3: incognito/incognitolaw19.PartObjects -/
def L3 (_ : Nat) : Loops (Bool × Unit) := fun _ _ _ => none
def F3 (N : Nat) (p0 : List ((Int × Int × ByteArray × Unit) × Int × (Int × Int × ByteArray × Unit) × Int × (List (Int × Int × ByteArray × Unit)) × (List (Int × Int × ByteArray × Unit)) × Int × Int × Unit)) : Option (Bool × Unit) :=
  bif decide ((((List.length p0) : Nat) : Int) > (60 : Int)) then
    some (true, ())
  else
    bif (Go.Inc.okObj p0) then
      bif (Go.Inc.okObj p0) then
        bif (Go.Inc.okLL (Go.Inc.objects p0) (Go.Inc.refObjs p0)) then
          some ((Go.Inc.sameLL (Go.Inc.objects p0) (Go.Inc.refObjs p0)), ())
        else
          none
      else
        none
    else
      none
theorem loops3 (N : Nat) : loopsOk C3 (L3 N) Go.Proofs.Try.f3 := ⟨trivial, ⟨⟨trivial, ⟨⟨trivial, trivial⟩, trivial⟩⟩, ⟨trivial, trivial⟩⟩⟩
theorem runs3 (N : Nat) (x : S3.ta.den) : run C3 S3 (L3 N) Go.Proofs.Try.f3 x = F3 N x.1 := by kernel_rfl

/-! ### 12: incognito/incognitoref19.Pick -/
def W12_3 {β : Type} (N : Nat) (x1 : (List ((Int × Int × ByteArray × Unit) × Int × (Int × Int × ByteArray × Unit) × Int × (List (Int × Int × ByteArray × Unit)) × (List (Int × Int × ByteArray × Unit)) × Int × Int × Unit)) → Option β) : Nat → (List ((Int × Int × ByteArray × Unit) × Int × (Int × Int × ByteArray × Unit) × Int × (List (Int × Int × ByteArray × Unit)) × (List (Int × Int × ByteArray × Unit)) × Int × Int × Unit)) → (List Int) → (List ((Int × Int × ByteArray × Unit) × Int × (Int × Int × ByteArray × Unit) × Int × (List (Int × Int × ByteArray × Unit)) × (List (Int × Int × ByteArray × Unit)) × Int × Int × Unit)) → Int → Option β
  | 0, _, _, _, _ => none
  | n + 1, t0, t1, t5, t6 =>
  bif decide (t6 < (((List.length t1) : Nat) : Int)) then
    bif ((decide ((0 : Int) ≤ t6)) && (decide (t6 < (((List.length t1) : Nat) : Int)))) then
      bif decide ((List.getD t1 (Int.toNat t6) (0 : Int)) ≥ (0 : Int)) then
        bif ((decide ((0 : Int) ≤ t6)) && (decide (t6 < (((List.length t1) : Nat) : Int)))) then
          bif decide ((List.getD t1 (Int.toNat t6) (0 : Int)) < (((List.length t0) : Nat) : Int)) then
            bif ((decide ((0 : Int) ≤ t6)) && (decide (t6 < (((List.length t1) : Nat) : Int)))) then
              bif ((decide ((0 : Int) ≤ (List.getD t1 (Int.toNat t6) (0 : Int)))) && (decide ((List.getD t1 (Int.toNat t6) (0 : Int)) < (((List.length t0) : Nat) : Int)))) then
              bif decide ((((List.length t5) + (List.length ((List.getD t0 (Int.toNat (List.getD t1 (Int.toNat t6) (0 : Int))) (((0 : Int), ((0 : Int), (ByteArray.empty, ()))), ((0 : Int), (((0 : Int), ((0 : Int), (ByteArray.empty, ()))), ((0 : Int), ([], ([], ((0 : Int), ((0 : Int), ()))))))))) :: ([] : List ((Int × (Int × (ByteArray × Unit))) × (Int × ((Int × (Int × (ByteArray × Unit))) × (Int × ((List (Int × (Int × (ByteArray × Unit)))) × ((List (Int × (Int × (ByteArray × Unit)))) × (Int × (Int × Unit)))))))))))) * 144) ≤ 140737488351232) then
              W12_3 N x1 n t0 t1 (t5 ++ ((List.getD t0 (Int.toNat (List.getD t1 (Int.toNat t6) (0 : Int))) (((0 : Int), ((0 : Int), (ByteArray.empty, ()))), ((0 : Int), (((0 : Int), ((0 : Int), (ByteArray.empty, ()))), ((0 : Int), ([], ([], ((0 : Int), ((0 : Int), ()))))))))) :: ([] : List ((Int × (Int × (ByteArray × Unit))) × (Int × ((Int × (Int × (ByteArray × Unit))) × (Int × ((List (Int × (Int × (ByteArray × Unit)))) × ((List (Int × (Int × (ByteArray × Unit)))) × (Int × (Int × Unit))))))))))) (Go.IntKind.wrap .i64 (t6 + (1 : Int)))
            else
              none
            else
              none
            else
              none
          else
            W12_3 N x1 n t0 t1 t5 (Go.IntKind.wrap .i64 (t6 + (1 : Int)))
        else
          none
      else
        W12_3 N x1 n t0 t1 t5 (Go.IntKind.wrap .i64 (t6 + (1 : Int)))
    else
      none
  else
    x1 t5
def L12 (N : Nat) : Loops ((List ((Int × Int × ByteArray × Unit) × Int × (Int × Int × ByteArray × Unit) × Int × (List (Int × Int × ByteArray × Unit)) × (List (Int × Int × ByteArray × Unit)) × Int × Int × Unit)) × Unit) := fun k ρ K => match Nat.beq k 3 with
  | true => (match adH ρ H12_3.hd with
    | some v => W12_3 N (fun t5 => K (.exit 0) (encH [(10, (.sl (.pr (.pr (.int .i64) (.pr (.int .i64) (.pr .str .un))) (.pr (.int .i64) (.pr (.pr (.int .i64) (.pr (.int .i64) (.pr .str .un))) (.pr (.int .i64) (.pr (.sl (.pr (.int .i64) (.pr (.int .i64) (.pr .str .un)))) (.pr (.sl (.pr (.int .i64) (.pr (.int .i64) (.pr .str .un)))) (.pr (.int .i64) (.pr (.int .i64) .un)))))))) (.own 36)))] (t5, ()))) N v.1 v.2.1 v.2.2.1 v.2.2.2.1
    | none => none)
  | false => none
def F12 (N : Nat) (p0 : List ((Int × Int × ByteArray × Unit) × Int × (Int × Int × ByteArray × Unit) × Int × (List (Int × Int × ByteArray × Unit)) × (List (Int × Int × ByteArray × Unit)) × Int × Int × Unit)) (p1 : List Int) : Option ((List ((Int × Int × ByteArray × Unit) × Int × (Int × Int × ByteArray × Unit) × Int × (List (Int × Int × ByteArray × Unit)) × (List (Int × Int × ByteArray × Unit)) × Int × Int × Unit)) × Unit) :=
  W12_3 N
    (fun t5 =>
      some (t5, ()))
    N p0 p1 ([] : List ((Int × (Int × (ByteArray × Unit))) × (Int × ((Int × (Int × (ByteArray × Unit))) × (Int × ((List (Int × (Int × (ByteArray × Unit)))) × ((List (Int × (Int × (ByteArray × Unit)))) × (Int × (Int × Unit))))))))) (0 : Int)
theorem loops12 (N : Nat) : loopsOk C12 (L12 N) Go.Proofs.Try.f12 := ⟨trivial, ⟨trivial, ⟨⟨trivial, ⟨loopOk_of H12_3 N (fun K n v => W12_3 N (fun t5 => K (.exit 0) (encH [(10, (.sl (.pr (.pr (.int .i64) (.pr (.int .i64) (.pr .str .un))) (.pr (.int .i64) (.pr (.pr (.int .i64) (.pr (.int .i64) (.pr .str .un))) (.pr (.int .i64) (.pr (.sl (.pr (.int .i64) (.pr (.int .i64) (.pr .str .un)))) (.pr (.sl (.pr (.int .i64) (.pr (.int .i64) (.pr .str .un)))) (.pr (.int .i64) (.pr (.int .i64) .un)))))))) (.own 36)))] (t5, ()))) n v.1 v.2.1 v.2.2.1 v.2.2.2.1) (by kernel_rfl) (fun K v => by kernel_rfl) (fun K v => by kernel_rfl) (fun K n v => by kernel_rfl), ⟨⟨trivial, ⟨trivial, trivial⟩⟩, ⟨⟨trivial, ⟨trivial, trivial⟩⟩, trivial⟩⟩⟩⟩, ⟨trivial, trivial⟩⟩⟩⟩
theorem runs12 (N : Nat) (x : S12.ta.den) : run C12 S12 (L12 N) Go.Proofs.Try.f12 x = F12 N x.1 x.2.1 := by kernel_rfl

/-! ### 16: incognito/incognitoref07.Same -/
def W16_4 {β : Type} (N : Nat) (x0 : Bool → Option β) (x1 : Unit → Option β) : Nat → (List (Int × Int × ByteArray × Unit)) → (List (Int × Int × ByteArray × Unit)) → Int → Option β
  | 0, _, _, _ => none
  | n + 1, t0, t1, t5 =>
  bif decide (t5 < (((List.length t0) : Nat) : Int)) then
    bif ((decide ((0 : Int) ≤ t5)) && (decide (t5 < (((List.length t0) : Nat) : Int)))) then
      bif ((decide ((0 : Int) ≤ t5)) && (decide (t5 < (((List.length t1) : Nat) : Int)))) then
        bif (!((((List.getD t0 (Int.toNat t5) ((0 : Int), ((0 : Int), (ByteArray.empty, ())))).1) == ((List.getD t1 (Int.toNat t5) ((0 : Int), ((0 : Int), (ByteArray.empty, ())))).1)) && (((((List.getD t0 (Int.toNat t5) ((0 : Int), ((0 : Int), (ByteArray.empty, ())))).2).1) == (((List.getD t1 (Int.toNat t5) ((0 : Int), ((0 : Int), (ByteArray.empty, ())))).2).1)) && ((((((List.getD t0 (Int.toNat t5) ((0 : Int), ((0 : Int), (ByteArray.empty, ())))).2).2).1) == ((((List.getD t1 (Int.toNat t5) ((0 : Int), ((0 : Int), (ByteArray.empty, ())))).2).2).1)) && true)))) then
          x0 false
        else
          W16_4 N x0 x1 n t0 t1 (Go.IntKind.wrap .i64 (t5 + (1 : Int)))
      else
        none
    else
      none
  else
    x1 ()
def L16 (N : Nat) : Loops (Bool × Unit) := fun k ρ K => match Nat.beq k 4 with
  | true => (match adH ρ H16_4.hd with
    | some v => W16_4 N (fun t4 => K .ret (encH [(8, .bo)] (t4, ()))) (fun _ => K (.exit 0) (encH [] ())) N v.1 v.2.1 v.2.2.1
    | none => none)
  | false => none
def F16 (N : Nat) (p0 : List (Int × Int × ByteArray × Unit)) (p1 : List (Int × Int × ByteArray × Unit)) : Option (Bool × Unit) :=
  bif ((((List.length p0) : Nat) : Int) != (((List.length p1) : Nat) : Int)) then
    some (false, ())
  else
    W16_4 N
      (fun t4 =>
        some (t4, ()))
      (fun (_ : Unit) =>
        some (true, ()))
      N p0 p1 (0 : Int)
theorem loops16 (N : Nat) : loopsOk C16 (L16 N) Go.Proofs.Try.f16 := ⟨trivial, ⟨⟨trivial, ⟨⟨trivial, trivial⟩, trivial⟩⟩, ⟨⟨trivial, ⟨loopOk_of H16_4 N (fun K n v => W16_4 N (fun t4 => K .ret (encH [(8, .bo)] (t4, ()))) (fun _ => K (.exit 0) (encH [] ())) n v.1 v.2.1 v.2.2.1) (by kernel_rfl) (fun K v => by kernel_rfl) (fun K v => by kernel_rfl) (fun K n v => by kernel_rfl), ⟨⟨trivial, ⟨trivial, trivial⟩⟩, ⟨⟨trivial, ⟨⟨trivial, trivial⟩, trivial⟩⟩, trivial⟩⟩⟩⟩, ⟨trivial, trivial⟩⟩⟩⟩
theorem runs16 (N : Nat) (x : S16.ta.den) : run C16 S16 (L16 N) Go.Proofs.Try.f16 x = F16 N x.1 x.2.1 := by kernel_rfl

/-! ### 15: incognito/incognitoref12.One -/
def L15 (_ : Nat) : Loops (Bool × Unit) := fun _ _ _ => none
def F15 (N : Nat) (p0 : (Int × Int × ByteArray × Unit) × Int × (Int × Int × ByteArray × Unit) × Int × (List (Int × Int × ByteArray × Unit)) × (List (Int × Int × ByteArray × Unit)) × Int × Int × Unit) (p1 : (Int × Int × ByteArray × Unit) × Int × (Int × Int × ByteArray × Unit) × Int × (List (Int × Int × ByteArray × Unit)) × (List (Int × Int × ByteArray × Unit)) × Int × Int × Unit) : Option (Bool × Unit) :=
  bif ((p0.1.1 == p1.1.1) && ((p0.1.2.1 == p1.1.2.1) && ((p0.1.2.2.1 == p1.1.2.2.1) && true))) then
    bif (p0.2.1 == p1.2.1) then
      bif ((p0.2.2.1.1 == p1.2.2.1.1) && ((p0.2.2.1.2.1 == p1.2.2.1.2.1) && ((p0.2.2.1.2.2.1 == p1.2.2.1.2.2.1) && true))) then
        bif (p0.2.2.2.1 == p1.2.2.2.1) then
          bif (Go.Inc.okSameW p0.2.2.2.2.1 p1.2.2.2.2.1) then
            bif (Go.Inc.sameV p0.2.2.2.2.1 p1.2.2.2.2.1) then
              bif (Go.Inc.okSameW p0.2.2.2.2.2.1 p1.2.2.2.2.2.1) then
              bif (Go.Inc.sameV p0.2.2.2.2.2.1 p1.2.2.2.2.2.1) then
              bif (p0.2.2.2.2.2.2.1 == p1.2.2.2.2.2.2.1) then
              some ((p0.2.2.2.2.2.2.2.1 == p1.2.2.2.2.2.2.2.1), ())
            else
              some (false, ())
            else
              some (false, ())
            else
              none
            else
              some (false, ())
          else
            none
        else
          some (false, ())
      else
        some (false, ())
    else
      some (false, ())
  else
    some (false, ())
theorem loops15 (N : Nat) : loopsOk C15 (L15 N) Go.Proofs.Try.f15 := ⟨trivial, ⟨trivial, trivial⟩⟩
theorem runs15 (N : Nat) (x : S15.ta.den) : run C15 S15 (L15 N) Go.Proofs.Try.f15 x = F15 N x.1 x.2.1 := by kernel_rfl

/-! ### 11: incognito/incognitoref12.Same -/
def W11_4 {β : Type} (N : Nat) (x0 : Bool → Option β) (x1 : Unit → Option β) : Nat → (List ((Int × Int × ByteArray × Unit) × Int × (Int × Int × ByteArray × Unit) × Int × (List (Int × Int × ByteArray × Unit)) × (List (Int × Int × ByteArray × Unit)) × Int × Int × Unit)) → (List ((Int × Int × ByteArray × Unit) × Int × (Int × Int × ByteArray × Unit) × Int × (List (Int × Int × ByteArray × Unit)) × (List (Int × Int × ByteArray × Unit)) × Int × Int × Unit)) → Int → Option β
  | 0, _, _, _ => none
  | n + 1, t0, t1, t5 =>
  bif decide (t5 < (((List.length t0) : Nat) : Int)) then
    bif ((decide ((0 : Int) ≤ t5)) && (decide (t5 < (((List.length t0) : Nat) : Int)))) then
      bif ((decide ((0 : Int) ≤ t5)) && (decide (t5 < (((List.length t1) : Nat) : Int)))) then
        bif (Go.Inc.okOneW (List.getD t0 (Int.toNat t5) (((0 : Int), ((0 : Int), (ByteArray.empty, ()))), ((0 : Int), (((0 : Int), ((0 : Int), (ByteArray.empty, ()))), ((0 : Int), ([], ([], ((0 : Int), ((0 : Int), ()))))))))) (List.getD t1 (Int.toNat t5) (((0 : Int), ((0 : Int), (ByteArray.empty, ()))), ((0 : Int), (((0 : Int), ((0 : Int), (ByteArray.empty, ()))), ((0 : Int), ([], ([], ((0 : Int), ((0 : Int), ())))))))))) then
          bif (!(Go.Inc.oneO (List.getD t0 (Int.toNat t5) (((0 : Int), ((0 : Int), (ByteArray.empty, ()))), ((0 : Int), (((0 : Int), ((0 : Int), (ByteArray.empty, ()))), ((0 : Int), ([], ([], ((0 : Int), ((0 : Int), ()))))))))) (List.getD t1 (Int.toNat t5) (((0 : Int), ((0 : Int), (ByteArray.empty, ()))), ((0 : Int), (((0 : Int), ((0 : Int), (ByteArray.empty, ()))), ((0 : Int), ([], ([], ((0 : Int), ((0 : Int), ()))))))))))) then
            x0 false
          else
            W11_4 N x0 x1 n t0 t1 (Go.IntKind.wrap .i64 (t5 + (1 : Int)))
        else
          none
      else
        none
    else
      none
  else
    x1 ()
def L11 (N : Nat) : Loops (Bool × Unit) := fun k ρ K => match Nat.beq k 4 with
  | true => (match adH ρ H11_4.hd with
    | some v => W11_4 N (fun t4 => K .ret (encH [(8, .bo)] (t4, ()))) (fun _ => K (.exit 0) (encH [] ())) N v.1 v.2.1 v.2.2.1
    | none => none)
  | false => none
def F11 (N : Nat) (p0 : List ((Int × Int × ByteArray × Unit) × Int × (Int × Int × ByteArray × Unit) × Int × (List (Int × Int × ByteArray × Unit)) × (List (Int × Int × ByteArray × Unit)) × Int × Int × Unit)) (p1 : List ((Int × Int × ByteArray × Unit) × Int × (Int × Int × ByteArray × Unit) × Int × (List (Int × Int × ByteArray × Unit)) × (List (Int × Int × ByteArray × Unit)) × Int × Int × Unit)) : Option (Bool × Unit) :=
  bif ((((List.length p0) : Nat) : Int) != (((List.length p1) : Nat) : Int)) then
    some (false, ())
  else
    W11_4 N
      (fun t4 =>
        some (t4, ()))
      (fun (_ : Unit) =>
        some (true, ()))
      N p0 p1 (0 : Int)
theorem loops11 (N : Nat) : loopsOk C11 (L11 N) Go.Proofs.Try.f11 := ⟨trivial, ⟨⟨trivial, ⟨⟨trivial, trivial⟩, trivial⟩⟩, ⟨⟨trivial, ⟨loopOk_of H11_4 N (fun K n v => W11_4 N (fun t4 => K .ret (encH [(8, .bo)] (t4, ()))) (fun _ => K (.exit 0) (encH [] ())) n v.1 v.2.1 v.2.2.1) (by kernel_rfl) (fun K v => by kernel_rfl) (fun K v => by kernel_rfl) (fun K n v => by kernel_rfl), ⟨⟨trivial, ⟨trivial, trivial⟩⟩, ⟨⟨trivial, ⟨⟨trivial, trivial⟩, trivial⟩⟩, trivial⟩⟩⟩⟩, ⟨trivial, trivial⟩⟩⟩⟩
theorem runs11 (N : Nat) (x : S11.ta.den) : run C11 S11 (L11 N) Go.Proofs.Try.f11 x = F11 N x.1 x.2.1 := by kernel_rfl

end Go.L19
