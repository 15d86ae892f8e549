/- The walks of package merge and its statement. Printed by a program of this session. -/
import Derived.Test.YtklcmhpgjcghkaaW0
set_option linter.unusedVariables false
set_option maxRecDepth 100000
namespace Go.L23a
open Go Go.Abs Go.Inc

/-! ### 12: incognito/merge.All$1$1 -/
def L12 (_ : Nat) : Loops (HS.den X12.hout) := fun _ _ _ => none
def F12 (N : Nat) (t0 : Int) (b1000a : List ((Int × Int × ByteArray × Unit) × Int × (Int × Int × ByteArray × Unit) × Int × (List (Int × Int × ByteArray × Unit)) × (List (Int × Int × ByteArray × Unit)) × Int × Int × Unit)) (b1001a : Int) : Option (HS.den X12.hout) :=
  bif ((decide ((0 : Int) ≤ t0)) && (decide (t0 < (((List.length b1000a) : Nat) : Int)))) then
    bif ((decide ((0 : Int) ≤ b1001a)) && (decide (b1001a < (((List.length b1000a) : Nat) : Int)))) then
      some ((Go.Inc.aheadO (List.getD b1000a (Int.toNat t0) (((0 : Int), ((0 : Int), (ByteArray.empty, ()))), ((0 : Int), (((0 : Int), ((0 : Int), (ByteArray.empty, ()))), ((0 : Int), ([], ([], ((0 : Int), ((0 : Int), ()))))))))) (List.getD b1000a (Int.toNat b1001a) (((0 : Int), ((0 : Int), (ByteArray.empty, ()))), ((0 : Int), (((0 : Int), ((0 : Int), (ByteArray.empty, ()))), ((0 : Int), ([], ([], ((0 : Int), ((0 : Int), ())))))))))), ((b1000a, ()), ((b1001a, ()), ())))
    else
      none
  else
    none
theorem loops12 (N : Nat) : loopsOk C12 (L12 N) Go.Proofs.Try.f12 := ⟨trivial, ⟨trivial, trivial⟩⟩
theorem runs12 (N : Nat) (x : HS.den X12.hin) : runX C12 X12 (L12 N) Go.Proofs.Try.f12 x = F12 N x.1 x.2.2.2.1.1 x.2.2.2.2.1.1 := by kernel_rfl

/-! ### 10: incognito/merge.All$1 -/
def W10_2 {β : Type} (N : Nat) (x0 : Bool → Nat → (List ((Int × Int × ByteArray × Unit) × Int × (Int × Int × ByteArray × Unit) × Int × (List (Int × Int × ByteArray × Unit)) × (List (Int × Int × ByteArray × Unit)) × Int × Int × Unit)) → (List (List Int)) → Option β) (x1 : Nat → (List ((Int × Int × ByteArray × Unit) × Int × (Int × Int × ByteArray × Unit) × Int × (List (Int × Int × ByteArray × Unit)) × (List (Int × Int × ByteArray × Unit)) × Int × Int × Unit)) → (List (List Int)) → Option β) : Nat → Int → Nat → Int → Int → Nat → (List ((Int × Int × ByteArray × Unit) × Int × (Int × Int × ByteArray × Unit) × Int × (List (Int × Int × ByteArray × Unit)) × (List (Int × Int × ByteArray × Unit)) × Int × Int × Unit)) → (List (List Int)) → Option β
  | 0, _, _, _, _, _, _, _ => none
  | n + 1, b3a, t7, t8, t9, b1000a, b1001a, b1002 =>
  bif decide (t9 < t8) then
    bif ((decide ((0 : Int) ≤ t9)) && (decide (t9 < ((t7 : Nat) : Int)))) then
      bif decide ((Int.toNat t9) < (List.length b1002)) then
        bif (Go.Inc.okIdx (List.getD b1002 (Int.toNat t9) []) b1001a b3a) then
          bif (Go.Inc.anyA (List.getD b1002 (Int.toNat t9) []) b1001a b3a) then
            x0 false b1000a b1001a b1002
          else
            W10_2 N x0 x1 n b3a t7 t8 (Go.IntKind.wrap .i64 (t9 + (1 : Int))) b1000a b1001a b1002
        else
          none
      else
        none
    else
      none
  else
    x1 b1000a b1001a b1002
def L10 (N : Nat) : Loops (HS.den X10.hout) := fun k ρ K => match Nat.beq k 2 with
  | true => (match adH ρ H10_2.hd with
    | some v => W10_2 N (fun t4 b1000a b1001a b1002 => K .ret (encH [(8, .bo), (2001, (.pr (.os 1002) .un)), (2003, (.pr (.sl (.pr (.pr (.int .i64) (.pr (.int .i64) (.pr .str .un))) (.pr (.int .i64) (.pr (.pr (.int .i64) (.pr (.int .i64) (.pr .str .un))) (.pr (.int .i64) (.pr (.sl (.pr (.int .i64) (.pr (.int .i64) (.pr .str .un)))) (.pr (.sl (.pr (.int .i64) (.pr (.int .i64) (.pr .str .un)))) (.pr (.int .i64) (.pr (.int .i64) .un)))))))) .no) .un)), (2005, (.ar (.sl (.int .i64))))] (t4, ((b1000a, ()), ((b1001a, ()), (b1002, ())))))) (fun b1000a b1001a b1002 => K (.exit 0) (encH [(2001, (.pr (.os 1002) .un)), (2003, (.pr (.sl (.pr (.pr (.int .i64) (.pr (.int .i64) (.pr .str .un))) (.pr (.int .i64) (.pr (.pr (.int .i64) (.pr (.int .i64) (.pr .str .un))) (.pr (.int .i64) (.pr (.sl (.pr (.int .i64) (.pr (.int .i64) (.pr .str .un)))) (.pr (.sl (.pr (.int .i64) (.pr (.int .i64) (.pr .str .un)))) (.pr (.int .i64) (.pr (.int .i64) .un)))))))) .no) .un)), (2005, (.ar (.sl (.int .i64))))] ((b1000a, ()), ((b1001a, ()), (b1002, ()))))) N v.2.2.1.1 v.2.2.2.1 v.2.2.2.2.1 v.2.2.2.2.2.1 v.2.2.2.2.2.2.1.1 v.2.2.2.2.2.2.2.1.1 v.2.2.2.2.2.2.2.2.1
    | none => none)
  | false => none
def F10 (N : Nat) (t0 : Int) (b1000a : Nat) (b1001a : List ((Int × Int × ByteArray × Unit) × Int × (Int × Int × ByteArray × Unit) × Int × (List (Int × Int × ByteArray × Unit)) × (List (Int × Int × ByteArray × Unit)) × Int × Int × Unit)) (b1002 : List (List Int)) : Option (HS.den X10.hout) :=
  W10_2 N
    (fun t4 b1000a b1001a b1002 =>
      some (t4, ((b1000a, ()), ((b1001a, ()), (b1002, ())))))
    (fun b1000a b1001a b1002 =>
      some (true, ((b1000a, ()), ((b1001a, ()), (b1002, ())))))
    N t0 b1000a ((b1000a : Nat) : Int) (0 : Int) b1000a b1001a b1002
theorem loops10 (N : Nat) : loopsOk C10 (L10 N) Go.Proofs.Try.f10 := ⟨trivial, ⟨⟨trivial, ⟨loopOk_of H10_2 N (fun K n v => W10_2 N (fun t4 b1000a b1001a b1002 => K .ret (encH [(8, .bo), (2001, (.pr (.os 1002) .un)), (2003, (.pr (.sl (.pr (.pr (.int .i64) (.pr (.int .i64) (.pr .str .un))) (.pr (.int .i64) (.pr (.pr (.int .i64) (.pr (.int .i64) (.pr .str .un))) (.pr (.int .i64) (.pr (.sl (.pr (.int .i64) (.pr (.int .i64) (.pr .str .un)))) (.pr (.sl (.pr (.int .i64) (.pr (.int .i64) (.pr .str .un)))) (.pr (.int .i64) (.pr (.int .i64) .un)))))))) .no) .un)), (2005, (.ar (.sl (.int .i64))))] (t4, ((b1000a, ()), ((b1001a, ()), (b1002, ())))))) (fun b1000a b1001a b1002 => K (.exit 0) (encH [(2001, (.pr (.os 1002) .un)), (2003, (.pr (.sl (.pr (.pr (.int .i64) (.pr (.int .i64) (.pr .str .un))) (.pr (.int .i64) (.pr (.pr (.int .i64) (.pr (.int .i64) (.pr .str .un))) (.pr (.int .i64) (.pr (.sl (.pr (.int .i64) (.pr (.int .i64) (.pr .str .un)))) (.pr (.sl (.pr (.int .i64) (.pr (.int .i64) (.pr .str .un)))) (.pr (.int .i64) (.pr (.int .i64) .un)))))))) .no) .un)), (2005, (.ar (.sl (.int .i64))))] ((b1000a, ()), ((b1001a, ()), (b1002, ()))))) n v.2.2.1.1 v.2.2.2.1 v.2.2.2.2.1 v.2.2.2.2.2.1 v.2.2.2.2.2.2.1.1 v.2.2.2.2.2.2.2.1.1 v.2.2.2.2.2.2.2.2.1) (by kernel_rfl) (fun K v => by kernel_rfl) (fun K v => by kernel_rfl) (fun K n v => by kernel_rfl), ⟨trivial, ⟨⟨trivial, trivial⟩, ⟨⟨trivial, ⟨trivial, ⟨⟨trivial, trivial⟩, trivial⟩⟩⟩, trivial⟩⟩⟩⟩⟩, ⟨trivial, trivial⟩⟩⟩
theorem runs10 (N : Nat) (x : HS.den X10.hin) : runX C10 X10 (L10 N) Go.Proofs.Try.f10 x = F10 N x.1 x.2.2.2.1.1 x.2.2.2.2.1.1 x.2.2.2.2.2.1 := by kernel_rfl

/-! ### 8: incognito/merge.apart -/
def W8_6 {β : Type} (N : Nat) (x0 : Bool → Option β) (x3 : Int → Nat → (List Int) → (List (List Int)) → Int → Int → Option β) : Nat → Int → Nat → (List Int) → (List (List Int)) → Int → Int → (List Int) → Int → Int → Option β
  | 0, _, _, _, _, _, _, _, _, _ => none
  | n + 1, t0, t5, b11, t12, t13, t14, t18, t19, t20 =>
  bif decide (t20 < t19) then
    bif ((decide ((0 : Int) ≤ t20)) && (decide (t20 < (((List.length t18) : Nat) : Int)))) then
      bif decide ((List.getD t18 (Int.toNat t20) (0 : Int)) < (0 : Int)) then
        x0 false
      else
        bif decide ((List.getD t18 (Int.toNat t20) (0 : Int)) ≥ t0) then
          x0 false
        else
          bif ((decide ((0 : Int) ≤ (List.getD t18 (Int.toNat t20) (0 : Int)))) && (decide ((List.getD t18 (Int.toNat t20) (0 : Int)) < ((t5 : Nat) : Int)))) then
            bif decide ((Int.toNat (List.getD t18 (Int.toNat t20) (0 : Int))) < (List.length b11)) then
              bif decide ((List.getD b11 (Int.toNat (List.getD t18 (Int.toNat t20) (0 : Int))) (0 : Int)) > (0 : Int)) then
              x0 false
            else
              bif ((decide ((0 : Int) ≤ (List.getD t18 (Int.toNat t20) (0 : Int)))) && (decide ((List.getD t18 (Int.toNat t20) (0 : Int)) < ((t5 : Nat) : Int)))) then
              bif decide ((Int.toNat (List.getD t18 (Int.toNat t20) (0 : Int))) < (List.length b11)) then
              bif ((decide ((0 : Int) ≤ (List.getD t18 (Int.toNat t20) (0 : Int)))) && (decide ((List.getD t18 (Int.toNat t20) (0 : Int)) < ((t5 : Nat) : Int)))) then
              bif decide ((Int.toNat (List.getD t18 (Int.toNat t20) (0 : Int))) < (List.length b11)) then
              W8_6 N x0 x3 n t0 t5 (List.set b11 (Int.toNat (List.getD t18 (Int.toNat t20) (0 : Int))) (Go.IntKind.wrap .i64 ((List.getD b11 (Int.toNat (List.getD t18 (Int.toNat t20) (0 : Int))) (0 : Int)) + (1 : Int)))) t12 t13 t14 t18 t19 (Go.IntKind.wrap .i64 (t20 + (1 : Int)))
            else
              none
            else
              none
            else
              none
            else
              none
            else
              none
          else
            none
    else
      none
  else
    x3 t0 t5 b11 t12 t13 t14
def W8_3 {β : Type} (N : Nat) (x0 : Bool → Option β) (x1 : Unit → Option β) : Nat → Int → Nat → (List Int) → (List (List Int)) → Int → Int → Option β
  | 0, _, _, _, _, _, _ => none
  | n + 1, t0, t5, b11, t12, t13, t14 =>
  bif decide (t14 < t13) then
    bif ((decide ((0 : Int) ≤ t14)) && (decide (t14 < (((List.length t12) : Nat) : Int)))) then
      W8_6 N
        (fun t4 =>
          x0 t4)
        (fun t0 t5 b11 t12 t13 t14 =>
          W8_3 N x0 x1 n t0 t5 b11 t12 t13 (Go.IntKind.wrap .i64 (t14 + (1 : Int))))
        N t0 t5 b11 t12 t13 t14 (List.getD t12 (Int.toNat t14) []) (((List.length (List.getD t12 (Int.toNat t14) [])) : Nat) : Int) (0 : Int)
    else
      none
  else
    x1 ()
def L8 (N : Nat) : Loops (Bool × Unit) := fun k ρ K => match Nat.beq k 6 with
  | true => (match adH ρ H8_6.hd with
    | some v => W8_6 N (fun t4 => K .ret (encH [(8, .bo)] (t4, ()))) (fun t0 t5 b11 t12 t13 t14 => K (.exit 2) (encH [(0, (.i .i64)), (10, (.os 11)), (23, (.ar (.int .i64))), (24, (.sl (.sl (.int .i64)) .no)), (26, (.i .i64)), (28, (.i .i64))] (t0, (t5, (b11, (t12, (t13, (t14, ())))))))) N v.1 v.2.1 v.2.2.1 v.2.2.2.1 v.2.2.2.2.1 v.2.2.2.2.2.1 v.2.2.2.2.2.2.1 v.2.2.2.2.2.2.2.1 v.2.2.2.2.2.2.2.2.1
    | none => none)
  | false => match Nat.beq k 3 with
  | true => (match adH ρ H8_3.hd with
    | some v => W8_3 N (fun t4 => K .ret (encH [(8, .bo)] (t4, ()))) (fun _ => K (.exit 0) (encH [] ())) N v.1 v.2.1 v.2.2.1 v.2.2.2.1 v.2.2.2.2.1 v.2.2.2.2.2.1
    | none => none)
  | false => none
def F8 (N : Nat) (p0 : Int) (p1 : List (List Int)) : Option (Bool × Unit) :=
  bif ((decide ((0 : Int) ≤ p0)) && ((decide ((p0 * ((8 : Nat) : Int)) ≤ (140737488351232 : Int))) && (p0 == p0))) then
    W8_3 N
      (fun t4 =>
        some (t4, ()))
      (fun (_ : Unit) =>
        some (true, ()))
      N p0 (Int.toNat p0) (List.replicate (Int.toNat p0) (0 : Int)) p1 (((List.length p1) : Nat) : Int) (0 : Int)
  else
    none
theorem loops8 (N : Nat) : loopsOk C8 (L8 N) Go.Proofs.Try.f8 := ⟨trivial, ⟨trivial, ⟨⟨trivial, ⟨loopOk_of H8_3 N (fun K n v => W8_3 N (fun t4 => K .ret (encH [(8, .bo)] (t4, ()))) (fun _ => K (.exit 0) (encH [] ())) n v.1 v.2.1 v.2.2.1 v.2.2.2.1 v.2.2.2.2.1 v.2.2.2.2.2.1) (by kernel_rfl) (fun K v => by kernel_rfl) (fun K v => by kernel_rfl) (fun K n v => by kernel_rfl), ⟨trivial, ⟨⟨trivial, trivial⟩, ⟨⟨trivial, ⟨trivial, ⟨loopOk_of H8_6 N (fun K n v => W8_6 N (fun t4 => K .ret (encH [(8, .bo)] (t4, ()))) (fun t0 t5 b11 t12 t13 t14 => K (.exit 2) (encH [(0, (.i .i64)), (10, (.os 11)), (23, (.ar (.int .i64))), (24, (.sl (.sl (.int .i64)) .no)), (26, (.i .i64)), (28, (.i .i64))] (t0, (t5, (b11, (t12, (t13, (t14, ())))))))) n v.1 v.2.1 v.2.2.1 v.2.2.2.1 v.2.2.2.2.1 v.2.2.2.2.2.1 v.2.2.2.2.2.2.1 v.2.2.2.2.2.2.2.1 v.2.2.2.2.2.2.2.2.1) (by kernel_rfl) (fun K v => by kernel_rfl) (fun K v => by kernel_rfl) (fun K n v => by kernel_rfl), ⟨trivial, ⟨⟨trivial, trivial⟩, ⟨⟨trivial, ⟨⟨trivial, ⟨⟨trivial, trivial⟩, trivial⟩⟩, trivial⟩⟩, trivial⟩⟩⟩⟩⟩⟩, trivial⟩⟩⟩⟩⟩, ⟨trivial, trivial⟩⟩⟩⟩
theorem runs8 (N : Nat) (x : S8.ta.den) : run C8 S8 (L8 N) Go.Proofs.Try.f8 x = F8 N x.1 x.2.1 := by kernel_rfl

/-! ### 5: incognito/merge.All -/
def W5_8 {β : Type} (N : Nat) (x3 : (List ((Int × Int × ByteArray × Unit) × Int × (Int × Int × ByteArray × Unit) × Int × (List (Int × Int × ByteArray × Unit)) × (List (Int × Int × ByteArray × Unit)) × Int × Int × Unit)) → Nat → (List Int) → Int → Bool → (List (List Int)) → Option β) : Nat → (List ((Int × Int × ByteArray × Unit) × Int × (Int × Int × ByteArray × Unit) × Int × (List (Int × Int × ByteArray × Unit)) × (List (Int × Int × ByteArray × Unit)) × Int × Int × Unit)) → Nat → (List Int) → Int → Bool → (List (List Int)) → Nat → Int → Int → Option β
  | 0, _, _, _, _, _, _, _, _, _ => none
  | n + 1, b2a, b6a, t8, t9, t10, b19, t21, t22, t23 =>
  bif decide (t23 < t22) then
    bif ((decide ((0 : Int) ≤ t23)) && (decide (t23 < ((t21 : Nat) : Int)))) then
      bif decide ((Int.toNat t23) < (List.length b19)) then
        bif ((((List.length (List.getD b19 (Int.toNat t23) [])) : Nat) : Int) == (0 : Int)) then
          W5_8 N x3 n b2a b6a t8 t9 t10 b19 t21 t22 (Go.IntKind.wrap .i64 (t23 + (1 : Int)))
        else
          bif ((decide ((0 : Int) ≤ (0 : Int))) && (decide ((0 : Int) < (((List.length (List.getD b19 (Int.toNat t23) [])) : Nat) : Int)))) then
            bif (Go.Inc.okFree (List.getD (List.getD b19 (Int.toNat t23) []) (Int.toNat (0 : Int)) (0 : Int)) b6a b2a b19) then
              bif (Go.Inc.freeGo (List.getD (List.getD b19 (Int.toNat t23) []) (Int.toNat (0 : Int)) (0 : Int)) b6a b2a b19) then
              bif decide (t9 < (0 : Int)) then
              W5_8 N x3 n b2a b6a t8 t23 true b19 t21 t22 (Go.IntKind.wrap .i64 (t23 + (1 : Int)))
            else
              bif ((decide ((0 : Int) ≤ (0 : Int))) && (decide ((0 : Int) < (((List.length (List.getD b19 (Int.toNat t23) [])) : Nat) : Int)))) then
              bif ((decide ((0 : Int) ≤ (List.getD (List.getD b19 (Int.toNat t23) []) (Int.toNat (0 : Int)) (0 : Int)))) && (decide ((List.getD (List.getD b19 (Int.toNat t23) []) (Int.toNat (0 : Int)) (0 : Int)) < (((List.length b2a) : Nat) : Int)))) then
              bif ((decide ((0 : Int) ≤ t9)) && (decide (t9 < ((b6a : Nat) : Int)))) then
              bif decide ((Int.toNat t9) < (List.length b19)) then
              bif ((decide ((0 : Int) ≤ (0 : Int))) && (decide ((0 : Int) < (((List.length (List.getD b19 (Int.toNat t9) [])) : Nat) : Int)))) then
              bif ((decide ((0 : Int) ≤ (List.getD (List.getD b19 (Int.toNat t9) []) (Int.toNat (0 : Int)) (0 : Int)))) && (decide ((List.getD (List.getD b19 (Int.toNat t9) []) (Int.toNat (0 : Int)) (0 : Int)) < (((List.length b2a) : Nat) : Int)))) then
              bif decide (((((((((List.getD b2a (Int.toNat (List.getD (List.getD b19 (Int.toNat t23) []) (Int.toNat (0 : Int)) (0 : Int))) (((0 : Int), ((0 : Int), (ByteArray.empty, ()))), ((0 : Int), (((0 : Int), ((0 : Int), (ByteArray.empty, ()))), ((0 : Int), ([], ([], ((0 : Int), ((0 : Int), ()))))))))).2).2).2).2).2).2).1) < ((((((((List.getD b2a (Int.toNat (List.getD (List.getD b19 (Int.toNat t9) []) (Int.toNat (0 : Int)) (0 : Int))) (((0 : Int), ((0 : Int), (ByteArray.empty, ()))), ((0 : Int), (((0 : Int), ((0 : Int), (ByteArray.empty, ()))), ((0 : Int), ([], ([], ((0 : Int), ((0 : Int), ()))))))))).2).2).2).2).2).2).1)) then
              W5_8 N x3 n b2a b6a t8 t23 true b19 t21 t22 (Go.IntKind.wrap .i64 (t23 + (1 : Int)))
            else
              W5_8 N x3 n b2a b6a t8 t9 true b19 t21 t22 (Go.IntKind.wrap .i64 (t23 + (1 : Int)))
            else
              none
            else
              none
            else
              none
            else
              none
            else
              none
            else
              none
            else
              W5_8 N x3 n b2a b6a t8 t9 true b19 t21 t22 (Go.IntKind.wrap .i64 (t23 + (1 : Int)))
            else
              none
          else
            none
      else
        none
    else
      none
  else
    x3 b2a b6a t8 t9 t10 b19
def W5_6 {β : Type} (N : Nat) (x0 : (List Int) → Bool → Option β) : Nat → (List ((Int × Int × ByteArray × Unit) × Int × (Int × Int × ByteArray × Unit) × Int × (List (Int × Int × ByteArray × Unit)) × (List (Int × Int × ByteArray × Unit)) × Int × Int × Unit)) → Nat → (List Int) → (List (List Int)) → Option β
  | 0, _, _, _, _ => none
  | n + 1, b2a, b6a, t8, b19 =>
  W5_8 N
    (fun b2a b6a t8 t9 t10 b19 =>
      bif (!t10) then
        x0 t8 true
      else
        bif decide (t9 < (0 : Int)) then
          x0 ([] : List Int) false
        else
          bif ((decide ((0 : Int) ≤ t9)) && (decide (t9 < ((b6a : Nat) : Int)))) then
            bif decide ((Int.toNat t9) < (List.length b19)) then
              bif ((decide ((0 : Int) ≤ (0 : Int))) && (decide ((0 : Int) < (((List.length (List.getD b19 (Int.toNat t9) [])) : Nat) : Int)))) then
              bif decide ((((List.length t8) + (List.length ((List.getD (List.getD b19 (Int.toNat t9) []) (Int.toNat (0 : Int)) (0 : Int)) :: ([] : List Int)))) * 8) ≤ 140737488351232) then
              bif ((decide ((0 : Int) ≤ t9)) && (decide (t9 < ((b6a : Nat) : Int)))) then
              bif decide ((Int.toNat t9) < (List.length b19)) then
              bif ((decide ((0 : Int) ≤ (1 : Int))) && ((decide ((1 : Int) ≤ (((List.length (List.getD b19 (Int.toNat t9) [])) : Nat) : Int))) && (decide ((((List.length (List.getD b19 (Int.toNat t9) [])) : Nat) : Int) ≤ (((List.length (List.getD b19 (Int.toNat t9) [])) : Nat) : Int))))) then
              bif ((decide ((0 : Int) ≤ t9)) && (decide (t9 < ((b6a : Nat) : Int)))) then
              bif decide ((Int.toNat t9) < (List.length b19)) then
              W5_6 N x0 n b2a b6a (t8 ++ ((List.getD (List.getD b19 (Int.toNat t9) []) (Int.toNat (0 : Int)) (0 : Int)) :: ([] : List Int))) (List.set b19 (Int.toNat t9) (Go.Abs.sub (List.getD b19 (Int.toNat t9) []) (1 : Int) (((List.length (List.getD b19 (Int.toNat t9) [])) : Nat) : Int)))
            else
              none
            else
              none
            else
              none
            else
              none
            else
              none
            else
              none
            else
              none
            else
              none
          else
            none)
    N b2a b6a t8 (-(1 : Int)) false b19 b6a ((b6a : Nat) : Int) (0 : Int)
def L5 (N : Nat) : Loops ((List Int) × Bool × Unit) := fun k ρ K => match Nat.beq k 8 with
  | true => (match adH ρ H5_8.hd with
    | some v => W5_8 N (fun b2a b6a t8 t9 t10 b19 => K (.exit 2) (encH [(4, (.bx 2 0)), (5, (.pr (.sl (.pr (.pr (.int .i64) (.pr (.int .i64) (.pr .str .un))) (.pr (.int .i64) (.pr (.pr (.int .i64) (.pr (.int .i64) (.pr .str .un))) (.pr (.int .i64) (.pr (.sl (.pr (.int .i64) (.pr (.int .i64) (.pr .str .un)))) (.pr (.sl (.pr (.int .i64) (.pr (.int .i64) (.pr .str .un)))) (.pr (.int .i64) (.pr (.int .i64) .un)))))))) .no) .un)), (12, (.bx 6 0)), (13, (.pr (.os 19) .un)), (14, (.cl 10 .un (.pr (.bx 6 0) (.pr (.bx 2 0) .un)))), (16, (.sl (.int .i64) (.own 77))), (18, (.i .i64)), (20, .bo), (39, (.ar (.sl (.int .i64))))] ((), ((b2a, ()), ((), ((b6a, ()), (((), ((), ((), ()))), (t8, (t9, (t10, (b19, ()))))))))))) N v.2.1.1 v.2.2.2.1.1 v.2.2.2.2.2.1 v.2.2.2.2.2.2.1 v.2.2.2.2.2.2.2.1 v.2.2.2.2.2.2.2.2.1 v.2.2.2.2.2.2.2.2.2.1 v.2.2.2.2.2.2.2.2.2.2.1 v.2.2.2.2.2.2.2.2.2.2.2.1
    | none => none)
  | false => match Nat.beq k 6 with
  | true => (match adH ρ H5_6.hd with
    | some v => W5_6 N (fun t4 t5 => K .ret (encH [(8, (.sl (.int .i64) (.own 77))), (10, .bo)] (t4, (t5, ())))) N v.2.1.1 v.2.2.2.1.1 v.2.2.2.2.2.1 v.2.2.2.2.2.2.1
    | none => none)
  | false => none
def F5 (N : Nat) (p0 : List ((Int × Int × ByteArray × Unit) × Int × (Int × Int × ByteArray × Unit) × Int × (List (Int × Int × ByteArray × Unit)) × (List (Int × Int × ByteArray × Unit)) × Int × Int × Unit)) (p1 : List (List Int)) : Option ((List Int) × Bool × Unit) :=
  bif (Go.Inc.okApart (((List.length p0) : Nat) : Int) p1) then
    bif (!(Go.Inc.apartGo (((List.length p0) : Nat) : Int) p1)) then
      some (([] : List Int), (false, ()))
    else
      bif decide (((List.length p1) * 24) ≤ 140737488351232) then
        W5_6 N
          (fun t4 t5 =>
            some (t4, (t5, ())))
          N p0 (List.length p1) ([] : List Int) p1
      else
        none
  else
    none
theorem loops5 (N : Nat) : loopsOk C5 (L5 N) Go.Proofs.Try.f5 := ⟨trivial, ⟨⟨trivial, ⟨⟨trivial, trivial⟩, trivial⟩⟩, ⟨trivial, ⟨trivial, ⟨trivial, ⟨loopOk_of H5_6 N (fun K n v => W5_6 N (fun t4 t5 => K .ret (encH [(8, (.sl (.int .i64) (.own 77))), (10, .bo)] (t4, (t5, ())))) n v.2.1.1 v.2.2.2.1.1 v.2.2.2.2.2.1 v.2.2.2.2.2.2.1) (by kernel_rfl) (fun K v => by kernel_rfl) (fun K v => by kernel_rfl) (fun K n v => by kernel_rfl), ⟨trivial, ⟨⟨trivial, ⟨loopOk_of H5_8 N (fun K n v => W5_8 N (fun b2a b6a t8 t9 t10 b19 => K (.exit 2) (encH [(4, (.bx 2 0)), (5, (.pr (.sl (.pr (.pr (.int .i64) (.pr (.int .i64) (.pr .str .un))) (.pr (.int .i64) (.pr (.pr (.int .i64) (.pr (.int .i64) (.pr .str .un))) (.pr (.int .i64) (.pr (.sl (.pr (.int .i64) (.pr (.int .i64) (.pr .str .un)))) (.pr (.sl (.pr (.int .i64) (.pr (.int .i64) (.pr .str .un)))) (.pr (.int .i64) (.pr (.int .i64) .un)))))))) .no) .un)), (12, (.bx 6 0)), (13, (.pr (.os 19) .un)), (14, (.cl 10 .un (.pr (.bx 6 0) (.pr (.bx 2 0) .un)))), (16, (.sl (.int .i64) (.own 77))), (18, (.i .i64)), (20, .bo), (39, (.ar (.sl (.int .i64))))] ((), ((b2a, ()), ((), ((b6a, ()), (((), ((), ((), ()))), (t8, (t9, (t10, (b19, ()))))))))))) n v.2.1.1 v.2.2.2.1.1 v.2.2.2.2.2.1 v.2.2.2.2.2.2.1 v.2.2.2.2.2.2.2.1 v.2.2.2.2.2.2.2.2.1 v.2.2.2.2.2.2.2.2.2.1 v.2.2.2.2.2.2.2.2.2.2.1 v.2.2.2.2.2.2.2.2.2.2.2.1) (by kernel_rfl) (fun K v => by kernel_rfl) (fun K v => by kernel_rfl) (fun K n v => by kernel_rfl), ⟨trivial, ⟨⟨trivial, trivial⟩, ⟨⟨trivial, ⟨⟨trivial, ⟨trivial, trivial⟩⟩, ⟨trivial, ⟨trivial, ⟨trivial, trivial⟩⟩⟩⟩⟩, trivial⟩⟩⟩⟩⟩, ⟨⟨trivial, ⟨⟨trivial, trivial⟩, ⟨trivial, ⟨⟨trivial, trivial⟩, trivial⟩⟩⟩⟩, ⟨trivial, trivial⟩⟩⟩⟩⟩⟩⟩⟩⟩⟩
theorem runs5 (N : Nat) (x : S5.ta.den) : run C5 S5 (L5 N) Go.Proofs.Try.f5 x = F5 N x.1 x.2.1 := by kernel_rfl

/-! ### 4: incognito/incognitolaw23.wakes -/
def L4 (_ : Nat) : Loops (Bool × Unit) := fun _ _ _ => none
def F4 (N : Nat) : Option (Bool × Unit) :=
  some ((Go.Inc.eqL ((Go.Inc.mergeAll ((((0 : Int), ((0 : Int), (ByteArray.empty, ()))), ((0 : Int), (((0 : Int), ((0 : Int), (ByteArray.empty, ()))), ((0 : Int), (([] : List (Int × (Int × (ByteArray × Unit)))), (([] : List (Int × (Int × (ByteArray × Unit)))), ((2 : Int), ((3 : Int), ())))))))) :: ((((0 : Int), ((0 : Int), (ByteArray.empty, ()))), ((0 : Int), (((0 : Int), ((0 : Int), (ByteArray.empty, ()))), ((0 : Int), (([] : List (Int × (Int × (ByteArray × Unit)))), (([] : List (Int × (Int × (ByteArray × Unit)))), ((0 : Int), ((1 : Int), ())))))))) :: ([] : List ((Int × (Int × (ByteArray × Unit))) × (Int × ((Int × (Int × (ByteArray × Unit))) × (Int × ((List (Int × (Int × (ByteArray × Unit)))) × ((List (Int × (Int × (ByteArray × Unit)))) × (Int × (Int × Unit))))))))))) (((0 : Int) :: ([] : List Int)) :: (((1 : Int) :: ([] : List Int)) :: ([] : List (List Int))))).1) ((1 : Int) :: ((0 : Int) :: ([] : List Int)))), ())
theorem loops4 (N : Nat) : loopsOk C4 (L4 N) Go.Proofs.Try.f4 := ⟨trivial, ⟨trivial, ⟨trivial, ⟨trivial, trivial⟩⟩⟩⟩
theorem runs4 (N : Nat) (x : S4.ta.den) : run C4 S4 (L4 N) Go.Proofs.Try.f4 x = F4 N := by kernel_rfl

/-! ### 6: incognito/incognitoref20.Ahead -/
def L6 (_ : Nat) : Loops (Bool × Unit) := fun _ _ _ => none
def F6 (N : Nat) (p0 : (Int × Int × ByteArray × Unit) × Int × (Int × Int × ByteArray × Unit) × Int × (List (Int × Int × ByteArray × Unit)) × (List (Int × Int × ByteArray × Unit)) × Int × Int × Unit) (p1 : (Int × Int × ByteArray × Unit) × Int × (Int × Int × ByteArray × Unit) × Int × (List (Int × Int × ByteArray × Unit)) × (List (Int × Int × ByteArray × Unit)) × Int × Int × Unit) : Option (Bool × Unit) :=
  bif decide (p0.2.2.2.2.2.2.2.1 ≥ (0 : Int)) then
    some (decide (p0.2.2.2.2.2.2.2.1 < p1.2.2.2.2.2.2.1), ())
  else
    some (false, ())
theorem loops6 (N : Nat) : loopsOk C6 (L6 N) Go.Proofs.Try.f6 := ⟨trivial, ⟨trivial, trivial⟩⟩
theorem runs6 (N : Nat) (x : S6.ta.den) : run C6 S6 (L6 N) Go.Proofs.Try.f6 x = F6 N x.1 x.2.1 := by kernel_rfl


end Go.L23a
