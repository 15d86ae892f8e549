/- The walks of package merge and its statement. Printed by a program of this session. -/
import Derived.Test.YtklcmhpgjcghkaaW0
set_option linter.unusedVariables false
set_option maxRecDepth 100000
namespace Go.L23a
open Go Go.Abs Go.Inc

/-! ### 13: incognito/order.Ahead -/
def L13 (_ : Nat) : Loops (Bool × Unit) := fun _ _ _ => none
def F13 (N : Nat) (p0 : (Int × Int × ByteArray × Unit) × Int × (Int × Int × ByteArray × Unit) × Int × (List (Int × Int × ByteArray × Unit)) × (List (Int × Int × ByteArray × Unit)) × Int × Int × Unit) (p1 : (Int × Int × ByteArray × Unit) × Int × (Int × Int × ByteArray × Unit) × Int × (List (Int × Int × ByteArray × Unit)) × (List (Int × Int × ByteArray × Unit)) × Int × Int × Unit) : Option (Bool × Unit) :=
  bif decide (p0.2.2.2.2.2.2.2.1 ≥ (0 : Int)) then
    some (decide (p0.2.2.2.2.2.2.2.1 < p1.2.2.2.2.2.2.1), ())
  else
    some (false, ())
theorem loops13 (N : Nat) : loopsOk C13 (L13 N) Go.Proofs.Try.f13 := ⟨trivial, ⟨trivial, trivial⟩⟩
theorem runs13 (N : Nat) (x : S13.ta.den) : run C13 S13 (L13 N) Go.Proofs.Try.f13 x = F13 N x.1 x.2.1 := by kernel_rfl

/-! ### 14: slices.IndexFunc[[]int,int] -/
def W14_2 {β : Type} (N : Nat) (x0 : Int → (List ((Int × Int × ByteArray × Unit) × Int × (Int × Int × ByteArray × Unit) × Int × (List (Int × Int × ByteArray × Unit)) × (List (Int × Int × ByteArray × Unit)) × Int × Int × Unit)) → Int → Option β) (x1 : (List ((Int × Int × ByteArray × Unit) × Int × (Int × Int × ByteArray × Unit) × Int × (List (Int × Int × ByteArray × Unit)) × (List (Int × Int × ByteArray × Unit)) × Int × Int × Unit)) → Int → Option β) : Nat → (List Int) → Int → Int → (List ((Int × Int × ByteArray × Unit) × Int × (Int × Int × ByteArray × Unit) × Int × (List (Int × Int × ByteArray × Unit)) × (List (Int × Int × ByteArray × Unit)) × Int × Int × Unit)) → Int → Option β
  | 0, _, _, _, _, _ => none
  | n + 1, t0, t7, t8, b1000a, b1001a =>
  bif decide (t8 < t7) then
    bif ((decide ((0 : Int) ≤ t8)) && (decide (t8 < (((List.length t0) : Nat) : Int)))) then
      bif (Go.Inc.okAt (List.getD t0 (Int.toNat t8) (0 : Int)) b1000a b1001a) then
        bif (Go.Inc.aheadAt (List.getD t0 (Int.toNat t8) (0 : Int)) b1000a b1001a) then
          x0 t8 b1000a b1001a
        else
          W14_2 N x0 x1 n t0 t7 (Go.IntKind.wrap .i64 (t8 + (1 : Int))) b1000a b1001a
      else
        none
    else
      none
  else
    x1 b1000a b1001a
def L14 (N : Nat) : Loops (HS.den X14.hout) := fun k ρ K => match Nat.beq k 2 with
  | true => (match adH ρ H14_2.hd with
    | some v => W14_2 N (fun t4 b1000a b1001a => K .ret (encH [(8, (.i .i64)), (2001, (.pr (.sl (.pr (.pr (.int .i64) (.pr (.int .i64) (.pr .str .un))) (.pr (.int .i64) (.pr (.pr (.int .i64) (.pr (.int .i64) (.pr .str .un))) (.pr (.int .i64) (.pr (.sl (.pr (.int .i64) (.pr (.int .i64) (.pr .str .un)))) (.pr (.sl (.pr (.int .i64) (.pr (.int .i64) (.pr .str .un)))) (.pr (.int .i64) (.pr (.int .i64) .un)))))))) .no) .un)), (2003, (.pr (.i .i64) .un))] (t4, ((b1000a, ()), ((b1001a, ()), ()))))) (fun b1000a b1001a => K (.exit 0) (encH [(2001, (.pr (.sl (.pr (.pr (.int .i64) (.pr (.int .i64) (.pr .str .un))) (.pr (.int .i64) (.pr (.pr (.int .i64) (.pr (.int .i64) (.pr .str .un))) (.pr (.int .i64) (.pr (.sl (.pr (.int .i64) (.pr (.int .i64) (.pr .str .un)))) (.pr (.sl (.pr (.int .i64) (.pr (.int .i64) (.pr .str .un)))) (.pr (.int .i64) (.pr (.int .i64) .un)))))))) .no) .un)), (2003, (.pr (.i .i64) .un))] ((b1000a, ()), ((b1001a, ()), ())))) N v.1 v.2.2.1 v.2.2.2.1 v.2.2.2.2.1.1 v.2.2.2.2.2.1.1
    | none => none)
  | false => none
def F14 (N : Nat) (t0 : List Int) (b1000a : List ((Int × Int × ByteArray × Unit) × Int × (Int × Int × ByteArray × Unit) × Int × (List (Int × Int × ByteArray × Unit)) × (List (Int × Int × ByteArray × Unit)) × Int × Int × Unit)) (b1001a : Int) : Option (HS.den X14.hout) :=
  W14_2 N
    (fun t4 b1000a b1001a =>
      some (t4, ((b1000a, ()), ((b1001a, ()), ()))))
    (fun b1000a b1001a =>
      some ((-(1 : Int)), ((b1000a, ()), ((b1001a, ()), ()))))
    N t0 (((List.length t0) : Nat) : Int) (0 : Int) b1000a b1001a
theorem loops14 (N : Nat) : loopsOk C14 (L14 N) Go.Proofs.Try.f14 := ⟨trivial, ⟨⟨trivial, ⟨loopOk_of H14_2 N (fun K n v => W14_2 N (fun t4 b1000a b1001a => K .ret (encH [(8, (.i .i64)), (2001, (.pr (.sl (.pr (.pr (.int .i64) (.pr (.int .i64) (.pr .str .un))) (.pr (.int .i64) (.pr (.pr (.int .i64) (.pr (.int .i64) (.pr .str .un))) (.pr (.int .i64) (.pr (.sl (.pr (.int .i64) (.pr (.int .i64) (.pr .str .un)))) (.pr (.sl (.pr (.int .i64) (.pr (.int .i64) (.pr .str .un)))) (.pr (.int .i64) (.pr (.int .i64) .un)))))))) .no) .un)), (2003, (.pr (.i .i64) .un))] (t4, ((b1000a, ()), ((b1001a, ()), ()))))) (fun b1000a b1001a => K (.exit 0) (encH [(2001, (.pr (.sl (.pr (.pr (.int .i64) (.pr (.int .i64) (.pr .str .un))) (.pr (.int .i64) (.pr (.pr (.int .i64) (.pr (.int .i64) (.pr .str .un))) (.pr (.int .i64) (.pr (.sl (.pr (.int .i64) (.pr (.int .i64) (.pr .str .un)))) (.pr (.sl (.pr (.int .i64) (.pr (.int .i64) (.pr .str .un)))) (.pr (.int .i64) (.pr (.int .i64) .un)))))))) .no) .un)), (2003, (.pr (.i .i64) .un))] ((b1000a, ()), ((b1001a, ()), ())))) n v.1 v.2.2.1 v.2.2.2.1 v.2.2.2.2.1.1 v.2.2.2.2.2.1.1) (by kernel_rfl) (fun K v => by kernel_rfl) (fun K v => by kernel_rfl) (fun K n v => by kernel_rfl), ⟨trivial, ⟨⟨trivial, trivial⟩, ⟨⟨trivial, ⟨trivial, ⟨⟨trivial, trivial⟩, trivial⟩⟩⟩, trivial⟩⟩⟩⟩⟩, ⟨trivial, trivial⟩⟩⟩
theorem runs14 (N : Nat) (x : HS.den X14.hin) : runX C14 X14 (L14 N) Go.Proofs.Try.f14 x = F14 N x.1 x.2.2.1.1 x.2.2.2.1.1 := by kernel_rfl

/-! ### 11: slices.ContainsFunc[[]int,int] -/
def L11 (_ : Nat) : Loops (HS.den X11.hout) := fun _ _ _ => none
def F11 (N : Nat) (t0 : List Int) (b1000a : List ((Int × Int × ByteArray × Unit) × Int × (Int × Int × ByteArray × Unit) × Int × (List (Int × Int × ByteArray × Unit)) × (List (Int × Int × ByteArray × Unit)) × Int × Int × Unit)) (b1001a : Int) : Option (HS.den X11.hout) :=
  bif (Go.Inc.okIdx t0 b1000a b1001a) then
    some (decide ((Go.Inc.idxA t0 b1000a b1001a) ≥ (0 : Int)), ((b1000a, ()), ((b1001a, ()), ())))
  else
    none
theorem loops11 (N : Nat) : loopsOk C11 (L11 N) Go.Proofs.Try.f11 := ⟨trivial, ⟨trivial, trivial⟩⟩
theorem runs11 (N : Nat) (x : HS.den X11.hin) : runX C11 X11 (L11 N) Go.Proofs.Try.f11 x = F11 N x.1 x.2.2.1.1 x.2.2.2.1.1 := by kernel_rfl

/-! ### 7: incognito/incognitoref09.Same -/
def W7_4 {β : Type} (N : Nat) (x0 : Bool → Option β) (x1 : Unit → Option β) : Nat → (List Int) → (List Int) → Int → Option β
  | 0, _, _, _ => none
  | n + 1, t0, t1, t5 =>
  bif decide (t5 < (((List.length t0) : Nat) : Int)) then
    bif ((decide ((0 : Int) ≤ t5)) && (decide (t5 < (((List.length t0) : Nat) : Int)))) then
      bif ((decide ((0 : Int) ≤ t5)) && (decide (t5 < (((List.length t1) : Nat) : Int)))) then
        bif ((List.getD t0 (Int.toNat t5) (0 : Int)) != (List.getD t1 (Int.toNat t5) (0 : Int))) then
          x0 false
        else
          W7_4 N x0 x1 n t0 t1 (Go.IntKind.wrap .i64 (t5 + (1 : Int)))
      else
        none
    else
      none
  else
    x1 ()
def L7 (N : Nat) : Loops (Bool × Unit) := fun k ρ K => match Nat.beq k 4 with
  | true => (match adH ρ H7_4.hd with
    | some v => W7_4 N (fun t4 => K .ret (encH [(8, .bo)] (t4, ()))) (fun _ => K (.exit 0) (encH [] ())) N v.1 v.2.1 v.2.2.1
    | none => none)
  | false => none
def F7 (N : Nat) (p0 : List Int) (p1 : List Int) : Option (Bool × Unit) :=
  bif ((((List.length p0) : Nat) : Int) != (((List.length p1) : Nat) : Int)) then
    some (false, ())
  else
    W7_4 N
      (fun t4 =>
        some (t4, ()))
      (fun (_ : Unit) =>
        some (true, ()))
      N p0 p1 (0 : Int)
theorem loops7 (N : Nat) : loopsOk C7 (L7 N) Go.Proofs.Try.f7 := ⟨trivial, ⟨⟨trivial, ⟨⟨trivial, trivial⟩, trivial⟩⟩, ⟨⟨trivial, ⟨loopOk_of H7_4 N (fun K n v => W7_4 N (fun t4 => K .ret (encH [(8, .bo)] (t4, ()))) (fun _ => K (.exit 0) (encH [] ())) n v.1 v.2.1 v.2.2.1) (by kernel_rfl) (fun K v => by kernel_rfl) (fun K v => by kernel_rfl) (fun K n v => by kernel_rfl), ⟨⟨trivial, ⟨trivial, trivial⟩⟩, ⟨⟨trivial, ⟨⟨trivial, trivial⟩, trivial⟩⟩, trivial⟩⟩⟩⟩, ⟨trivial, trivial⟩⟩⟩⟩
theorem runs7 (N : Nat) (x : S7.ta.den) : run C7 S7 (L7 N) Go.Proofs.Try.f7 x = F7 N x.1 x.2.1 := by kernel_rfl

/-! ### 3: incognito/incognitolaw23.MergeKeeps -/
def W3_7 {β : Type} (N : Nat) (x0 : Bool → Option β) (x1 : (List ((Int × Int × ByteArray × Unit) × Int × (Int × Int × ByteArray × Unit) × Int × (List (Int × Int × ByteArray × Unit)) × (List (Int × Int × ByteArray × Unit)) × Int × Int × Unit)) → (List (List Int)) → Int → Option β) : Nat → (List ((Int × Int × ByteArray × Unit) × Int × (Int × Int × ByteArray × Unit) × Int × (List (Int × Int × ByteArray × Unit)) × (List (Int × Int × ByteArray × Unit)) × Int × Int × Unit)) → (List (List Int)) → Int → (List (List Int)) → Int → Int → Option β
  | 0, _, _, _, _, _, _ => none
  | n + 1, t0, t1, t5, t27, t28, t29 =>
  bif decide (t29 < t28) then
    bif ((decide ((0 : Int) ≤ t29)) && (decide (t29 < (((List.length t27) : Nat) : Int)))) then
      bif decide ((((List.length (List.getD t27 (Int.toNat t29) [])) : Nat) : Int) > (60 : Int)) then
        x0 true
      else
        W3_7 N x0 x1 n t0 t1 (Go.IntKind.wrap .i64 (t5 + (((List.length (List.getD t27 (Int.toNat t29) [])) : Nat) : Int))) t27 t28 (Go.IntKind.wrap .i64 (t29 + (1 : Int)))
    else
      none
  else
    x1 t0 t1 t5
def W3_21 {β : Type} (N : Nat) (x5 : (List ((Int × Int × ByteArray × Unit) × Int × (Int × Int × ByteArray × Unit) × Int × (List (Int × Int × ByteArray × Unit)) × (List (Int × Int × ByteArray × Unit)) × Int × Int × Unit)) → Int → (List Int) → (List Int) → Int → (List (List Int)) → Int → Int → Option β) : Nat → (List ((Int × Int × ByteArray × Unit) × Int × (Int × Int × ByteArray × Unit) × Int × (List (Int × Int × ByteArray × Unit)) × (List (Int × Int × ByteArray × Unit)) × Int × Int × Unit)) → Int → (List Int) → (List Int) → Int → (List (List Int)) → Int → Int → (List Int) → Int → Int → Option β
  | 0, _, _, _, _, _, _, _, _, _, _, _ => none
  | n + 1, t0, t5, t8, t11, t12, t52, t53, t54, t58, t59, t60 =>
  bif decide (t60 < t59) then
    bif ((decide ((0 : Int) ≤ t60)) && (decide (t60 < (((List.length t58) : Nat) : Int)))) then
      bif decide (t12 < (((List.length t11) : Nat) : Int)) then
        bif ((decide ((0 : Int) ≤ t12)) && (decide (t12 < (((List.length t11) : Nat) : Int)))) then
          bif ((List.getD t11 (Int.toNat t12) (0 : Int)) == (List.getD t58 (Int.toNat t60) (0 : Int))) then
            W3_21 N x5 n t0 t5 t8 t11 (Go.IntKind.wrap .i64 (t12 + (1 : Int))) t52 t53 t54 t58 t59 (Go.IntKind.wrap .i64 (t60 + (1 : Int)))
          else
            W3_21 N x5 n t0 t5 t8 t11 t12 t52 t53 t54 t58 t59 (Go.IntKind.wrap .i64 (t60 + (1 : Int)))
        else
          none
      else
        W3_21 N x5 n t0 t5 t8 t11 t12 t52 t53 t54 t58 t59 (Go.IntKind.wrap .i64 (t60 + (1 : Int)))
    else
      none
  else
    x5 t0 t5 t8 t11 t12 t52 t53 t54
def W3_17 {β : Type} (N : Nat) (x0 : Bool → Option β) (x3 : (List ((Int × Int × ByteArray × Unit) × Int × (Int × Int × ByteArray × Unit) × Int × (List (Int × Int × ByteArray × Unit)) × (List (Int × Int × ByteArray × Unit)) × Int × Int × Unit)) → Int → (List Int) → Option β) : Nat → (List ((Int × Int × ByteArray × Unit) × Int × (Int × Int × ByteArray × Unit) × Int × (List (Int × Int × ByteArray × Unit)) × (List (Int × Int × ByteArray × Unit)) × Int × Int × Unit)) → Int → (List Int) → (List (List Int)) → Int → Int → Option β
  | 0, _, _, _, _, _, _ => none
  | n + 1, t0, t5, t8, t52, t53, t54 =>
  bif decide (t54 < t53) then
    bif ((decide ((0 : Int) ≤ t54)) && (decide (t54 < (((List.length t52) : Nat) : Int)))) then
      W3_21 N
        (fun t0 t5 t8 t11 t12 t52 t53 t54 =>
          bif decide (t12 < (((List.length t11) : Nat) : Int)) then
            x0 false
          else
            W3_17 N x0 x3 n t0 t5 t8 t52 t53 (Go.IntKind.wrap .i64 (t54 + (1 : Int))))
        N t0 t5 t8 (List.getD t52 (Int.toNat t54) []) (0 : Int) t52 t53 t54 t8 (((List.length t8) : Nat) : Int) (0 : Int)
    else
      none
  else
    x3 t0 t5 t8
def W3_33 {β : Type} (N : Nat) (x0 : Bool → Option β) (x9 : (List ((Int × Int × ByteArray × Unit) × Int × (Int × Int × ByteArray × Unit) × Int × (List (Int × Int × ByteArray × Unit)) × (List (Int × Int × ByteArray × Unit)) × Int × Int × Unit)) → Int → (List Int) → Int → Int → Option β) : Nat → (List ((Int × Int × ByteArray × Unit) × Int × (Int × Int × ByteArray × Unit) × Int × (List (Int × Int × ByteArray × Unit)) × (List (Int × Int × ByteArray × Unit)) × Int × Int × Unit)) → Int → (List Int) → Int → Int → Int → Int → Int → Option β
  | 0, _, _, _, _, _, _, _, _ => none
  | n + 1, t0, t5, t8, t15, t85, t86, t89, t90 =>
  bif decide (t90 < t89) then
    bif ((decide ((0 : Int) ≤ t15)) && (decide (t15 < (((List.length t8) : Nat) : Int)))) then
      bif ((decide ((0 : Int) ≤ (List.getD t8 (Int.toNat t15) (0 : Int)))) && (decide ((List.getD t8 (Int.toNat t15) (0 : Int)) < (((List.length t0) : Nat) : Int)))) then
        bif ((decide ((0 : Int) ≤ t90)) && (decide (t90 < (((List.length t8) : Nat) : Int)))) then
          bif ((decide ((0 : Int) ≤ (List.getD t8 (Int.toNat t90) (0 : Int)))) && (decide ((List.getD t8 (Int.toNat t90) (0 : Int)) < (((List.length t0) : Nat) : Int)))) then
            bif (Go.Inc.aheadO (List.getD t0 (Int.toNat (List.getD t8 (Int.toNat t15) (0 : Int))) (((0 : Int), ((0 : Int), (ByteArray.empty, ()))), ((0 : Int), (((0 : Int), ((0 : Int), (ByteArray.empty, ()))), ((0 : Int), ([], ([], ((0 : Int), ((0 : Int), ()))))))))) (List.getD t0 (Int.toNat (List.getD t8 (Int.toNat t90) (0 : Int))) (((0 : Int), ((0 : Int), (ByteArray.empty, ()))), ((0 : Int), (((0 : Int), ((0 : Int), (ByteArray.empty, ()))), ((0 : Int), ([], ([], ((0 : Int), ((0 : Int), ())))))))))) then
              bif ((decide ((0 : Int) ≤ t15)) && (decide (t15 < (((List.length t8) : Nat) : Int)))) then
              bif ((decide ((0 : Int) ≤ t90)) && (decide (t90 < (((List.length t8) : Nat) : Int)))) then
              bif ((List.getD t8 (Int.toNat t15) (0 : Int)) != (List.getD t8 (Int.toNat t90) (0 : Int))) then
              x0 false
            else
              W3_33 N x0 x9 n t0 t5 t8 t15 t85 t86 t89 (Go.IntKind.wrap .i64 (t90 + (1 : Int)))
            else
              none
            else
              none
            else
              W3_33 N x0 x9 n t0 t5 t8 t15 t85 t86 t89 (Go.IntKind.wrap .i64 (t90 + (1 : Int)))
          else
            none
        else
          none
      else
        none
    else
      none
  else
    x9 t0 t5 t8 t85 t86
def W3_30 {β : Type} (N : Nat) (x0 : Bool → Option β) (x7 : Int → (List Int) → Option β) : Nat → (List ((Int × Int × ByteArray × Unit) × Int × (Int × Int × ByteArray × Unit) × Int × (List (Int × Int × ByteArray × Unit)) × (List (Int × Int × ByteArray × Unit)) × Int × Int × Unit)) → Int → (List Int) → Int → Int → Option β
  | 0, _, _, _, _, _ => none
  | n + 1, t0, t5, t8, t85, t86 =>
  bif decide (t86 < t85) then
    W3_33 N
      (fun t4 =>
        x0 t4)
      (fun t0 t5 t8 t85 t86 =>
        W3_30 N x0 x7 n t0 t5 t8 t85 (Go.IntKind.wrap .i64 (t86 + (1 : Int))))
      N t0 t5 t8 t86 t85 t86 t86 (0 : Int)
  else
    x7 t5 t8
def L3 (N : Nat) : Loops (Bool × Unit) := fun k ρ K => match Nat.beq k 7 with
  | true => (match adH ρ H3_7.hd with
    | some v => W3_7 N (fun t4 => K .ret (encH [(8, .bo)] (t4, ()))) (fun t0 t1 t5 => K (.exit 0) (encH [(0, (.sl (.pr (.pr (.int .i64) (.pr (.int .i64) (.pr .str .un))) (.pr (.int .i64) (.pr (.pr (.int .i64) (.pr (.int .i64) (.pr .str .un))) (.pr (.int .i64) (.pr (.sl (.pr (.int .i64) (.pr (.int .i64) (.pr .str .un)))) (.pr (.sl (.pr (.int .i64) (.pr (.int .i64) (.pr .str .un)))) (.pr (.int .i64) (.pr (.int .i64) .un)))))))) .no)), (2, (.sl (.sl (.int .i64)) .no)), (10, (.i .i64))] (t0, (t1, (t5, ()))))) N v.1 v.2.1 v.2.2.1 v.2.2.2.1 v.2.2.2.2.1 v.2.2.2.2.2.1
    | none => none)
  | false => match Nat.beq k 21 with
  | true => (match adH ρ H3_21.hd with
    | some v => W3_21 N (fun t0 t5 t8 t11 t12 t52 t53 t54 => K (.exit 4) (encH [(0, (.sl (.pr (.pr (.int .i64) (.pr (.int .i64) (.pr .str .un))) (.pr (.int .i64) (.pr (.pr (.int .i64) (.pr (.int .i64) (.pr .str .un))) (.pr (.int .i64) (.pr (.sl (.pr (.int .i64) (.pr (.int .i64) (.pr .str .un)))) (.pr (.sl (.pr (.int .i64) (.pr (.int .i64) (.pr .str .un)))) (.pr (.int .i64) (.pr (.int .i64) .un)))))))) .no)), (10, (.i .i64)), (16, (.sl (.int .i64) .no)), (22, (.sl (.int .i64) .no)), (24, (.i .i64)), (104, (.sl (.sl (.int .i64)) .no)), (106, (.i .i64)), (108, (.i .i64))] (t0, (t5, (t8, (t11, (t12, (t52, (t53, (t54, ())))))))))) N v.1 v.2.1 v.2.2.1 v.2.2.2.1 v.2.2.2.2.1 v.2.2.2.2.2.1 v.2.2.2.2.2.2.1 v.2.2.2.2.2.2.2.1 v.2.2.2.2.2.2.2.2.1 v.2.2.2.2.2.2.2.2.2.1 v.2.2.2.2.2.2.2.2.2.2.1
    | none => none)
  | false => match Nat.beq k 17 with
  | true => (match adH ρ H3_17.hd with
    | some v => W3_17 N (fun t4 => K .ret (encH [(8, .bo)] (t4, ()))) (fun t0 t5 t8 => K (.exit 2) (encH [(0, (.sl (.pr (.pr (.int .i64) (.pr (.int .i64) (.pr .str .un))) (.pr (.int .i64) (.pr (.pr (.int .i64) (.pr (.int .i64) (.pr .str .un))) (.pr (.int .i64) (.pr (.sl (.pr (.int .i64) (.pr (.int .i64) (.pr .str .un)))) (.pr (.sl (.pr (.int .i64) (.pr (.int .i64) (.pr .str .un)))) (.pr (.int .i64) (.pr (.int .i64) .un)))))))) .no)), (10, (.i .i64)), (16, (.sl (.int .i64) .no))] (t0, (t5, (t8, ()))))) N v.1 v.2.1 v.2.2.1 v.2.2.2.1 v.2.2.2.2.1 v.2.2.2.2.2.1
    | none => none)
  | false => match Nat.beq k 33 with
  | true => (match adH ρ H3_33.hd with
    | some v => W3_33 N (fun t4 => K .ret (encH [(8, .bo)] (t4, ()))) (fun t0 t5 t8 t85 t86 => K (.exit 8) (encH [(0, (.sl (.pr (.pr (.int .i64) (.pr (.int .i64) (.pr .str .un))) (.pr (.int .i64) (.pr (.pr (.int .i64) (.pr (.int .i64) (.pr .str .un))) (.pr (.int .i64) (.pr (.sl (.pr (.int .i64) (.pr (.int .i64) (.pr .str .un)))) (.pr (.sl (.pr (.int .i64) (.pr (.int .i64) (.pr .str .un)))) (.pr (.int .i64) (.pr (.int .i64) .un)))))))) .no)), (10, (.i .i64)), (16, (.sl (.int .i64) .no)), (170, (.i .i64)), (172, (.i .i64))] (t0, (t5, (t8, (t85, (t86, ()))))))) N v.1 v.2.1 v.2.2.1 v.2.2.2.1 v.2.2.2.2.1 v.2.2.2.2.2.1 v.2.2.2.2.2.2.1 v.2.2.2.2.2.2.2.1
    | none => none)
  | false => match Nat.beq k 30 with
  | true => (match adH ρ H3_30.hd with
    | some v => W3_30 N (fun t4 => K .ret (encH [(8, .bo)] (t4, ()))) (fun t5 t8 => K (.exit 6) (encH [(10, (.i .i64)), (16, (.sl (.int .i64) .no))] (t5, (t8, ())))) N v.1 v.2.1 v.2.2.1 v.2.2.2.1 v.2.2.2.2.1
    | none => none)
  | false => none
def F3 (N : Nat) (p0 : List ((Int × Int × ByteArray × Unit) × Int × (Int × Int × ByteArray × Unit) × Int × (List (Int × Int × ByteArray × Unit)) × (List (Int × Int × ByteArray × Unit)) × Int × Int × Unit)) (p1 : List (List Int)) : Option (Bool × Unit) :=
  bif decide ((((List.length p0) : Nat) : Int) > (40 : Int)) then
    some (true, ())
  else
    bif decide ((((List.length p1) : Nat) : Int) > (20 : Int)) then
      some (true, ())
    else
      W3_7 N
        (fun t4 =>
          some (t4, ()))
        (fun t0 t1 t5 =>
          bif (Go.Inc.okAll t0 t1) then
            bif (!(((Go.Inc.mergeAll t0 t1).2).1)) then
              some (((((List.length ((Go.Inc.mergeAll t0 t1).1)) : Nat) : Int) == (0 : Int)), ())
            else
              W3_17 N
              (fun t4 =>
                some (t4, ()))
              (fun t0 t5 t8 =>
                W3_30 N
              (fun t4 =>
                some (t4, ()))
              (fun t5 t8 =>
                some (((((List.length t8) : Nat) : Int) == t5), ()))
              N t0 t5 t8 (((List.length t8) : Nat) : Int) (0 : Int))
              N t0 t5 ((Go.Inc.mergeAll t0 t1).1) t1 (((List.length t1) : Nat) : Int) (0 : Int)
          else
            none)
        N p0 p1 (0 : Int) p1 (((List.length p1) : Nat) : Int) (0 : Int)
theorem loops3 (N : Nat) : loopsOk C3 (L3 N) Go.Proofs.Try.f3 := ⟨trivial, ⟨⟨trivial, ⟨⟨trivial, trivial⟩, trivial⟩⟩, ⟨⟨trivial, ⟨⟨trivial, trivial⟩, trivial⟩⟩, ⟨trivial, ⟨⟨trivial, ⟨loopOk_of H3_7 N (fun K n v => W3_7 N (fun t4 => K .ret (encH [(8, .bo)] (t4, ()))) (fun t0 t1 t5 => K (.exit 0) (encH [(0, (.sl (.pr (.pr (.int .i64) (.pr (.int .i64) (.pr .str .un))) (.pr (.int .i64) (.pr (.pr (.int .i64) (.pr (.int .i64) (.pr .str .un))) (.pr (.int .i64) (.pr (.sl (.pr (.int .i64) (.pr (.int .i64) (.pr .str .un)))) (.pr (.sl (.pr (.int .i64) (.pr (.int .i64) (.pr .str .un)))) (.pr (.int .i64) (.pr (.int .i64) .un)))))))) .no)), (2, (.sl (.sl (.int .i64)) .no)), (10, (.i .i64))] (t0, (t1, (t5, ()))))) n v.1 v.2.1 v.2.2.1 v.2.2.2.1 v.2.2.2.2.1 v.2.2.2.2.2.1) (by kernel_rfl) (fun K v => by kernel_rfl) (fun K v => by kernel_rfl) (fun K n v => by kernel_rfl), ⟨trivial, ⟨⟨trivial, trivial⟩, ⟨⟨trivial, ⟨⟨trivial, ⟨⟨trivial, trivial⟩, trivial⟩⟩, trivial⟩⟩, trivial⟩⟩⟩⟩⟩, ⟨trivial, ⟨⟨trivial, ⟨⟨trivial, trivial⟩, trivial⟩⟩, ⟨⟨trivial, ⟨loopOk_of H3_17 N (fun K n v => W3_17 N (fun t4 => K .ret (encH [(8, .bo)] (t4, ()))) (fun t0 t5 t8 => K (.exit 2) (encH [(0, (.sl (.pr (.pr (.int .i64) (.pr (.int .i64) (.pr .str .un))) (.pr (.int .i64) (.pr (.pr (.int .i64) (.pr (.int .i64) (.pr .str .un))) (.pr (.int .i64) (.pr (.sl (.pr (.int .i64) (.pr (.int .i64) (.pr .str .un)))) (.pr (.sl (.pr (.int .i64) (.pr (.int .i64) (.pr .str .un)))) (.pr (.int .i64) (.pr (.int .i64) .un)))))))) .no)), (10, (.i .i64)), (16, (.sl (.int .i64) .no))] (t0, (t5, (t8, ()))))) n v.1 v.2.1 v.2.2.1 v.2.2.2.1 v.2.2.2.2.1 v.2.2.2.2.2.1) (by kernel_rfl) (fun K v => by kernel_rfl) (fun K v => by kernel_rfl) (fun K n v => by kernel_rfl), ⟨trivial, ⟨⟨trivial, trivial⟩, ⟨⟨trivial, ⟨trivial, ⟨⟨trivial, ⟨loopOk_of H3_21 N (fun K n v => W3_21 N (fun t0 t5 t8 t11 t12 t52 t53 t54 => K (.exit 4) (encH [(0, (.sl (.pr (.pr (.int .i64) (.pr (.int .i64) (.pr .str .un))) (.pr (.int .i64) (.pr (.pr (.int .i64) (.pr (.int .i64) (.pr .str .un))) (.pr (.int .i64) (.pr (.sl (.pr (.int .i64) (.pr (.int .i64) (.pr .str .un)))) (.pr (.sl (.pr (.int .i64) (.pr (.int .i64) (.pr .str .un)))) (.pr (.int .i64) (.pr (.int .i64) .un)))))))) .no)), (10, (.i .i64)), (16, (.sl (.int .i64) .no)), (22, (.sl (.int .i64) .no)), (24, (.i .i64)), (104, (.sl (.sl (.int .i64)) .no)), (106, (.i .i64)), (108, (.i .i64))] (t0, (t5, (t8, (t11, (t12, (t52, (t53, (t54, ())))))))))) n v.1 v.2.1 v.2.2.1 v.2.2.2.1 v.2.2.2.2.1 v.2.2.2.2.2.1 v.2.2.2.2.2.2.1 v.2.2.2.2.2.2.2.1 v.2.2.2.2.2.2.2.2.1 v.2.2.2.2.2.2.2.2.2.1 v.2.2.2.2.2.2.2.2.2.2.1) (by kernel_rfl) (fun K v => by kernel_rfl) (fun K v => by kernel_rfl) (fun K n v => by kernel_rfl), ⟨trivial, ⟨⟨trivial, trivial⟩, ⟨⟨trivial, ⟨trivial, ⟨trivial, trivial⟩⟩⟩, trivial⟩⟩⟩⟩⟩, ⟨trivial, ⟨⟨trivial, trivial⟩, trivial⟩⟩⟩⟩⟩, trivial⟩⟩⟩⟩⟩, ⟨⟨trivial, ⟨loopOk_of H3_30 N (fun K n v => W3_30 N (fun t4 => K .ret (encH [(8, .bo)] (t4, ()))) (fun t5 t8 => K (.exit 6) (encH [(10, (.i .i64)), (16, (.sl (.int .i64) .no))] (t5, (t8, ())))) n v.1 v.2.1 v.2.2.1 v.2.2.2.1 v.2.2.2.2.1) (by kernel_rfl) (fun K v => by kernel_rfl) (fun K v => by kernel_rfl) (fun K n v => by kernel_rfl), ⟨trivial, ⟨⟨trivial, trivial⟩, ⟨⟨trivial, ⟨trivial, ⟨loopOk_of H3_33 N (fun K n v => W3_33 N (fun t4 => K .ret (encH [(8, .bo)] (t4, ()))) (fun t0 t5 t8 t85 t86 => K (.exit 8) (encH [(0, (.sl (.pr (.pr (.int .i64) (.pr (.int .i64) (.pr .str .un))) (.pr (.int .i64) (.pr (.pr (.int .i64) (.pr (.int .i64) (.pr .str .un))) (.pr (.int .i64) (.pr (.sl (.pr (.int .i64) (.pr (.int .i64) (.pr .str .un)))) (.pr (.sl (.pr (.int .i64) (.pr (.int .i64) (.pr .str .un)))) (.pr (.int .i64) (.pr (.int .i64) .un)))))))) .no)), (10, (.i .i64)), (16, (.sl (.int .i64) .no)), (170, (.i .i64)), (172, (.i .i64))] (t0, (t5, (t8, (t85, (t86, ()))))))) n v.1 v.2.1 v.2.2.1 v.2.2.2.1 v.2.2.2.2.1 v.2.2.2.2.2.1 v.2.2.2.2.2.2.1 v.2.2.2.2.2.2.2.1) (by kernel_rfl) (fun K v => by kernel_rfl) (fun K v => by kernel_rfl) (fun K n v => by kernel_rfl), ⟨trivial, ⟨⟨trivial, trivial⟩, ⟨⟨trivial, ⟨trivial, ⟨⟨trivial, trivial⟩, trivial⟩⟩⟩, trivial⟩⟩⟩⟩⟩⟩, trivial⟩⟩⟩⟩⟩, ⟨trivial, trivial⟩⟩⟩⟩⟩⟩⟩⟩⟩⟩
theorem runs3 (N : Nat) (x : S3.ta.den) : run C3 S3 (L3 N) Go.Proofs.Try.f3 x = F3 N x.1 x.2.1 := by kernel_rfl

end Go.L23a
