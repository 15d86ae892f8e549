/- The walks of package pair and its statements. Printed by a program of this session. -/
import Derived.Test.YtkkkjcpfahhhpaaDoorW0
set_option linter.unusedVariables false
set_option maxRecDepth 100000
namespace Go.L12
open Go Go.Abs Go.Inc

/-! ### 44: incognito/value.Right -/
def L44 (_ : Nat) : Loops (Bool × Unit) := fun _ _ _ => none
def F44 (N : Nat) (p0 : Int × Int × ByteArray × Unit) : Option (Bool × Unit) :=
  bif (p0.1 == (0 : Int)) then
    some (((p0.1 == (0 : Int)) && ((p0.2.1 == (0 : Int)) && ((p0.2.2.1 == ByteArray.empty) && true))), ())
  else
    bif (p0.1 == (1 : Int)) then
      some (((ByteArray.toList p0.2.2.1) == (ByteArray.toList (strL []))), ())
    else
      bif (p0.1 == (2 : Int)) then
        bif (p0.2.1 == (0 : Int)) then
          bif (Go.Inc.okS p0.2.2.1) then
            some ((Go.Inc.isWord p0.2.2.1), ())
          else
            none
        else
          some (false, ())
      else
        bif ((p0.1 == (3 : Int)) && ((p0.2.1 == (1 : Int)) && ((p0.2.2.1 == ByteArray.empty) && true))) then
          some (true, ())
        else
          some (((p0.1 == (3 : Int)) && ((p0.2.1 == (0 : Int)) && ((p0.2.2.1 == ByteArray.empty) && true))), ())
theorem loops44 (N : Nat) : loopsOk C44 (L44 N) Go.Proofs.Tryd.f44 := ⟨trivial, ⟨⟨trivial, ⟨trivial, ⟨⟨trivial, trivial⟩, ⟨trivial, ⟨⟨trivial, trivial⟩, ⟨trivial, ⟨⟨trivial, trivial⟩, trivial⟩⟩⟩⟩⟩⟩⟩, ⟨trivial, trivial⟩⟩⟩
theorem runs44 (N : Nat) (x : S44.ta.den) : run C44 S44 (L44 N) Go.Proofs.Tryd.f44 x = F44 N x.1 := by kernel_rfl

/-! ### 41: incognito/event.noted -/
def L41 (_ : Nat) : Loops (Bool × Unit) := fun _ _ _ => none
def F41 (N : Nat) (p0 : Int × (Int × Int × ByteArray × Unit) × Int × Int × (Int × Int × ByteArray × Unit) × Int × (List (Int × Int × ByteArray × Unit)) × (List (Int × Int × ByteArray × Unit)) × Bool × ByteArray × Unit) : Option (Bool × Unit) :=
  bif decide ((((ByteArray.size p0.2.2.2.2.2.2.2.2.2.1) : Nat) : Int) ≤ (100 : Int)) then
    bif (!(Go.Inc.containsOne p0.2.2.2.2.2.2.2.2.2.1 (strL [10]))) then
      bif p0.2.2.2.2.2.2.2.2.1 then
        some (true, ())
      else
        some (((ByteArray.toList p0.2.2.2.2.2.2.2.2.2.1) == (ByteArray.toList (strL []))), ())
    else
      some (false, ())
  else
    some (false, ())
theorem loops41 (N : Nat) : loopsOk C41 (L41 N) Go.Proofs.Tryd.f41 := ⟨trivial, ⟨trivial, trivial⟩⟩
theorem runs41 (N : Nat) (x : S41.ta.den) : run C41 S41 (L41 N) Go.Proofs.Tryd.f41 x = F41 N x.1 := by kernel_rfl

/-! ### 53: slices.IndexFunc[[]incognito/sign.row,incognito/sign.row] -/
def W53_2 {β : Type} (N : Nat) (x0 : Int → Int → Int → Option β) (x1 : Int → Int → Option β) : Nat → (List (Int × Int × ByteArray × Int × Bool × Unit)) → Int → Int → Int → Int → Option β
  | 0, _, _, _, _, _ => none
  | n + 1, t0, t7, t8, b1000a, b1001a =>
  bif decide (t8 < t7) then
    bif ((decide ((0 : Int) ≤ t8)) && (decide (t8 < (((List.length t0) : Nat) : Int)))) then
      bif (Go.Inc.hitA ((List.getD t0 (Int.toNat t8) ((0 : Int), ((0 : Int), (ByteArray.empty, ((0 : Int), (false, ())))))).1) (((List.getD t0 (Int.toNat t8) ((0 : Int), ((0 : Int), (ByteArray.empty, ((0 : Int), (false, ())))))).2).1) ((((List.getD t0 (Int.toNat t8) ((0 : Int), ((0 : Int), (ByteArray.empty, ((0 : Int), (false, ())))))).2).2).1) (((((List.getD t0 (Int.toNat t8) ((0 : Int), ((0 : Int), (ByteArray.empty, ((0 : Int), (false, ())))))).2).2).2).1) ((((((List.getD t0 (Int.toNat t8) ((0 : Int), ((0 : Int), (ByteArray.empty, ((0 : Int), (false, ())))))).2).2).2).2).1) b1000a b1001a) then
        x0 t8 b1000a b1001a
      else
        W53_2 N x0 x1 n t0 t7 (Go.IntKind.wrap .i64 (t8 + (1 : Int))) b1000a b1001a
    else
      none
  else
    x1 b1000a b1001a
def L53 (N : Nat) : Loops (HS.den X53.hout) := fun k ρ K => match Nat.beq k 2 with
  | true => (match adH ρ H53_2.hd with
    | some v => W53_2 N (fun t4 b1000a b1001a => K .ret (encH [(8, (.i .i64)), (2001, (.pr (.i .i64) .un)), (2003, (.pr (.i .i64) .un))] (t4, ((b1000a, ()), ((b1001a, ()), ()))))) (fun b1000a b1001a => K (.exit 0) (encH [(2001, (.pr (.i .i64) .un)), (2003, (.pr (.i .i64) .un))] ((b1000a, ()), ((b1001a, ()), ())))) N v.1 v.2.2.1 v.2.2.2.1 v.2.2.2.2.1.1 v.2.2.2.2.2.1.1
    | none => none)
  | false => none
def F53 (N : Nat) (t0 : List (Int × Int × ByteArray × Int × Bool × Unit)) (b1000a : Int) (b1001a : Int) : Option (HS.den X53.hout) :=
  W53_2 N
    (fun t4 b1000a b1001a =>
      some (t4, ((b1000a, ()), ((b1001a, ()), ()))))
    (fun b1000a b1001a =>
      some ((-(1 : Int)), ((b1000a, ()), ((b1001a, ()), ()))))
    N t0 (((List.length t0) : Nat) : Int) (0 : Int) b1000a b1001a
theorem loops53 (N : Nat) : loopsOk C53 (L53 N) Go.Proofs.Tryd.f53 := ⟨trivial, ⟨⟨trivial, ⟨loopOk_of H53_2 N (fun K n v => W53_2 N (fun t4 b1000a b1001a => K .ret (encH [(8, (.i .i64)), (2001, (.pr (.i .i64) .un)), (2003, (.pr (.i .i64) .un))] (t4, ((b1000a, ()), ((b1001a, ()), ()))))) (fun b1000a b1001a => K (.exit 0) (encH [(2001, (.pr (.i .i64) .un)), (2003, (.pr (.i .i64) .un))] ((b1000a, ()), ((b1001a, ()), ())))) n v.1 v.2.2.1 v.2.2.2.1 v.2.2.2.2.1.1 v.2.2.2.2.2.1.1) (by kernel_rfl) (fun K v => by kernel_rfl) (fun K v => by kernel_rfl) (fun K n v => by kernel_rfl), ⟨trivial, ⟨⟨trivial, trivial⟩, ⟨⟨trivial, ⟨trivial, ⟨⟨trivial, trivial⟩, trivial⟩⟩⟩, trivial⟩⟩⟩⟩⟩, ⟨trivial, trivial⟩⟩⟩
theorem runs53 (N : Nat) (x : HS.den X53.hin) : runX C53 X53 (L53 N) Go.Proofs.Tryd.f53 x = F53 N x.1 x.2.2.1.1 x.2.2.2.1.1 := by kernel_rfl

/-! ### 43: incognito/event.fits -/
def W43_4 {β : Type} (N : Nat) (x0 : Bool → Option β) (x1 : Unit → Option β) : Nat → (List (Int × Int × ByteArray × Unit)) → (List Int) → Int → Int → Option β
  | 0, _, _, _, _ => none
  | n + 1, t1, t12, t13, t14 =>
  bif decide (t14 < t13) then
    bif ((decide ((0 : Int) ≤ t14)) && (decide (t14 < (((List.length t12) : Nat) : Int)))) then
      bif ((decide ((0 : Int) ≤ t14)) && (decide (t14 < (((List.length t1) : Nat) : Int)))) then
        bif (Go.Inc.okT (List.getD t12 (Int.toNat t14) (0 : Int)) (List.getD t1 (Int.toNat t14) ((0 : Int), ((0 : Int), (ByteArray.empty, ()))))) then
          bif (!(Go.Inc.takes (List.getD t12 (Int.toNat t14) (0 : Int)) (List.getD t1 (Int.toNat t14) ((0 : Int), ((0 : Int), (ByteArray.empty, ())))))) then
            x0 false
          else
            W43_4 N x0 x1 n t1 t12 t13 (Go.IntKind.wrap .i64 (t14 + (1 : Int)))
        else
          none
      else
        none
    else
      none
  else
    x1 ()
def L43 (N : Nat) : Loops (Bool × Unit) := fun k ρ K => match Nat.beq k 4 with
  | true => (match adH ρ H43_4.hd with
    | some v => W43_4 N (fun t4 => K .ret (encH [(8, .bo)] (t4, ()))) (fun _ => K (.exit 0) (encH [] ())) N v.1 v.2.1 v.2.2.1 v.2.2.2.1
    | none => none)
  | false => none
def F43 (N : Nat) (p0 : List Int) (p1 : List (Int × Int × ByteArray × Unit)) : Option (Bool × Unit) :=
  bif ((((List.length p0) : Nat) : Int) != (((List.length p1) : Nat) : Int)) then
    some (false, ())
  else
    W43_4 N
      (fun t4 =>
        some (t4, ()))
      (fun (_ : Unit) =>
        some (true, ()))
      N p1 p0 (((List.length p0) : Nat) : Int) (0 : Int)
theorem loops43 (N : Nat) : loopsOk C43 (L43 N) Go.Proofs.Tryd.f43 := ⟨trivial, ⟨⟨trivial, ⟨⟨trivial, trivial⟩, trivial⟩⟩, ⟨⟨trivial, ⟨loopOk_of H43_4 N (fun K n v => W43_4 N (fun t4 => K .ret (encH [(8, .bo)] (t4, ()))) (fun _ => K (.exit 0) (encH [] ())) n v.1 v.2.1 v.2.2.1 v.2.2.2.1) (by kernel_rfl) (fun K v => by kernel_rfl) (fun K v => by kernel_rfl) (fun K n v => by kernel_rfl), ⟨trivial, ⟨⟨trivial, trivial⟩, ⟨⟨trivial, ⟨trivial, ⟨⟨trivial, trivial⟩, trivial⟩⟩⟩, trivial⟩⟩⟩⟩⟩, ⟨trivial, trivial⟩⟩⟩⟩
theorem runs43 (N : Nat) (x : S43.ta.den) : run C43 S43 (L43 N) Go.Proofs.Tryd.f43 x = F43 N x.1 x.2.1 := by kernel_rfl

/-! ### 46: incognito/sign.paired -/
def W46_5 {β : Type} (N : Nat) (x0 : (List Int) → Bool → Option β) (x1 : (List Int) → Option β) : Nat → (List Int) → (List (Int × Int × ByteArray × Unit)) → Int → Int → Option β
  | 0, _, _, _, _ => none
  | n + 1, t4, t12, t13, t14 =>
  bif decide (t14 < t13) then
    bif ((decide ((0 : Int) ≤ t14)) && (decide (t14 < (((List.length t12) : Nat) : Int)))) then
      bif ((Int.tmod t14 (2 : Int)) == (1 : Int)) then
        bif (Go.Inc.okT (2 : Int) (List.getD t12 (Int.toNat t14) ((0 : Int), ((0 : Int), (ByteArray.empty, ()))))) then
          bif (!(Go.Inc.takes (2 : Int) (List.getD t12 (Int.toNat t14) ((0 : Int), ((0 : Int), (ByteArray.empty, ())))))) then
            x0 ([] : List Int) false
          else
            bif decide ((((List.length t4) + (List.length ((2 : Int) :: ([] : List Int)))) * 8) ≤ 140737488351232) then
              W46_5 N x0 x1 n (t4 ++ ((2 : Int) :: ([] : List Int))) t12 t13 (Go.IntKind.wrap .i64 (t14 + (1 : Int)))
            else
              none
        else
          none
      else
        bif (Go.Inc.okT (4 : Int) (List.getD t12 (Int.toNat t14) ((0 : Int), ((0 : Int), (ByteArray.empty, ()))))) then
          bif (!(Go.Inc.takes (4 : Int) (List.getD t12 (Int.toNat t14) ((0 : Int), ((0 : Int), (ByteArray.empty, ())))))) then
            x0 ([] : List Int) false
          else
            bif decide ((((List.length t4) + (List.length ((4 : Int) :: ([] : List Int)))) * 8) ≤ 140737488351232) then
              W46_5 N x0 x1 n (t4 ++ ((4 : Int) :: ([] : List Int))) t12 t13 (Go.IntKind.wrap .i64 (t14 + (1 : Int)))
            else
              none
        else
          none
    else
      none
  else
    x1 t4
def L46 (N : Nat) : Loops ((List Int) × Bool × Unit) := fun k ρ K => match Nat.beq k 5 with
  | true => (match adH ρ H46_5.hd with
    | some v => W46_5 N (fun t2 t3 => K .ret (encH [(4, (.sl (.int .i64) .full)), (6, .bo)] (t2, (t3, ())))) (fun t4 => K (.exit 0) (encH [(8, (.sl (.int .i64) (.own 29)))] (t4, ()))) N v.1 v.2.1 v.2.2.1 v.2.2.2.1
    | none => none)
  | false => none
def F46 (N : Nat) (p0 : List (Int × Int × ByteArray × Unit)) : Option ((List Int) × Bool × Unit) :=
  bif ((Int.tmod (((List.length p0) : Nat) : Int) (2 : Int)) != (0 : Int)) then
    some (([] : List Int), (false, ()))
  else
    W46_5 N
      (fun t2 t3 =>
        some (t2, (t3, ())))
      (fun t4 =>
        some (t4, (true, ())))
      N ([] : List Int) p0 (((List.length p0) : Nat) : Int) (0 : Int)
theorem loops46 (N : Nat) : loopsOk C46 (L46 N) Go.Proofs.Tryd.f46 := ⟨trivial, ⟨⟨trivial, ⟨⟨trivial, trivial⟩, trivial⟩⟩, ⟨trivial, ⟨⟨trivial, ⟨loopOk_of H46_5 N (fun K n v => W46_5 N (fun t2 t3 => K .ret (encH [(4, (.sl (.int .i64) .full)), (6, .bo)] (t2, (t3, ())))) (fun t4 => K (.exit 0) (encH [(8, (.sl (.int .i64) (.own 29)))] (t4, ()))) n v.1 v.2.1 v.2.2.1 v.2.2.2.1) (by kernel_rfl) (fun K v => by kernel_rfl) (fun K v => by kernel_rfl) (fun K n v => by kernel_rfl), ⟨trivial, ⟨⟨trivial, trivial⟩, ⟨⟨trivial, ⟨trivial, ⟨⟨trivial, ⟨trivial, trivial⟩⟩, ⟨⟨trivial, ⟨⟨trivial, trivial⟩, trivial⟩⟩, trivial⟩⟩⟩⟩, trivial⟩⟩⟩⟩⟩, ⟨trivial, trivial⟩⟩⟩⟩⟩
theorem runs46 (N : Nat) (x : S46.ta.den) : run C46 S46 (L46 N) Go.Proofs.Tryd.f46 x = F46 N x.1 := by kernel_rfl

/-! ### 34: incognito/sign.Outs -/
def L34 (_ : Nat) : Loops ((List Int) × Bool × Unit) := fun _ _ _ => none
def F34 (N : Nat) (p0 : Int) (p1 : Int) (p2 : List (Int × Int × ByteArray × Unit)) : Option ((List Int) × Bool × Unit) :=
  bif (!(((Go.Inc.findGo p0 p1).2).1)) then
    some (([] : List Int), (false, ()))
  else
    bif decide (((((((Go.Inc.findGo p0 p1).1).2).2).2).1) < (0 : Int)) then
      some (([] : List Int), (((((List.length p2) : Nat) : Int) == (0 : Int)), ()))
    else
      bif (((((((Go.Inc.findGo p0 p1).1).2).2).2).1) == (99 : Int)) then
        bif (Go.Inc.okL2 p2) then
          some (Go.Inc.pairedGo p2)
        else
          none
      else
        bif ((((List.length p2) : Nat) : Int) != (1 : Int)) then
          some (([] : List Int), (false, ()))
        else
          bif ((decide ((0 : Int) ≤ (0 : Int))) && (decide ((0 : Int) < (((List.length p2) : Nat) : Int)))) then
            bif (Go.Inc.okT ((((((Go.Inc.findGo p0 p1).1).2).2).2).1) (List.getD p2 (Int.toNat (0 : Int)) ((0 : Int), ((0 : Int), (ByteArray.empty, ()))))) then
              bif (!(Go.Inc.takes ((((((Go.Inc.findGo p0 p1).1).2).2).2).1) (List.getD p2 (Int.toNat (0 : Int)) ((0 : Int), ((0 : Int), (ByteArray.empty, ())))))) then
              bif ((((((Go.Inc.findGo p0 p1).1).2).2).2).2).1 then
              bif ((decide ((0 : Int) ≤ (0 : Int))) && (decide ((0 : Int) < (((List.length p2) : Nat) : Int)))) then
              bif (!((((List.getD p2 (Int.toNat (0 : Int)) ((0 : Int), ((0 : Int), (ByteArray.empty, ())))).1) == (0 : Int)) && (((((List.getD p2 (Int.toNat (0 : Int)) ((0 : Int), ((0 : Int), (ByteArray.empty, ())))).2).1) == (0 : Int)) && ((((((List.getD p2 (Int.toNat (0 : Int)) ((0 : Int), ((0 : Int), (ByteArray.empty, ())))).2).2).1) == ByteArray.empty) && true)))) then
              some (([] : List Int), (false, ()))
            else
              some ((((((((Go.Inc.findGo p0 p1).1).2).2).2).1) :: ([] : List Int)), (true, ()))
            else
              none
            else
              some (([] : List Int), (false, ()))
            else
              some ((((((((Go.Inc.findGo p0 p1).1).2).2).2).1) :: ([] : List Int)), (true, ()))
            else
              none
          else
            none
theorem loops34 (N : Nat) : loopsOk C34 (L34 N) Go.Proofs.Tryd.f34 := ⟨trivial, ⟨trivial, ⟨⟨trivial, ⟨⟨trivial, trivial⟩, ⟨trivial, ⟨⟨trivial, trivial⟩, ⟨trivial, ⟨⟨trivial, trivial⟩, ⟨trivial, ⟨⟨trivial, trivial⟩, trivial⟩⟩⟩⟩⟩⟩⟩⟩, ⟨trivial, trivial⟩⟩⟩⟩
theorem runs34 (N : Nat) (x : S34.ta.den) : run C34 S34 (L34 N) Go.Proofs.Tryd.f34 x = F34 N x.1 x.2.1 x.2.2.1 := by kernel_rfl

/-! ### 10: incognito/pair.Check -/
def L10 (_ : Nat) : Loops ((Int × Int × Unit) × Unit) := fun _ _ _ => none
def F10 (N : Nat) (p0 : List (Int × (Int × Int × ByteArray × Unit) × Int × Int × (Int × Int × ByteArray × Unit) × Int × (List (Int × Int × ByteArray × Unit)) × (List (Int × Int × ByteArray × Unit)) × Bool × ByteArray × Unit)) : Option ((Int × Int × Unit) × Unit) :=
  bif (Go.Inc.okAll p0) then
    some ((Go.Inc.pairAll p0).2, ())
  else
    none
theorem loops10 (N : Nat) : loopsOk C10 (L10 N) Go.Proofs.Tryd.f10 := ⟨trivial, ⟨trivial, ⟨trivial, trivial⟩⟩⟩
theorem runs10 (N : Nat) (x : S10.ta.den) : run C10 S10 (L10 N) Go.Proofs.Tryd.f10 x = F10 N x.1 := by kernel_rfl

/-! ### 32: slices.Index[[]int,int] -/
def W32_2 {β : Type} (N : Nat) (x0 : Int → Option β) (x1 : Unit → Option β) : Nat → (List Int) → Int → Int → Int → Option β
  | 0, _, _, _, _ => none
  | n + 1, t0, t1, t7, t8 =>
  bif decide (t8 < t7) then
    bif ((decide ((0 : Int) ≤ t8)) && (decide (t8 < (((List.length t0) : Nat) : Int)))) then
      bif (t1 == (List.getD t0 (Int.toNat t8) (0 : Int))) then
        x0 t8
      else
        W32_2 N x0 x1 n t0 t1 t7 (Go.IntKind.wrap .i64 (t8 + (1 : Int)))
    else
      none
  else
    x1 ()
def L32 (N : Nat) : Loops (Int × Unit) := fun k ρ K => match Nat.beq k 2 with
  | true => (match adH ρ H32_2.hd with
    | some v => W32_2 N (fun t4 => K .ret (encH [(8, (.i .i64))] (t4, ()))) (fun _ => K (.exit 0) (encH [] ())) N v.1 v.2.1 v.2.2.1 v.2.2.2.1
    | none => none)
  | false => none
def F32 (N : Nat) (p0 : List Int) (p1 : Int) : Option (Int × Unit) :=
  W32_2 N
    (fun t4 =>
      some (t4, ()))
    (fun (_ : Unit) =>
      some ((-(1 : Int)), ()))
    N p0 p1 (((List.length p0) : Nat) : Int) (0 : Int)
theorem loops32 (N : Nat) : loopsOk C32 (L32 N) Go.Proofs.Tryd.f32 := ⟨trivial, ⟨⟨trivial, ⟨loopOk_of H32_2 N (fun K n v => W32_2 N (fun t4 => K .ret (encH [(8, (.i .i64))] (t4, ()))) (fun _ => K (.exit 0) (encH [] ())) n v.1 v.2.1 v.2.2.1 v.2.2.2.1) (by kernel_rfl) (fun K v => by kernel_rfl) (fun K v => by kernel_rfl) (fun K n v => by kernel_rfl), ⟨trivial, ⟨⟨trivial, trivial⟩, ⟨⟨trivial, ⟨trivial, ⟨⟨trivial, trivial⟩, trivial⟩⟩⟩, trivial⟩⟩⟩⟩⟩, ⟨trivial, trivial⟩⟩⟩
theorem runs32 (N : Nat) (x : S32.ta.den) : run C32 S32 (L32 N) Go.Proofs.Tryd.f32 x = F32 N x.1 x.2.1 := by kernel_rfl

/-! ### 19: incognito/incognitoref10.Great -/
def W19_3 {β : Type} (N : Nat) (x1 : Int → Int → Int → ByteArray → Int → Int → Int → Int → ByteArray → Int → (List (Int × Int × ByteArray × Unit)) → (List (Int × Int × ByteArray × Unit)) → Bool → ByteArray → Int → Option β) : Nat → Int → Int → Int → ByteArray → Int → Int → Int → Int → ByteArray → Int → (List (Int × Int × ByteArray × Unit)) → (List (Int × Int × ByteArray × Unit)) → Bool → ByteArray → Int → Int → Option β
  | 0, _, _, _, _, _, _, _, _, _, _, _, _, _, _, _, _ => none
  | n + 1, b1a, b1ba, b1bba, b1bbba, b1bbbba, b1bbbbba, b1bbbbbba, b1bbbbbbba, b1bbbbbbbba, b1bbbbbbbbba, b1bbbbbbbbbba, b1bbbbbbbbbbba, b1bbbbbbbbbbbba, b1bbbbbbbbbbbbba, t3, t4 =>
  bif decide (t4 < (((List.length b1bbbbbbbbbba) : Nat) : Int)) then
    bif decide (t3 ≤ (2000 : Int)) then
      bif ((decide ((0 : Int) ≤ t4)) && (decide (t4 < (((List.length b1bbbbbbbbbba) : Nat) : Int)))) then
        W19_3 N x1 n b1a b1ba b1bba b1bbba b1bbbba b1bbbbba b1bbbbbba b1bbbbbbba b1bbbbbbbba b1bbbbbbbbba b1bbbbbbbbbba b1bbbbbbbbbbba b1bbbbbbbbbbbba b1bbbbbbbbbbbbba (Go.IntKind.wrap .i64 ((Go.IntKind.wrap .i64 (t3 + (1 : Int))) + (((ByteArray.size ((((List.getD b1bbbbbbbbbba (Int.toNat t4) ((0 : Int), ((0 : Int), (ByteArray.empty, ())))).2).2).1)) : Nat) : Int))) (Go.IntKind.wrap .i64 (t4 + (1 : Int)))
      else
        none
    else
      x1 b1a b1ba b1bba b1bbba b1bbbba b1bbbbba b1bbbbbba b1bbbbbbba b1bbbbbbbba b1bbbbbbbbba b1bbbbbbbbbba b1bbbbbbbbbbba b1bbbbbbbbbbbba b1bbbbbbbbbbbbba t3
  else
    x1 b1a b1ba b1bba b1bbba b1bbbba b1bbbbba b1bbbbbba b1bbbbbbba b1bbbbbbbba b1bbbbbbbbba b1bbbbbbbbbba b1bbbbbbbbbbba b1bbbbbbbbbbbba b1bbbbbbbbbbbbba t3
def W19_7 {β : Type} (N : Nat) (x3 : Int → Option β) : Nat → Int → Int → Int → ByteArray → Int → Int → Int → Int → ByteArray → Int → (List (Int × Int × ByteArray × Unit)) → (List (Int × Int × ByteArray × Unit)) → Bool → ByteArray → Int → Int → Option β
  | 0, _, _, _, _, _, _, _, _, _, _, _, _, _, _, _, _ => none
  | n + 1, b1a, b1ba, b1bba, b1bbba, b1bbbba, b1bbbbba, b1bbbbbba, b1bbbbbbba, b1bbbbbbbba, b1bbbbbbbbba, b1bbbbbbbbbba, b1bbbbbbbbbbba, b1bbbbbbbbbbbba, b1bbbbbbbbbbbbba, t3, t5 =>
  bif decide (t5 < (((List.length b1bbbbbbbbbbba) : Nat) : Int)) then
    bif decide (t3 ≤ (2000 : Int)) then
      bif ((decide ((0 : Int) ≤ t5)) && (decide (t5 < (((List.length b1bbbbbbbbbbba) : Nat) : Int)))) then
        W19_7 N x3 n b1a b1ba b1bba b1bbba b1bbbba b1bbbbba b1bbbbbba b1bbbbbbba b1bbbbbbbba b1bbbbbbbbba b1bbbbbbbbbba b1bbbbbbbbbbba b1bbbbbbbbbbbba b1bbbbbbbbbbbbba (Go.IntKind.wrap .i64 ((Go.IntKind.wrap .i64 (t3 + (1 : Int))) + (((ByteArray.size ((((List.getD b1bbbbbbbbbbba (Int.toNat t5) ((0 : Int), ((0 : Int), (ByteArray.empty, ())))).2).2).1)) : Nat) : Int))) (Go.IntKind.wrap .i64 (t5 + (1 : Int)))
      else
        none
    else
      x3 t3
  else
    x3 t3
def L19 (N : Nat) : Loops (Bool × Unit) := fun k ρ K => match Nat.beq k 3 with
  | true => (match adH ρ H19_3.hd with
    | some v => W19_3 N (fun b1a b1ba b1bba b1bbba b1bbbba b1bbbbba b1bbbbbba b1bbbbbbba b1bbbbbbbba b1bbbbbbbbba b1bbbbbbbbbba b1bbbbbbbbbbba b1bbbbbbbbbbbba b1bbbbbbbbbbbbba t3 => K (.exit 0) (encH [(2, (.bx 1 0)), (3, (.pr (.i .i64) (.pr (.i .i64) (.pr (.i .i64) (.pr .st (.pr (.i .i64) (.pr (.i .i64) (.pr (.i .i64) (.pr (.i .i64) (.pr .st (.pr (.i .i64) (.pr (.sl (.pr (.int .i64) (.pr (.int .i64) (.pr .str .un))) .no) (.pr (.sl (.pr (.int .i64) (.pr (.int .i64) (.pr .str .un))) .no) (.pr .bo (.pr .st .un))))))))))))))), (6, (.i .i64))] ((), ((b1a, (b1ba, (b1bba, (b1bbba, (b1bbbba, (b1bbbbba, (b1bbbbbba, (b1bbbbbbba, (b1bbbbbbbba, (b1bbbbbbbbba, (b1bbbbbbbbbba, (b1bbbbbbbbbbba, (b1bbbbbbbbbbbba, (b1bbbbbbbbbbbbba, ())))))))))))))), (t3, ()))))) N v.2.1.1 v.2.1.2.1 v.2.1.2.2.1 v.2.1.2.2.2.1 v.2.1.2.2.2.2.1 v.2.1.2.2.2.2.2.1 v.2.1.2.2.2.2.2.2.1 v.2.1.2.2.2.2.2.2.2.1 v.2.1.2.2.2.2.2.2.2.2.1 v.2.1.2.2.2.2.2.2.2.2.2.1 v.2.1.2.2.2.2.2.2.2.2.2.2.1 v.2.1.2.2.2.2.2.2.2.2.2.2.2.1 v.2.1.2.2.2.2.2.2.2.2.2.2.2.2.1 v.2.1.2.2.2.2.2.2.2.2.2.2.2.2.2.1 v.2.2.1 v.2.2.2.1
    | none => none)
  | false => match Nat.beq k 7 with
  | true => (match adH ρ H19_7.hd with
    | some v => W19_7 N (fun t3 => K (.exit 2) (encH [(6, (.i .i64))] (t3, ()))) N v.2.1.1 v.2.1.2.1 v.2.1.2.2.1 v.2.1.2.2.2.1 v.2.1.2.2.2.2.1 v.2.1.2.2.2.2.2.1 v.2.1.2.2.2.2.2.2.1 v.2.1.2.2.2.2.2.2.2.1 v.2.1.2.2.2.2.2.2.2.2.1 v.2.1.2.2.2.2.2.2.2.2.2.1 v.2.1.2.2.2.2.2.2.2.2.2.2.1 v.2.1.2.2.2.2.2.2.2.2.2.2.2.1 v.2.1.2.2.2.2.2.2.2.2.2.2.2.2.1 v.2.1.2.2.2.2.2.2.2.2.2.2.2.2.2.1 v.2.2.1 v.2.2.2.1
    | none => none)
  | false => none
def F19 (N : Nat) (p0 : Int × (Int × Int × ByteArray × Unit) × Int × Int × (Int × Int × ByteArray × Unit) × Int × (List (Int × Int × ByteArray × Unit)) × (List (Int × Int × ByteArray × Unit)) × Bool × ByteArray × Unit) : Option (Bool × Unit) :=
  W19_3 N
    (fun b1a b1ba b1bba b1bbba b1bbbba b1bbbbba b1bbbbbba b1bbbbbbba b1bbbbbbbba b1bbbbbbbbba b1bbbbbbbbbba b1bbbbbbbbbbba b1bbbbbbbbbbbba b1bbbbbbbbbbbbba t3 =>
      W19_7 N
        (fun t3 =>
          some (decide (t3 > (2000 : Int)), ()))
        N b1a b1ba b1bba b1bbba b1bbbba b1bbbbba b1bbbbbba b1bbbbbbba b1bbbbbbbba b1bbbbbbbbba b1bbbbbbbbbba b1bbbbbbbbbbba b1bbbbbbbbbbbba b1bbbbbbbbbbbbba t3 (0 : Int))
    N p0.1 p0.2.1.1 p0.2.1.2.1 p0.2.1.2.2.1 p0.2.2.1 p0.2.2.2.1 p0.2.2.2.2.1.1 p0.2.2.2.2.1.2.1 p0.2.2.2.2.1.2.2.1 p0.2.2.2.2.2.1 p0.2.2.2.2.2.2.1 p0.2.2.2.2.2.2.2.1 p0.2.2.2.2.2.2.2.2.1 p0.2.2.2.2.2.2.2.2.2.1 (Go.IntKind.wrap .i64 ((Go.IntKind.wrap .i64 ((((ByteArray.size p0.2.1.2.2.1) : Nat) : Int) + (((ByteArray.size p0.2.2.2.2.1.2.2.1) : Nat) : Int))) + (((ByteArray.size p0.2.2.2.2.2.2.2.2.2.1) : Nat) : Int))) (0 : Int)
theorem loops19 (N : Nat) : loopsOk C19 (L19 N) Go.Proofs.Tryd.f19 := ⟨trivial, ⟨trivial, ⟨⟨trivial, ⟨loopOk_of H19_3 N (fun K n v => W19_3 N (fun b1a b1ba b1bba b1bbba b1bbbba b1bbbbba b1bbbbbba b1bbbbbbba b1bbbbbbbba b1bbbbbbbbba b1bbbbbbbbbba b1bbbbbbbbbbba b1bbbbbbbbbbbba b1bbbbbbbbbbbbba t3 => K (.exit 0) (encH [(2, (.bx 1 0)), (3, (.pr (.i .i64) (.pr (.i .i64) (.pr (.i .i64) (.pr .st (.pr (.i .i64) (.pr (.i .i64) (.pr (.i .i64) (.pr (.i .i64) (.pr .st (.pr (.i .i64) (.pr (.sl (.pr (.int .i64) (.pr (.int .i64) (.pr .str .un))) .no) (.pr (.sl (.pr (.int .i64) (.pr (.int .i64) (.pr .str .un))) .no) (.pr .bo (.pr .st .un))))))))))))))), (6, (.i .i64))] ((), ((b1a, (b1ba, (b1bba, (b1bbba, (b1bbbba, (b1bbbbba, (b1bbbbbba, (b1bbbbbbba, (b1bbbbbbbba, (b1bbbbbbbbba, (b1bbbbbbbbbba, (b1bbbbbbbbbbba, (b1bbbbbbbbbbbba, (b1bbbbbbbbbbbbba, ())))))))))))))), (t3, ()))))) n v.2.1.1 v.2.1.2.1 v.2.1.2.2.1 v.2.1.2.2.2.1 v.2.1.2.2.2.2.1 v.2.1.2.2.2.2.2.1 v.2.1.2.2.2.2.2.2.1 v.2.1.2.2.2.2.2.2.2.1 v.2.1.2.2.2.2.2.2.2.2.1 v.2.1.2.2.2.2.2.2.2.2.2.1 v.2.1.2.2.2.2.2.2.2.2.2.2.1 v.2.1.2.2.2.2.2.2.2.2.2.2.2.1 v.2.1.2.2.2.2.2.2.2.2.2.2.2.2.1 v.2.1.2.2.2.2.2.2.2.2.2.2.2.2.2.1 v.2.2.1 v.2.2.2.1) (by kernel_rfl) (fun K v => by kernel_rfl) (fun K v => by kernel_rfl) (fun K n v => by kernel_rfl), ⟨⟨trivial, ⟨trivial, trivial⟩⟩, ⟨trivial, trivial⟩⟩⟩⟩, ⟨⟨trivial, ⟨loopOk_of H19_7 N (fun K n v => W19_7 N (fun t3 => K (.exit 2) (encH [(6, (.i .i64))] (t3, ()))) n v.2.1.1 v.2.1.2.1 v.2.1.2.2.1 v.2.1.2.2.2.1 v.2.1.2.2.2.2.1 v.2.1.2.2.2.2.2.1 v.2.1.2.2.2.2.2.2.1 v.2.1.2.2.2.2.2.2.2.1 v.2.1.2.2.2.2.2.2.2.2.1 v.2.1.2.2.2.2.2.2.2.2.2.1 v.2.1.2.2.2.2.2.2.2.2.2.2.1 v.2.1.2.2.2.2.2.2.2.2.2.2.2.1 v.2.1.2.2.2.2.2.2.2.2.2.2.2.2.1 v.2.1.2.2.2.2.2.2.2.2.2.2.2.2.2.1 v.2.2.1 v.2.2.2.1) (by kernel_rfl) (fun K v => by kernel_rfl) (fun K v => by kernel_rfl) (fun K n v => by kernel_rfl), ⟨⟨trivial, ⟨trivial, trivial⟩⟩, ⟨trivial, trivial⟩⟩⟩⟩, ⟨trivial, trivial⟩⟩⟩⟩⟩
theorem runs19 (N : Nat) (x : S19.ta.den) : run C19 S19 (L19 N) Go.Proofs.Tryd.f19 x = F19 N x.1 := by kernel_rfl

/-! ### 49: incognito/incognitoref09.OpName -/
def L49 (_ : Nat) : Loops (ByteArray × Unit) := fun _ _ _ => none
def F49 (N : Nat) (p0 : Int) : Option (ByteArray × Unit) :=
  bif (p0 == (1 : Int)) then
    some ((strL [119, 114, 105, 116, 101]), ())
  else
    bif (p0 == (2 : Int)) then
      some ((strL [114, 101, 97, 100]), ())
    else
      bif (p0 == (3 : Int)) then
        some ((strL [115, 119, 97, 112]), ())
      else
        bif (p0 == (4 : Int)) then
          some ((strL [97, 100, 100]), ())
        else
          bif (p0 == (5 : Int)) then
            some ((strL [100, 101, 108]), ())
          else
            bif (p0 == (6 : Int)) then
              some ((strL [104, 97, 115]), ())
            else
              bif (p0 == (7 : Int)) then
              some ((strL [112, 117, 116]), ())
            else
              bif (p0 == (8 : Int)) then
              some ((strL [103, 101, 116]), ())
            else
              bif (p0 == (9 : Int)) then
              some ((strL [112, 117, 115, 104]), ())
            else
              bif (p0 == (10 : Int)) then
              some ((strL [112, 111, 112]), ())
            else
              bif (p0 == (11 : Int)) then
              some ((strL [116, 97, 107, 101]), ())
            else
              bif (p0 == (12 : Int)) then
              some ((strL [102, 114, 101, 101]), ())
            else
              bif (p0 == (13 : Int)) then
              some ((strL [115, 99, 97, 110]), ())
            else
              some ((strL []), ())
theorem loops49 (N : Nat) : loopsOk C49 (L49 N) Go.Proofs.Tryd.f49 := ⟨trivial, ⟨⟨trivial, ⟨trivial, ⟨⟨trivial, trivial⟩, ⟨trivial, ⟨⟨trivial, trivial⟩, ⟨trivial, ⟨⟨trivial, trivial⟩, ⟨trivial, ⟨⟨trivial, trivial⟩, ⟨trivial, ⟨⟨trivial, trivial⟩, ⟨trivial, ⟨⟨trivial, trivial⟩, ⟨trivial, ⟨⟨trivial, trivial⟩, ⟨trivial, ⟨⟨trivial, trivial⟩, ⟨trivial, ⟨⟨trivial, trivial⟩, ⟨trivial, ⟨⟨trivial, trivial⟩, ⟨trivial, ⟨⟨trivial, trivial⟩, ⟨trivial, ⟨⟨trivial, trivial⟩, ⟨trivial, ⟨⟨trivial, trivial⟩, trivial⟩⟩⟩⟩⟩⟩⟩⟩⟩⟩⟩⟩⟩⟩⟩⟩⟩⟩⟩⟩⟩⟩⟩⟩⟩⟩⟩, ⟨trivial, trivial⟩⟩⟩
theorem runs49 (N : Nat) (x : S49.ta.den) : run C49 S49 (L49 N) Go.Proofs.Tryd.f49 x = F49 N x.1 := by kernel_rfl

/-! ### 31: incognito/incognitoref09.Outs -/
def W31_7 {β : Type} (N : Nat) (x0 : (List Int) → Bool → Option β) (x1 : (List Int) → Option β) : Nat → (List (Int × Int × ByteArray × Unit)) → (List Int) → Int → Option β
  | 0, _, _, _ => none
  | n + 1, t2, t9, t10 =>
  bif decide (t10 < (((List.length t2) : Nat) : Int)) then
    bif ((decide ((0 : Int) ≤ t10)) && (decide (t10 < (((List.length t2) : Nat) : Int)))) then
      bif (Go.Inc.okT (Go.IntKind.wrap .i64 ((4 : Int) - (Go.IntKind.wrap .i64 ((Int.tmod t10 (2 : Int)) * (2 : Int))))) (List.getD t2 (Int.toNat t10) ((0 : Int), ((0 : Int), (ByteArray.empty, ()))))) then
        bif (!(Go.Inc.takes (Go.IntKind.wrap .i64 ((4 : Int) - (Go.IntKind.wrap .i64 ((Int.tmod t10 (2 : Int)) * (2 : Int))))) (List.getD t2 (Int.toNat t10) ((0 : Int), ((0 : Int), (ByteArray.empty, ())))))) then
          x0 ([] : List Int) false
        else
          bif decide ((((List.length t9) + (List.length ((Go.IntKind.wrap .i64 ((4 : Int) - (Go.IntKind.wrap .i64 ((Int.tmod t10 (2 : Int)) * (2 : Int))))) :: ([] : List Int)))) * 8) ≤ 140737488351232) then
            W31_7 N x0 x1 n t2 (t9 ++ ((Go.IntKind.wrap .i64 ((4 : Int) - (Go.IntKind.wrap .i64 ((Int.tmod t10 (2 : Int)) * (2 : Int))))) :: ([] : List Int))) (Go.IntKind.wrap .i64 (t10 + (1 : Int)))
          else
            none
      else
        none
    else
      none
  else
    x1 t9
def L31 (N : Nat) : Loops ((List Int) × Bool × Unit) := fun k ρ K => match Nat.beq k 7 with
  | true => (match adH ρ H31_7.hd with
    | some v => W31_7 N (fun t6 t7 => K .ret (encH [(12, (.sl (.int .i64) .full)), (14, .bo)] (t6, (t7, ())))) (fun t9 => K (.exit 0) (encH [(18, (.sl (.int .i64) (.own 54)))] (t9, ()))) N v.1 v.2.1 v.2.2.1
    | none => none)
  | false => none
def F31 (N : Nat) (p0 : Int) (p1 : Int) (p2 : List (Int × Int × ByteArray × Unit)) : Option ((List Int) × Bool × Unit) :=
  bif (!(((((Go.Inc.signRef p0 p1).2).2).2).1)) then
    bif ((((Go.Inc.signRef p0 p1).2).2).2).1 then
      some (([] : List Int), (((((List.length p2) : Nat) : Int) == (0 : Int)), ()))
    else
      some (([] : List Int), (false, ()))
  else
    bif decide ((((Go.Inc.signRef p0 p1).2).1) < (0 : Int)) then
      bif ((((Go.Inc.signRef p0 p1).2).2).2).1 then
        some (([] : List Int), (((((List.length p2) : Nat) : Int) == (0 : Int)), ()))
      else
        some (([] : List Int), (false, ()))
    else
      bif ((((Go.Inc.signRef p0 p1).2).1) == (99 : Int)) then
        W31_7 N
          (fun t6 t7 =>
            some (t6, (t7, ())))
          (fun t9 =>
            bif ((Int.tmod (((List.length t9) : Nat) : Int) (2 : Int)) == (1 : Int)) then
              some (([] : List Int), (false, ()))
            else
              some (t9, (true, ())))
          N p2 ([] : List Int) (0 : Int)
      else
        bif ((((List.length p2) : Nat) : Int) != (1 : Int)) then
          some (([] : List Int), (false, ()))
        else
          bif ((decide ((0 : Int) ≤ (0 : Int))) && (decide ((0 : Int) < (((List.length p2) : Nat) : Int)))) then
            bif (Go.Inc.okT (((Go.Inc.signRef p0 p1).2).1) (List.getD p2 (Int.toNat (0 : Int)) ((0 : Int), ((0 : Int), (ByteArray.empty, ()))))) then
              bif (Go.Inc.takes (((Go.Inc.signRef p0 p1).2).1) (List.getD p2 (Int.toNat (0 : Int)) ((0 : Int), ((0 : Int), (ByteArray.empty, ()))))) then
              some (((((Go.Inc.signRef p0 p1).2).1) :: ([] : List Int)), (true, ()))
            else
              bif (((Go.Inc.signRef p0 p1).2).2).1 then
              bif ((decide ((0 : Int) ≤ (0 : Int))) && (decide ((0 : Int) < (((List.length p2) : Nat) : Int)))) then
              bif ((((List.getD p2 (Int.toNat (0 : Int)) ((0 : Int), ((0 : Int), (ByteArray.empty, ())))).1) == (0 : Int)) && (((((List.getD p2 (Int.toNat (0 : Int)) ((0 : Int), ((0 : Int), (ByteArray.empty, ())))).2).1) == (0 : Int)) && ((((((List.getD p2 (Int.toNat (0 : Int)) ((0 : Int), ((0 : Int), (ByteArray.empty, ())))).2).2).1) == ByteArray.empty) && true))) then
              some (((((Go.Inc.signRef p0 p1).2).1) :: ([] : List Int)), (true, ()))
            else
              some (([] : List Int), (false, ()))
            else
              none
            else
              some (([] : List Int), (false, ()))
            else
              none
          else
            none
theorem loops31 (N : Nat) : loopsOk C31 (L31 N) Go.Proofs.Tryd.f31 := ⟨trivial, ⟨trivial, ⟨⟨trivial, ⟨⟨trivial, trivial⟩, trivial⟩⟩, ⟨trivial, ⟨⟨trivial, ⟨⟨⟨trivial, ⟨loopOk_of H31_7 N (fun K n v => W31_7 N (fun t6 t7 => K .ret (encH [(12, (.sl (.int .i64) .full)), (14, .bo)] (t6, (t7, ())))) (fun t9 => K (.exit 0) (encH [(18, (.sl (.int .i64) (.own 54)))] (t9, ()))) n v.1 v.2.1 v.2.2.1) (by kernel_rfl) (fun K v => by kernel_rfl) (fun K v => by kernel_rfl) (fun K n v => by kernel_rfl), ⟨⟨trivial, ⟨trivial, trivial⟩⟩, ⟨⟨trivial, ⟨⟨trivial, ⟨⟨trivial, trivial⟩, trivial⟩⟩, trivial⟩⟩, trivial⟩⟩⟩⟩, ⟨⟨trivial, ⟨⟨trivial, trivial⟩, trivial⟩⟩, ⟨trivial, trivial⟩⟩⟩, trivial⟩⟩, ⟨⟨trivial, ⟨⟨trivial, trivial⟩, trivial⟩⟩, ⟨trivial, ⟨⟨trivial, ⟨⟨trivial, trivial⟩, trivial⟩⟩, ⟨trivial, trivial⟩⟩⟩⟩⟩⟩⟩⟩⟩
theorem runs31 (N : Nat) (x : S31.ta.den) : run C31 S31 (L31 N) Go.Proofs.Tryd.f31 x = F31 N x.1 x.2.1 x.2.2.1 := by kernel_rfl

/-! ### 15: incognito/incognitoref12.One -/
def L15 (_ : Nat) : Loops (Bool × Unit) := fun _ _ _ => none
def F15 (N : Nat) (p0 : (Int × Int × ByteArray × Unit) × Int × (Int × Int × ByteArray × Unit) × Int × (List (Int × Int × ByteArray × Unit)) × (List (Int × Int × ByteArray × Unit)) × Int × Int × Unit) (p1 : (Int × Int × ByteArray × Unit) × Int × (Int × Int × ByteArray × Unit) × Int × (List (Int × Int × ByteArray × Unit)) × (List (Int × Int × ByteArray × Unit)) × Int × Int × Unit) : Option (Bool × Unit) :=
  bif ((p0.1.1 == p1.1.1) && ((p0.1.2.1 == p1.1.2.1) && ((p0.1.2.2.1 == p1.1.2.2.1) && true))) then
    bif (p0.2.1 == p1.2.1) then
      bif ((p0.2.2.1.1 == p1.2.2.1.1) && ((p0.2.2.1.2.1 == p1.2.2.1.2.1) && ((p0.2.2.1.2.2.1 == p1.2.2.1.2.2.1) && true))) then
        bif (p0.2.2.2.1 == p1.2.2.2.1) then
          bif (Go.Inc.okSame2 p0.2.2.2.2.1 p1.2.2.2.2.1) then
            bif (Go.Inc.sameV p0.2.2.2.2.1 p1.2.2.2.2.1) then
              bif (Go.Inc.okSame2 p0.2.2.2.2.2.1 p1.2.2.2.2.2.1) then
              bif (Go.Inc.sameV p0.2.2.2.2.2.1 p1.2.2.2.2.2.1) then
              bif (p0.2.2.2.2.2.2.1 == p1.2.2.2.2.2.2.1) then
              some ((p0.2.2.2.2.2.2.2.1 == p1.2.2.2.2.2.2.2.1), ())
            else
              some (false, ())
            else
              some (false, ())
            else
              none
            else
              some (false, ())
          else
            none
        else
          some (false, ())
      else
        some (false, ())
    else
      some (false, ())
  else
    some (false, ())
theorem loops15 (N : Nat) : loopsOk C15 (L15 N) Go.Proofs.Tryd.f15 := ⟨trivial, ⟨trivial, trivial⟩⟩
theorem runs15 (N : Nat) (x : S15.ta.den) : run C15 S15 (L15 N) Go.Proofs.Tryd.f15 x = F15 N x.1 x.2.1 := by kernel_rfl

/-! ### 5: incognito/incognitolaw12.PairTurns -/
def W5_14 {β : Type} (N : Nat) (x0 : Bool → Option β) (x3 : (List (Int × (Int × Int × ByteArray × Unit) × Int × Int × (Int × Int × ByteArray × Unit) × Int × (List (Int × Int × ByteArray × Unit)) × (List (Int × Int × ByteArray × Unit)) × Bool × ByteArray × Unit)) → (List ((Int × Int × ByteArray × Unit) × Int × (Int × Int × ByteArray × Unit) × Int × (List (Int × Int × ByteArray × Unit)) × (List (Int × Int × ByteArray × Unit)) × Int × Int × Unit)) → (List ((Int × Int × ByteArray × Unit) × Int × (Int × Int × ByteArray × Unit) × Int × (List (Int × Int × ByteArray × Unit)) × (List (Int × Int × ByteArray × Unit)) × Int × Int × Unit)) → Int → Int → Option β) : Nat → (List (Int × (Int × Int × ByteArray × Unit) × Int × Int × (Int × Int × ByteArray × Unit) × Int × (List (Int × Int × ByteArray × Unit)) × (List (Int × Int × ByteArray × Unit)) × Bool × ByteArray × Unit)) → (List ((Int × Int × ByteArray × Unit) × Int × (Int × Int × ByteArray × Unit) × Int × (List (Int × Int × ByteArray × Unit)) × (List (Int × Int × ByteArray × Unit)) × Int × Int × Unit)) → Int → Int → ByteArray → Int → Int → Int → ByteArray → Int → (List (Int × Int × ByteArray × Unit)) → (List (Int × Int × ByteArray × Unit)) → Int → Int → (List ((Int × Int × ByteArray × Unit) × Int × (Int × Int × ByteArray × Unit) × Int × (List (Int × Int × ByteArray × Unit)) × (List (Int × Int × ByteArray × Unit)) × Int × Int × Unit)) → Int → Int → (List ((Int × Int × ByteArray × Unit) × Int × (Int × Int × ByteArray × Unit) × Int × (List (Int × Int × ByteArray × Unit)) × (List (Int × Int × ByteArray × Unit)) × Int × Int × Unit)) → Int → Int → Option β
  | 0, _, _, _, _, _, _, _, _, _, _, _, _, _, _, _, _, _, _, _, _ => none
  | n + 1, t0, t3, b6a, b6ba, b6bba, b6bbba, b6bbbba, b6bbbbba, b6bbbbbba, b6bbbbbbba, b6bbbbbbbba, b6bbbbbbbbba, b6bbbbbbbbbba, b6bbbbbbbbbbba, t24, t25, t26, t78, t79, t80 =>
  bif decide (t80 < t79) then
    bif ((decide ((0 : Int) ≤ t80)) && (decide (t80 < (((List.length t78) : Nat) : Int)))) then
      bif ((b6a == (((List.getD t78 (Int.toNat t80) (((0 : Int), ((0 : Int), (ByteArray.empty, ()))), ((0 : Int), (((0 : Int), ((0 : Int), (ByteArray.empty, ()))), ((0 : Int), ([], ([], ((0 : Int), ((0 : Int), ()))))))))).1).1)) && ((b6ba == ((((List.getD t78 (Int.toNat t80) (((0 : Int), ((0 : Int), (ByteArray.empty, ()))), ((0 : Int), (((0 : Int), ((0 : Int), (ByteArray.empty, ()))), ((0 : Int), ([], ([], ((0 : Int), ((0 : Int), ()))))))))).1).2).1)) && ((b6bba == (((((List.getD t78 (Int.toNat t80) (((0 : Int), ((0 : Int), (ByteArray.empty, ()))), ((0 : Int), (((0 : Int), ((0 : Int), (ByteArray.empty, ()))), ((0 : Int), ([], ([], ((0 : Int), ((0 : Int), ()))))))))).1).2).2).1)) && true))) then
        bif decide (b6bbbbbbbbbbba < (0 : Int)) then
          x0 false
        else
          bif decide (b6bbbbbbbbbbba ≥ ((((((((List.getD t78 (Int.toNat t80) (((0 : Int), ((0 : Int), (ByteArray.empty, ()))), ((0 : Int), (((0 : Int), ((0 : Int), (ByteArray.empty, ()))), ((0 : Int), ([], ([], ((0 : Int), ((0 : Int), ()))))))))).2).2).2).2).2).2).1)) then
            x0 false
          else
            W5_14 N x0 x3 n t0 t3 b6a b6ba b6bba b6bbba b6bbbba b6bbbbba b6bbbbbba b6bbbbbbba b6bbbbbbbba b6bbbbbbbbba b6bbbbbbbbbba b6bbbbbbbbbbba t24 t25 t26 t78 t79 (Go.IntKind.wrap .i64 (t80 + (1 : Int)))
      else
        W5_14 N x0 x3 n t0 t3 b6a b6ba b6bba b6bbba b6bbbba b6bbbbba b6bbbbbba b6bbbbbbba b6bbbbbbbba b6bbbbbbbbba b6bbbbbbbbbba b6bbbbbbbbbbba t24 t25 t26 t78 t79 (Go.IntKind.wrap .i64 (t80 + (1 : Int)))
    else
      none
  else
    x3 t0 t3 t24 t25 t26
def W5_9 {β : Type} (N : Nat) (x0 : Bool → Option β) (x1 : Unit → Option β) : Nat → (List (Int × (Int × Int × ByteArray × Unit) × Int × Int × (Int × Int × ByteArray × Unit) × Int × (List (Int × Int × ByteArray × Unit)) × (List (Int × Int × ByteArray × Unit)) × Bool × ByteArray × Unit)) → (List ((Int × Int × ByteArray × Unit) × Int × (Int × Int × ByteArray × Unit) × Int × (List (Int × Int × ByteArray × Unit)) × (List (Int × Int × ByteArray × Unit)) × Int × Int × Unit)) → (List ((Int × Int × ByteArray × Unit) × Int × (Int × Int × ByteArray × Unit) × Int × (List (Int × Int × ByteArray × Unit)) × (List (Int × Int × ByteArray × Unit)) × Int × Int × Unit)) → Int → Int → Option β
  | 0, _, _, _, _, _ => none
  | n + 1, t0, t3, t24, t25, t26 =>
  bif decide (t26 < t25) then
    bif ((decide ((0 : Int) ≤ t26)) && (decide (t26 < (((List.length t24) : Nat) : Int)))) then
      bif decide (((((((((List.getD t24 (Int.toNat t26) (((0 : Int), ((0 : Int), (ByteArray.empty, ()))), ((0 : Int), (((0 : Int), ((0 : Int), (ByteArray.empty, ()))), ((0 : Int), ([], ([], ((0 : Int), ((0 : Int), ()))))))))).2).2).2).2).2).2).1) < (0 : Int)) then
        x0 false
      else
        bif decide (((((((((List.getD t24 (Int.toNat t26) (((0 : Int), ((0 : Int), (ByteArray.empty, ()))), ((0 : Int), (((0 : Int), ((0 : Int), (ByteArray.empty, ()))), ((0 : Int), ([], ([], ((0 : Int), ((0 : Int), ()))))))))).2).2).2).2).2).2).1) ≥ (((List.length t0) : Nat) : Int)) then
          x0 false
        else
          bif ((((((((((List.getD t24 (Int.toNat t26) (((0 : Int), ((0 : Int), (ByteArray.empty, ()))), ((0 : Int), (((0 : Int), ((0 : Int), (ByteArray.empty, ()))), ((0 : Int), ([], ([], ((0 : Int), ((0 : Int), ()))))))))).2).2).2).2).2).2).2).1) != (-(1 : Int))) then
            bif decide ((((((((((List.getD t24 (Int.toNat t26) (((0 : Int), ((0 : Int), (ByteArray.empty, ()))), ((0 : Int), (((0 : Int), ((0 : Int), (ByteArray.empty, ()))), ((0 : Int), ([], ([], ((0 : Int), ((0 : Int), ()))))))))).2).2).2).2).2).2).2).1) ≤ ((((((((List.getD t24 (Int.toNat t26) (((0 : Int), ((0 : Int), (ByteArray.empty, ()))), ((0 : Int), (((0 : Int), ((0 : Int), (ByteArray.empty, ()))), ((0 : Int), ([], ([], ((0 : Int), ((0 : Int), ()))))))))).2).2).2).2).2).2).1)) then
              x0 false
            else
              bif decide ((((((((((List.getD t24 (Int.toNat t26) (((0 : Int), ((0 : Int), (ByteArray.empty, ()))), ((0 : Int), (((0 : Int), ((0 : Int), (ByteArray.empty, ()))), ((0 : Int), ([], ([], ((0 : Int), ((0 : Int), ()))))))))).2).2).2).2).2).2).2).1) ≥ (((List.length t0) : Nat) : Int)) then
              x0 false
            else
              bif decide (t26 > (0 : Int)) then
              bif ((decide ((0 : Int) ≤ (Go.IntKind.wrap .i64 (t26 - (1 : Int))))) && (decide ((Go.IntKind.wrap .i64 (t26 - (1 : Int))) < (((List.length t3) : Nat) : Int)))) then
              bif decide (((((((((List.getD t3 (Int.toNat (Go.IntKind.wrap .i64 (t26 - (1 : Int)))) (((0 : Int), ((0 : Int), (ByteArray.empty, ()))), ((0 : Int), (((0 : Int), ((0 : Int), (ByteArray.empty, ()))), ((0 : Int), ([], ([], ((0 : Int), ((0 : Int), ()))))))))).2).2).2).2).2).2).1) ≥ ((((((((List.getD t24 (Int.toNat t26) (((0 : Int), ((0 : Int), (ByteArray.empty, ()))), ((0 : Int), (((0 : Int), ((0 : Int), (ByteArray.empty, ()))), ((0 : Int), ([], ([], ((0 : Int), ((0 : Int), ()))))))))).2).2).2).2).2).2).1)) then
              x0 false
            else
              bif ((decide ((0 : Int) ≤ (Go.IntKind.wrap .i64 (t26 + (1 : Int))))) && ((decide ((Go.IntKind.wrap .i64 (t26 + (1 : Int))) ≤ (((List.length t3) : Nat) : Int))) && (decide ((((List.length t3) : Nat) : Int) ≤ (((List.length t3) : Nat) : Int))))) then
              W5_14 N
              (fun t2 =>
                x0 t2)
              (fun t0 t3 t24 t25 t26 =>
                W5_9 N x0 x1 n t0 t3 t24 t25 (Go.IntKind.wrap .i64 (t26 + (1 : Int))))
              N t0 t3 (((List.getD t24 (Int.toNat t26) (((0 : Int), ((0 : Int), (ByteArray.empty, ()))), ((0 : Int), (((0 : Int), ((0 : Int), (ByteArray.empty, ()))), ((0 : Int), ([], ([], ((0 : Int), ((0 : Int), ()))))))))).1).1) ((((List.getD t24 (Int.toNat t26) (((0 : Int), ((0 : Int), (ByteArray.empty, ()))), ((0 : Int), (((0 : Int), ((0 : Int), (ByteArray.empty, ()))), ((0 : Int), ([], ([], ((0 : Int), ((0 : Int), ()))))))))).1).2).1) (((((List.getD t24 (Int.toNat t26) (((0 : Int), ((0 : Int), (ByteArray.empty, ()))), ((0 : Int), (((0 : Int), ((0 : Int), (ByteArray.empty, ()))), ((0 : Int), ([], ([], ((0 : Int), ((0 : Int), ()))))))))).1).2).2).1) (((List.getD t24 (Int.toNat t26) (((0 : Int), ((0 : Int), (ByteArray.empty, ()))), ((0 : Int), (((0 : Int), ((0 : Int), (ByteArray.empty, ()))), ((0 : Int), ([], ([], ((0 : Int), ((0 : Int), ()))))))))).2).1) (((((List.getD t24 (Int.toNat t26) (((0 : Int), ((0 : Int), (ByteArray.empty, ()))), ((0 : Int), (((0 : Int), ((0 : Int), (ByteArray.empty, ()))), ((0 : Int), ([], ([], ((0 : Int), ((0 : Int), ()))))))))).2).2).1).1) ((((((List.getD t24 (Int.toNat t26) (((0 : Int), ((0 : Int), (ByteArray.empty, ()))), ((0 : Int), (((0 : Int), ((0 : Int), (ByteArray.empty, ()))), ((0 : Int), ([], ([], ((0 : Int), ((0 : Int), ()))))))))).2).2).1).2).1) (((((((List.getD t24 (Int.toNat t26) (((0 : Int), ((0 : Int), (ByteArray.empty, ()))), ((0 : Int), (((0 : Int), ((0 : Int), (ByteArray.empty, ()))), ((0 : Int), ([], ([], ((0 : Int), ((0 : Int), ()))))))))).2).2).1).2).2).1) (((((List.getD t24 (Int.toNat t26) (((0 : Int), ((0 : Int), (ByteArray.empty, ()))), ((0 : Int), (((0 : Int), ((0 : Int), (ByteArray.empty, ()))), ((0 : Int), ([], ([], ((0 : Int), ((0 : Int), ()))))))))).2).2).2).1) ((((((List.getD t24 (Int.toNat t26) (((0 : Int), ((0 : Int), (ByteArray.empty, ()))), ((0 : Int), (((0 : Int), ((0 : Int), (ByteArray.empty, ()))), ((0 : Int), ([], ([], ((0 : Int), ((0 : Int), ()))))))))).2).2).2).2).1) (((((((List.getD t24 (Int.toNat t26) (((0 : Int), ((0 : Int), (ByteArray.empty, ()))), ((0 : Int), (((0 : Int), ((0 : Int), (ByteArray.empty, ()))), ((0 : Int), ([], ([], ((0 : Int), ((0 : Int), ()))))))))).2).2).2).2).2).1) ((((((((List.getD t24 (Int.toNat t26) (((0 : Int), ((0 : Int), (ByteArray.empty, ()))), ((0 : Int), (((0 : Int), ((0 : Int), (ByteArray.empty, ()))), ((0 : Int), ([], ([], ((0 : Int), ((0 : Int), ()))))))))).2).2).2).2).2).2).1) (((((((((List.getD t24 (Int.toNat t26) (((0 : Int), ((0 : Int), (ByteArray.empty, ()))), ((0 : Int), (((0 : Int), ((0 : Int), (ByteArray.empty, ()))), ((0 : Int), ([], ([], ((0 : Int), ((0 : Int), ()))))))))).2).2).2).2).2).2).2).1) t24 t25 t26 (Go.Abs.sub t3 (Go.IntKind.wrap .i64 (t26 + (1 : Int))) (((List.length t3) : Nat) : Int)) (((List.length (Go.Abs.sub t3 (Go.IntKind.wrap .i64 (t26 + (1 : Int))) (((List.length t3) : Nat) : Int))) : Nat) : Int) (0 : Int)
            else
              none
            else
              none
            else
              bif ((decide ((0 : Int) ≤ (Go.IntKind.wrap .i64 (t26 + (1 : Int))))) && ((decide ((Go.IntKind.wrap .i64 (t26 + (1 : Int))) ≤ (((List.length t3) : Nat) : Int))) && (decide ((((List.length t3) : Nat) : Int) ≤ (((List.length t3) : Nat) : Int))))) then
              W5_14 N
              (fun t2 =>
                x0 t2)
              (fun t0 t3 t24 t25 t26 =>
                W5_9 N x0 x1 n t0 t3 t24 t25 (Go.IntKind.wrap .i64 (t26 + (1 : Int))))
              N t0 t3 (((List.getD t24 (Int.toNat t26) (((0 : Int), ((0 : Int), (ByteArray.empty, ()))), ((0 : Int), (((0 : Int), ((0 : Int), (ByteArray.empty, ()))), ((0 : Int), ([], ([], ((0 : Int), ((0 : Int), ()))))))))).1).1) ((((List.getD t24 (Int.toNat t26) (((0 : Int), ((0 : Int), (ByteArray.empty, ()))), ((0 : Int), (((0 : Int), ((0 : Int), (ByteArray.empty, ()))), ((0 : Int), ([], ([], ((0 : Int), ((0 : Int), ()))))))))).1).2).1) (((((List.getD t24 (Int.toNat t26) (((0 : Int), ((0 : Int), (ByteArray.empty, ()))), ((0 : Int), (((0 : Int), ((0 : Int), (ByteArray.empty, ()))), ((0 : Int), ([], ([], ((0 : Int), ((0 : Int), ()))))))))).1).2).2).1) (((List.getD t24 (Int.toNat t26) (((0 : Int), ((0 : Int), (ByteArray.empty, ()))), ((0 : Int), (((0 : Int), ((0 : Int), (ByteArray.empty, ()))), ((0 : Int), ([], ([], ((0 : Int), ((0 : Int), ()))))))))).2).1) (((((List.getD t24 (Int.toNat t26) (((0 : Int), ((0 : Int), (ByteArray.empty, ()))), ((0 : Int), (((0 : Int), ((0 : Int), (ByteArray.empty, ()))), ((0 : Int), ([], ([], ((0 : Int), ((0 : Int), ()))))))))).2).2).1).1) ((((((List.getD t24 (Int.toNat t26) (((0 : Int), ((0 : Int), (ByteArray.empty, ()))), ((0 : Int), (((0 : Int), ((0 : Int), (ByteArray.empty, ()))), ((0 : Int), ([], ([], ((0 : Int), ((0 : Int), ()))))))))).2).2).1).2).1) (((((((List.getD t24 (Int.toNat t26) (((0 : Int), ((0 : Int), (ByteArray.empty, ()))), ((0 : Int), (((0 : Int), ((0 : Int), (ByteArray.empty, ()))), ((0 : Int), ([], ([], ((0 : Int), ((0 : Int), ()))))))))).2).2).1).2).2).1) (((((List.getD t24 (Int.toNat t26) (((0 : Int), ((0 : Int), (ByteArray.empty, ()))), ((0 : Int), (((0 : Int), ((0 : Int), (ByteArray.empty, ()))), ((0 : Int), ([], ([], ((0 : Int), ((0 : Int), ()))))))))).2).2).2).1) ((((((List.getD t24 (Int.toNat t26) (((0 : Int), ((0 : Int), (ByteArray.empty, ()))), ((0 : Int), (((0 : Int), ((0 : Int), (ByteArray.empty, ()))), ((0 : Int), ([], ([], ((0 : Int), ((0 : Int), ()))))))))).2).2).2).2).1) (((((((List.getD t24 (Int.toNat t26) (((0 : Int), ((0 : Int), (ByteArray.empty, ()))), ((0 : Int), (((0 : Int), ((0 : Int), (ByteArray.empty, ()))), ((0 : Int), ([], ([], ((0 : Int), ((0 : Int), ()))))))))).2).2).2).2).2).1) ((((((((List.getD t24 (Int.toNat t26) (((0 : Int), ((0 : Int), (ByteArray.empty, ()))), ((0 : Int), (((0 : Int), ((0 : Int), (ByteArray.empty, ()))), ((0 : Int), ([], ([], ((0 : Int), ((0 : Int), ()))))))))).2).2).2).2).2).2).1) (((((((((List.getD t24 (Int.toNat t26) (((0 : Int), ((0 : Int), (ByteArray.empty, ()))), ((0 : Int), (((0 : Int), ((0 : Int), (ByteArray.empty, ()))), ((0 : Int), ([], ([], ((0 : Int), ((0 : Int), ()))))))))).2).2).2).2).2).2).2).1) t24 t25 t26 (Go.Abs.sub t3 (Go.IntKind.wrap .i64 (t26 + (1 : Int))) (((List.length t3) : Nat) : Int)) (((List.length (Go.Abs.sub t3 (Go.IntKind.wrap .i64 (t26 + (1 : Int))) (((List.length t3) : Nat) : Int))) : Nat) : Int) (0 : Int)
            else
              none
          else
            bif decide (t26 > (0 : Int)) then
              bif ((decide ((0 : Int) ≤ (Go.IntKind.wrap .i64 (t26 - (1 : Int))))) && (decide ((Go.IntKind.wrap .i64 (t26 - (1 : Int))) < (((List.length t3) : Nat) : Int)))) then
              bif decide (((((((((List.getD t3 (Int.toNat (Go.IntKind.wrap .i64 (t26 - (1 : Int)))) (((0 : Int), ((0 : Int), (ByteArray.empty, ()))), ((0 : Int), (((0 : Int), ((0 : Int), (ByteArray.empty, ()))), ((0 : Int), ([], ([], ((0 : Int), ((0 : Int), ()))))))))).2).2).2).2).2).2).1) ≥ ((((((((List.getD t24 (Int.toNat t26) (((0 : Int), ((0 : Int), (ByteArray.empty, ()))), ((0 : Int), (((0 : Int), ((0 : Int), (ByteArray.empty, ()))), ((0 : Int), ([], ([], ((0 : Int), ((0 : Int), ()))))))))).2).2).2).2).2).2).1)) then
              x0 false
            else
              bif ((decide ((0 : Int) ≤ (Go.IntKind.wrap .i64 (t26 + (1 : Int))))) && ((decide ((Go.IntKind.wrap .i64 (t26 + (1 : Int))) ≤ (((List.length t3) : Nat) : Int))) && (decide ((((List.length t3) : Nat) : Int) ≤ (((List.length t3) : Nat) : Int))))) then
              W5_14 N
              (fun t2 =>
                x0 t2)
              (fun t0 t3 t24 t25 t26 =>
                W5_9 N x0 x1 n t0 t3 t24 t25 (Go.IntKind.wrap .i64 (t26 + (1 : Int))))
              N t0 t3 (((List.getD t24 (Int.toNat t26) (((0 : Int), ((0 : Int), (ByteArray.empty, ()))), ((0 : Int), (((0 : Int), ((0 : Int), (ByteArray.empty, ()))), ((0 : Int), ([], ([], ((0 : Int), ((0 : Int), ()))))))))).1).1) ((((List.getD t24 (Int.toNat t26) (((0 : Int), ((0 : Int), (ByteArray.empty, ()))), ((0 : Int), (((0 : Int), ((0 : Int), (ByteArray.empty, ()))), ((0 : Int), ([], ([], ((0 : Int), ((0 : Int), ()))))))))).1).2).1) (((((List.getD t24 (Int.toNat t26) (((0 : Int), ((0 : Int), (ByteArray.empty, ()))), ((0 : Int), (((0 : Int), ((0 : Int), (ByteArray.empty, ()))), ((0 : Int), ([], ([], ((0 : Int), ((0 : Int), ()))))))))).1).2).2).1) (((List.getD t24 (Int.toNat t26) (((0 : Int), ((0 : Int), (ByteArray.empty, ()))), ((0 : Int), (((0 : Int), ((0 : Int), (ByteArray.empty, ()))), ((0 : Int), ([], ([], ((0 : Int), ((0 : Int), ()))))))))).2).1) (((((List.getD t24 (Int.toNat t26) (((0 : Int), ((0 : Int), (ByteArray.empty, ()))), ((0 : Int), (((0 : Int), ((0 : Int), (ByteArray.empty, ()))), ((0 : Int), ([], ([], ((0 : Int), ((0 : Int), ()))))))))).2).2).1).1) ((((((List.getD t24 (Int.toNat t26) (((0 : Int), ((0 : Int), (ByteArray.empty, ()))), ((0 : Int), (((0 : Int), ((0 : Int), (ByteArray.empty, ()))), ((0 : Int), ([], ([], ((0 : Int), ((0 : Int), ()))))))))).2).2).1).2).1) (((((((List.getD t24 (Int.toNat t26) (((0 : Int), ((0 : Int), (ByteArray.empty, ()))), ((0 : Int), (((0 : Int), ((0 : Int), (ByteArray.empty, ()))), ((0 : Int), ([], ([], ((0 : Int), ((0 : Int), ()))))))))).2).2).1).2).2).1) (((((List.getD t24 (Int.toNat t26) (((0 : Int), ((0 : Int), (ByteArray.empty, ()))), ((0 : Int), (((0 : Int), ((0 : Int), (ByteArray.empty, ()))), ((0 : Int), ([], ([], ((0 : Int), ((0 : Int), ()))))))))).2).2).2).1) ((((((List.getD t24 (Int.toNat t26) (((0 : Int), ((0 : Int), (ByteArray.empty, ()))), ((0 : Int), (((0 : Int), ((0 : Int), (ByteArray.empty, ()))), ((0 : Int), ([], ([], ((0 : Int), ((0 : Int), ()))))))))).2).2).2).2).1) (((((((List.getD t24 (Int.toNat t26) (((0 : Int), ((0 : Int), (ByteArray.empty, ()))), ((0 : Int), (((0 : Int), ((0 : Int), (ByteArray.empty, ()))), ((0 : Int), ([], ([], ((0 : Int), ((0 : Int), ()))))))))).2).2).2).2).2).1) ((((((((List.getD t24 (Int.toNat t26) (((0 : Int), ((0 : Int), (ByteArray.empty, ()))), ((0 : Int), (((0 : Int), ((0 : Int), (ByteArray.empty, ()))), ((0 : Int), ([], ([], ((0 : Int), ((0 : Int), ()))))))))).2).2).2).2).2).2).1) (((((((((List.getD t24 (Int.toNat t26) (((0 : Int), ((0 : Int), (ByteArray.empty, ()))), ((0 : Int), (((0 : Int), ((0 : Int), (ByteArray.empty, ()))), ((0 : Int), ([], ([], ((0 : Int), ((0 : Int), ()))))))))).2).2).2).2).2).2).2).1) t24 t25 t26 (Go.Abs.sub t3 (Go.IntKind.wrap .i64 (t26 + (1 : Int))) (((List.length t3) : Nat) : Int)) (((List.length (Go.Abs.sub t3 (Go.IntKind.wrap .i64 (t26 + (1 : Int))) (((List.length t3) : Nat) : Int))) : Nat) : Int) (0 : Int)
            else
              none
            else
              none
            else
              bif ((decide ((0 : Int) ≤ (Go.IntKind.wrap .i64 (t26 + (1 : Int))))) && ((decide ((Go.IntKind.wrap .i64 (t26 + (1 : Int))) ≤ (((List.length t3) : Nat) : Int))) && (decide ((((List.length t3) : Nat) : Int) ≤ (((List.length t3) : Nat) : Int))))) then
              W5_14 N
              (fun t2 =>
                x0 t2)
              (fun t0 t3 t24 t25 t26 =>
                W5_9 N x0 x1 n t0 t3 t24 t25 (Go.IntKind.wrap .i64 (t26 + (1 : Int))))
              N t0 t3 (((List.getD t24 (Int.toNat t26) (((0 : Int), ((0 : Int), (ByteArray.empty, ()))), ((0 : Int), (((0 : Int), ((0 : Int), (ByteArray.empty, ()))), ((0 : Int), ([], ([], ((0 : Int), ((0 : Int), ()))))))))).1).1) ((((List.getD t24 (Int.toNat t26) (((0 : Int), ((0 : Int), (ByteArray.empty, ()))), ((0 : Int), (((0 : Int), ((0 : Int), (ByteArray.empty, ()))), ((0 : Int), ([], ([], ((0 : Int), ((0 : Int), ()))))))))).1).2).1) (((((List.getD t24 (Int.toNat t26) (((0 : Int), ((0 : Int), (ByteArray.empty, ()))), ((0 : Int), (((0 : Int), ((0 : Int), (ByteArray.empty, ()))), ((0 : Int), ([], ([], ((0 : Int), ((0 : Int), ()))))))))).1).2).2).1) (((List.getD t24 (Int.toNat t26) (((0 : Int), ((0 : Int), (ByteArray.empty, ()))), ((0 : Int), (((0 : Int), ((0 : Int), (ByteArray.empty, ()))), ((0 : Int), ([], ([], ((0 : Int), ((0 : Int), ()))))))))).2).1) (((((List.getD t24 (Int.toNat t26) (((0 : Int), ((0 : Int), (ByteArray.empty, ()))), ((0 : Int), (((0 : Int), ((0 : Int), (ByteArray.empty, ()))), ((0 : Int), ([], ([], ((0 : Int), ((0 : Int), ()))))))))).2).2).1).1) ((((((List.getD t24 (Int.toNat t26) (((0 : Int), ((0 : Int), (ByteArray.empty, ()))), ((0 : Int), (((0 : Int), ((0 : Int), (ByteArray.empty, ()))), ((0 : Int), ([], ([], ((0 : Int), ((0 : Int), ()))))))))).2).2).1).2).1) (((((((List.getD t24 (Int.toNat t26) (((0 : Int), ((0 : Int), (ByteArray.empty, ()))), ((0 : Int), (((0 : Int), ((0 : Int), (ByteArray.empty, ()))), ((0 : Int), ([], ([], ((0 : Int), ((0 : Int), ()))))))))).2).2).1).2).2).1) (((((List.getD t24 (Int.toNat t26) (((0 : Int), ((0 : Int), (ByteArray.empty, ()))), ((0 : Int), (((0 : Int), ((0 : Int), (ByteArray.empty, ()))), ((0 : Int), ([], ([], ((0 : Int), ((0 : Int), ()))))))))).2).2).2).1) ((((((List.getD t24 (Int.toNat t26) (((0 : Int), ((0 : Int), (ByteArray.empty, ()))), ((0 : Int), (((0 : Int), ((0 : Int), (ByteArray.empty, ()))), ((0 : Int), ([], ([], ((0 : Int), ((0 : Int), ()))))))))).2).2).2).2).1) (((((((List.getD t24 (Int.toNat t26) (((0 : Int), ((0 : Int), (ByteArray.empty, ()))), ((0 : Int), (((0 : Int), ((0 : Int), (ByteArray.empty, ()))), ((0 : Int), ([], ([], ((0 : Int), ((0 : Int), ()))))))))).2).2).2).2).2).1) ((((((((List.getD t24 (Int.toNat t26) (((0 : Int), ((0 : Int), (ByteArray.empty, ()))), ((0 : Int), (((0 : Int), ((0 : Int), (ByteArray.empty, ()))), ((0 : Int), ([], ([], ((0 : Int), ((0 : Int), ()))))))))).2).2).2).2).2).2).1) (((((((((List.getD t24 (Int.toNat t26) (((0 : Int), ((0 : Int), (ByteArray.empty, ()))), ((0 : Int), (((0 : Int), ((0 : Int), (ByteArray.empty, ()))), ((0 : Int), ([], ([], ((0 : Int), ((0 : Int), ()))))))))).2).2).2).2).2).2).2).1) t24 t25 t26 (Go.Abs.sub t3 (Go.IntKind.wrap .i64 (t26 + (1 : Int))) (((List.length t3) : Nat) : Int)) (((List.length (Go.Abs.sub t3 (Go.IntKind.wrap .i64 (t26 + (1 : Int))) (((List.length t3) : Nat) : Int))) : Nat) : Int) (0 : Int)
            else
              none
    else
      none
  else
    x1 ()
def L5 (N : Nat) : Loops (Bool × Unit) := fun k ρ K => match Nat.beq k 14 with
  | true => (match adH ρ H5_14.hd with
    | some v => W5_14 N (fun t2 => K .ret (encH [(4, .bo)] (t2, ()))) (fun t0 t3 t24 t25 t26 => K (.exit 2) (encH [(0, (.sl (.pr (.int .i64) (.pr (.pr (.int .i64) (.pr (.int .i64) (.pr .str .un))) (.pr (.int .i64) (.pr (.int .i64) (.pr (.pr (.int .i64) (.pr (.int .i64) (.pr .str .un))) (.pr (.int .i64) (.pr (.sl (.pr (.int .i64) (.pr (.int .i64) (.pr .str .un)))) (.pr (.sl (.pr (.int .i64) (.pr (.int .i64) (.pr .str .un)))) (.pr .bool (.pr .str .un)))))))))) .no)), (6, (.sl (.pr (.pr (.int .i64) (.pr (.int .i64) (.pr .str .un))) (.pr (.int .i64) (.pr (.pr (.int .i64) (.pr (.int .i64) (.pr .str .un))) (.pr (.int .i64) (.pr (.sl (.pr (.int .i64) (.pr (.int .i64) (.pr .str .un)))) (.pr (.sl (.pr (.int .i64) (.pr (.int .i64) (.pr .str .un)))) (.pr (.int .i64) (.pr (.int .i64) .un)))))))) .no)), (48, (.sl (.pr (.pr (.int .i64) (.pr (.int .i64) (.pr .str .un))) (.pr (.int .i64) (.pr (.pr (.int .i64) (.pr (.int .i64) (.pr .str .un))) (.pr (.int .i64) (.pr (.sl (.pr (.int .i64) (.pr (.int .i64) (.pr .str .un)))) (.pr (.sl (.pr (.int .i64) (.pr (.int .i64) (.pr .str .un)))) (.pr (.int .i64) (.pr (.int .i64) .un)))))))) .no)), (50, (.i .i64)), (52, (.i .i64))] (t0, (t3, (t24, (t25, (t26, ()))))))) N v.1 v.2.1 v.2.2.2.1.1 v.2.2.2.1.2.1 v.2.2.2.1.2.2.1 v.2.2.2.1.2.2.2.1 v.2.2.2.1.2.2.2.2.1 v.2.2.2.1.2.2.2.2.2.1 v.2.2.2.1.2.2.2.2.2.2.1 v.2.2.2.1.2.2.2.2.2.2.2.1 v.2.2.2.1.2.2.2.2.2.2.2.2.1 v.2.2.2.1.2.2.2.2.2.2.2.2.2.1 v.2.2.2.1.2.2.2.2.2.2.2.2.2.2.1 v.2.2.2.1.2.2.2.2.2.2.2.2.2.2.2.1 v.2.2.2.2.1 v.2.2.2.2.2.1 v.2.2.2.2.2.2.1 v.2.2.2.2.2.2.2.1 v.2.2.2.2.2.2.2.2.1 v.2.2.2.2.2.2.2.2.2.1
    | none => none)
  | false => match Nat.beq k 9 with
  | true => (match adH ρ H5_9.hd with
    | some v => W5_9 N (fun t2 => K .ret (encH [(4, .bo)] (t2, ()))) (fun _ => K (.exit 0) (encH [] ())) N v.1 v.2.1 v.2.2.1 v.2.2.2.1 v.2.2.2.2.1
    | none => none)
  | false => none
def F5 (N : Nat) (p0 : List (Int × (Int × Int × ByteArray × Unit) × Int × Int × (Int × Int × ByteArray × Unit) × Int × (List (Int × Int × ByteArray × Unit)) × (List (Int × Int × ByteArray × Unit)) × Bool × ByteArray × Unit)) : Option (Bool × Unit) :=
  bif (Go.Inc.okGH p0 (60 : Int)) then
    bif (Go.Inc.greatH p0 (60 : Int)) then
      some (true, ())
    else
      bif (Go.Inc.okAll p0) then
        bif (((((Go.Inc.pairOpers p0).2).1).1) != (0 : Int)) then
          some (((((List.length ((Go.Inc.pairOpers p0).1)) : Nat) : Int) == (0 : Int)), ())
        else
          W5_9 N
            (fun t2 =>
              some (t2, ()))
            (fun (_ : Unit) =>
              some (true, ()))
            N p0 ((Go.Inc.pairOpers p0).1) ((Go.Inc.pairOpers p0).1) (((List.length ((Go.Inc.pairOpers p0).1)) : Nat) : Int) (0 : Int)
      else
        none
  else
    none
theorem loops5 (N : Nat) : loopsOk C5 (L5 N) Go.Proofs.Tryd.f5 := ⟨trivial, ⟨⟨trivial, ⟨⟨trivial, trivial⟩, trivial⟩⟩, ⟨⟨trivial, ⟨⟨trivial, trivial⟩, trivial⟩⟩, ⟨trivial, ⟨⟨trivial, ⟨⟨trivial, trivial⟩, trivial⟩⟩, ⟨⟨trivial, ⟨loopOk_of H5_9 N (fun K n v => W5_9 N (fun t2 => K .ret (encH [(4, .bo)] (t2, ()))) (fun _ => K (.exit 0) (encH [] ())) n v.1 v.2.1 v.2.2.1 v.2.2.2.1 v.2.2.2.2.1) (by kernel_rfl) (fun K v => by kernel_rfl) (fun K v => by kernel_rfl) (fun K n v => by kernel_rfl), ⟨trivial, ⟨⟨trivial, trivial⟩, ⟨⟨trivial, ⟨⟨trivial, ⟨⟨trivial, trivial⟩, trivial⟩⟩, ⟨trivial, ⟨loopOk_of H5_14 N (fun K n v => W5_14 N (fun t2 => K .ret (encH [(4, .bo)] (t2, ()))) (fun t0 t3 t24 t25 t26 => K (.exit 2) (encH [(0, (.sl (.pr (.int .i64) (.pr (.pr (.int .i64) (.pr (.int .i64) (.pr .str .un))) (.pr (.int .i64) (.pr (.int .i64) (.pr (.pr (.int .i64) (.pr (.int .i64) (.pr .str .un))) (.pr (.int .i64) (.pr (.sl (.pr (.int .i64) (.pr (.int .i64) (.pr .str .un)))) (.pr (.sl (.pr (.int .i64) (.pr (.int .i64) (.pr .str .un)))) (.pr .bool (.pr .str .un)))))))))) .no)), (6, (.sl (.pr (.pr (.int .i64) (.pr (.int .i64) (.pr .str .un))) (.pr (.int .i64) (.pr (.pr (.int .i64) (.pr (.int .i64) (.pr .str .un))) (.pr (.int .i64) (.pr (.sl (.pr (.int .i64) (.pr (.int .i64) (.pr .str .un)))) (.pr (.sl (.pr (.int .i64) (.pr (.int .i64) (.pr .str .un)))) (.pr (.int .i64) (.pr (.int .i64) .un)))))))) .no)), (48, (.sl (.pr (.pr (.int .i64) (.pr (.int .i64) (.pr .str .un))) (.pr (.int .i64) (.pr (.pr (.int .i64) (.pr (.int .i64) (.pr .str .un))) (.pr (.int .i64) (.pr (.sl (.pr (.int .i64) (.pr (.int .i64) (.pr .str .un)))) (.pr (.sl (.pr (.int .i64) (.pr (.int .i64) (.pr .str .un)))) (.pr (.int .i64) (.pr (.int .i64) .un)))))))) .no)), (50, (.i .i64)), (52, (.i .i64))] (t0, (t3, (t24, (t25, (t26, ()))))))) n v.1 v.2.1 v.2.2.2.1.1 v.2.2.2.1.2.1 v.2.2.2.1.2.2.1 v.2.2.2.1.2.2.2.1 v.2.2.2.1.2.2.2.2.1 v.2.2.2.1.2.2.2.2.2.1 v.2.2.2.1.2.2.2.2.2.2.1 v.2.2.2.1.2.2.2.2.2.2.2.1 v.2.2.2.1.2.2.2.2.2.2.2.2.1 v.2.2.2.1.2.2.2.2.2.2.2.2.2.1 v.2.2.2.1.2.2.2.2.2.2.2.2.2.2.1 v.2.2.2.1.2.2.2.2.2.2.2.2.2.2.2.1 v.2.2.2.2.1 v.2.2.2.2.2.1 v.2.2.2.2.2.2.1 v.2.2.2.2.2.2.2.1 v.2.2.2.2.2.2.2.2.1 v.2.2.2.2.2.2.2.2.2.1) (by kernel_rfl) (fun K v => by kernel_rfl) (fun K v => by kernel_rfl) (fun K n v => by kernel_rfl), ⟨trivial, ⟨⟨trivial, trivial⟩, ⟨⟨trivial, ⟨trivial, ⟨⟨trivial, trivial⟩, trivial⟩⟩⟩, trivial⟩⟩⟩⟩⟩⟩⟩, trivial⟩⟩⟩⟩⟩, ⟨trivial, trivial⟩⟩⟩⟩⟩⟩⟩
theorem runs5 (N : Nat) (x : S5.ta.den) : run C5 S5 (L5 N) Go.Proofs.Tryd.f5 x = F5 N x.1 := by kernel_rfl

/-! ### 6: incognito/incognitolaw12.PairBegins -/
def W6_12 {β : Type} (N : Nat) (x0 : Bool → Option β) (x1 : Int → (List ((Int × Int × ByteArray × Unit) × Int × (Int × Int × ByteArray × Unit) × Int × (List (Int × Int × ByteArray × Unit)) × (List (Int × Int × ByteArray × Unit)) × Int × Int × Unit)) → Int → Option β) : Nat → Int → (List ((Int × Int × ByteArray × Unit) × Int × (Int × Int × ByteArray × Unit) × Int × (List (Int × Int × ByteArray × Unit)) × (List (Int × Int × ByteArray × Unit)) × Int × Int × Unit)) → Int → (List ((Int × Int × ByteArray × Unit) × Int × (Int × Int × ByteArray × Unit) × Int × (List (Int × Int × ByteArray × Unit)) × (List (Int × Int × ByteArray × Unit)) × Int × Int × Unit)) → Int → Int → Option β
  | 0, _, _, _, _, _, _ => none
  | n + 1, t5, t8, t10, t55, t56, t57 =>
  bif decide (t57 < t56) then
    bif ((decide ((0 : Int) ≤ t57)) && (decide (t57 < (((List.length t55) : Nat) : Int)))) then
      bif decide (t10 < (((List.length t8) : Nat) : Int)) then
        bif ((decide ((0 : Int) ≤ t10)) && (decide (t10 < (((List.length t8) : Nat) : Int)))) then
          bif (((((((((List.getD t8 (Int.toNat t10) (((0 : Int), ((0 : Int), (ByteArray.empty, ()))), ((0 : Int), (((0 : Int), ((0 : Int), (ByteArray.empty, ()))), ((0 : Int), ([], ([], ((0 : Int), ((0 : Int), ()))))))))).2).2).2).2).2).2).1) == ((((((((List.getD t55 (Int.toNat t57) (((0 : Int), ((0 : Int), (ByteArray.empty, ()))), ((0 : Int), (((0 : Int), ((0 : Int), (ByteArray.empty, ()))), ((0 : Int), ([], ([], ((0 : Int), ((0 : Int), ()))))))))).2).2).2).2).2).2).1)) then
            bif ((decide ((0 : Int) ≤ t10)) && (decide (t10 < (((List.length t8) : Nat) : Int)))) then
              bif decide ((((((((((List.getD t8 (Int.toNat t10) (((0 : Int), ((0 : Int), (ByteArray.empty, ()))), ((0 : Int), (((0 : Int), ((0 : Int), (ByteArray.empty, ()))), ((0 : Int), ([], ([], ((0 : Int), ((0 : Int), ()))))))))).2).2).2).2).2).2).2).1) ≥ t5) then
              bif (Go.Inc.okOne2 ((List.getD t8 (Int.toNat t10) (((0 : Int), ((0 : Int), (ByteArray.empty, ()))), ((0 : Int), (((0 : Int), ((0 : Int), (ByteArray.empty, ()))), ((0 : Int), ([], ([], ((0 : Int), ((0 : Int), ()))))))))).1, (((List.getD t8 (Int.toNat t10) (((0 : Int), ((0 : Int), (ByteArray.empty, ()))), ((0 : Int), (((0 : Int), ((0 : Int), (ByteArray.empty, ()))), ((0 : Int), ([], ([], ((0 : Int), ((0 : Int), ()))))))))).2).1, ((((List.getD t8 (Int.toNat t10) (((0 : Int), ((0 : Int), (ByteArray.empty, ()))), ((0 : Int), (((0 : Int), ((0 : Int), (ByteArray.empty, ()))), ((0 : Int), ([], ([], ((0 : Int), ((0 : Int), ()))))))))).2).2).1, (((((List.getD t8 (Int.toNat t10) (((0 : Int), ((0 : Int), (ByteArray.empty, ()))), ((0 : Int), (((0 : Int), ((0 : Int), (ByteArray.empty, ()))), ((0 : Int), ([], ([], ((0 : Int), ((0 : Int), ()))))))))).2).2).2).1, ((((((List.getD t8 (Int.toNat t10) (((0 : Int), ((0 : Int), (ByteArray.empty, ()))), ((0 : Int), (((0 : Int), ((0 : Int), (ByteArray.empty, ()))), ((0 : Int), ([], ([], ((0 : Int), ((0 : Int), ()))))))))).2).2).2).2).1, (([] : List (Int × (Int × (ByteArray × Unit)))), ((((((((List.getD t8 (Int.toNat t10) (((0 : Int), ((0 : Int), (ByteArray.empty, ()))), ((0 : Int), (((0 : Int), ((0 : Int), (ByteArray.empty, ()))), ((0 : Int), ([], ([], ((0 : Int), ((0 : Int), ()))))))))).2).2).2).2).2).2).1, ((-(1 : Int)), ())))))))) (List.getD t55 (Int.toNat t57) (((0 : Int), ((0 : Int), (ByteArray.empty, ()))), ((0 : Int), (((0 : Int), ((0 : Int), (ByteArray.empty, ()))), ((0 : Int), ([], ([], ((0 : Int), ((0 : Int), ())))))))))) then
              bif (!(Go.Inc.oneO ((List.getD t8 (Int.toNat t10) (((0 : Int), ((0 : Int), (ByteArray.empty, ()))), ((0 : Int), (((0 : Int), ((0 : Int), (ByteArray.empty, ()))), ((0 : Int), ([], ([], ((0 : Int), ((0 : Int), ()))))))))).1, (((List.getD t8 (Int.toNat t10) (((0 : Int), ((0 : Int), (ByteArray.empty, ()))), ((0 : Int), (((0 : Int), ((0 : Int), (ByteArray.empty, ()))), ((0 : Int), ([], ([], ((0 : Int), ((0 : Int), ()))))))))).2).1, ((((List.getD t8 (Int.toNat t10) (((0 : Int), ((0 : Int), (ByteArray.empty, ()))), ((0 : Int), (((0 : Int), ((0 : Int), (ByteArray.empty, ()))), ((0 : Int), ([], ([], ((0 : Int), ((0 : Int), ()))))))))).2).2).1, (((((List.getD t8 (Int.toNat t10) (((0 : Int), ((0 : Int), (ByteArray.empty, ()))), ((0 : Int), (((0 : Int), ((0 : Int), (ByteArray.empty, ()))), ((0 : Int), ([], ([], ((0 : Int), ((0 : Int), ()))))))))).2).2).2).1, ((((((List.getD t8 (Int.toNat t10) (((0 : Int), ((0 : Int), (ByteArray.empty, ()))), ((0 : Int), (((0 : Int), ((0 : Int), (ByteArray.empty, ()))), ((0 : Int), ([], ([], ((0 : Int), ((0 : Int), ()))))))))).2).2).2).2).1, (([] : List (Int × (Int × (ByteArray × Unit)))), ((((((((List.getD t8 (Int.toNat t10) (((0 : Int), ((0 : Int), (ByteArray.empty, ()))), ((0 : Int), (((0 : Int), ((0 : Int), (ByteArray.empty, ()))), ((0 : Int), ([], ([], ((0 : Int), ((0 : Int), ()))))))))).2).2).2).2).2).2).1, ((-(1 : Int)), ())))))))) (List.getD t55 (Int.toNat t57) (((0 : Int), ((0 : Int), (ByteArray.empty, ()))), ((0 : Int), (((0 : Int), ((0 : Int), (ByteArray.empty, ()))), ((0 : Int), ([], ([], ((0 : Int), ((0 : Int), ()))))))))))) then
              x0 false
            else
              W6_12 N x0 x1 n t5 t8 (Go.IntKind.wrap .i64 (t10 + (1 : Int))) t55 t56 (Go.IntKind.wrap .i64 (t57 + (1 : Int)))
            else
              none
            else
              bif (Go.Inc.okOne2 (List.getD t8 (Int.toNat t10) (((0 : Int), ((0 : Int), (ByteArray.empty, ()))), ((0 : Int), (((0 : Int), ((0 : Int), (ByteArray.empty, ()))), ((0 : Int), ([], ([], ((0 : Int), ((0 : Int), ()))))))))) (List.getD t55 (Int.toNat t57) (((0 : Int), ((0 : Int), (ByteArray.empty, ()))), ((0 : Int), (((0 : Int), ((0 : Int), (ByteArray.empty, ()))), ((0 : Int), ([], ([], ((0 : Int), ((0 : Int), ())))))))))) then
              bif (!(Go.Inc.oneO (List.getD t8 (Int.toNat t10) (((0 : Int), ((0 : Int), (ByteArray.empty, ()))), ((0 : Int), (((0 : Int), ((0 : Int), (ByteArray.empty, ()))), ((0 : Int), ([], ([], ((0 : Int), ((0 : Int), ()))))))))) (List.getD t55 (Int.toNat t57) (((0 : Int), ((0 : Int), (ByteArray.empty, ()))), ((0 : Int), (((0 : Int), ((0 : Int), (ByteArray.empty, ()))), ((0 : Int), ([], ([], ((0 : Int), ((0 : Int), ()))))))))))) then
              x0 false
            else
              W6_12 N x0 x1 n t5 t8 (Go.IntKind.wrap .i64 (t10 + (1 : Int))) t55 t56 (Go.IntKind.wrap .i64 (t57 + (1 : Int)))
            else
              none
            else
              none
          else
            bif ((((((((((List.getD t55 (Int.toNat t57) (((0 : Int), ((0 : Int), (ByteArray.empty, ()))), ((0 : Int), (((0 : Int), ((0 : Int), (ByteArray.empty, ()))), ((0 : Int), ([], ([], ((0 : Int), ((0 : Int), ()))))))))).2).2).2).2).2).2).2).1) != (-(1 : Int))) then
              x0 false
            else
              W6_12 N x0 x1 n t5 t8 t10 t55 t56 (Go.IntKind.wrap .i64 (t57 + (1 : Int)))
        else
          none
      else
        bif ((((((((((List.getD t55 (Int.toNat t57) (((0 : Int), ((0 : Int), (ByteArray.empty, ()))), ((0 : Int), (((0 : Int), ((0 : Int), (ByteArray.empty, ()))), ((0 : Int), ([], ([], ((0 : Int), ((0 : Int), ()))))))))).2).2).2).2).2).2).2).1) != (-(1 : Int))) then
          x0 false
        else
          W6_12 N x0 x1 n t5 t8 t10 t55 t56 (Go.IntKind.wrap .i64 (t57 + (1 : Int)))
    else
      none
  else
    x1 t5 t8 t10
def L6 (N : Nat) : Loops (Bool × Unit) := fun k ρ K => match Nat.beq k 12 with
  | true => (match adH ρ H6_12.hd with
    | some v => W6_12 N (fun t4 => K .ret (encH [(8, .bo)] (t4, ()))) (fun t5 t8 t10 => K (.exit 0) (encH [(10, (.i .i64)), (16, (.sl (.pr (.pr (.int .i64) (.pr (.int .i64) (.pr .str .un))) (.pr (.int .i64) (.pr (.pr (.int .i64) (.pr (.int .i64) (.pr .str .un))) (.pr (.int .i64) (.pr (.sl (.pr (.int .i64) (.pr (.int .i64) (.pr .str .un)))) (.pr (.sl (.pr (.int .i64) (.pr (.int .i64) (.pr .str .un)))) (.pr (.int .i64) (.pr (.int .i64) .un)))))))) .no)), (20, (.i .i64))] (t5, (t8, (t10, ()))))) N v.1 v.2.1 v.2.2.1 v.2.2.2.1 v.2.2.2.2.1 v.2.2.2.2.2.1
    | none => none)
  | false => none
def F6 (N : Nat) (p0 : List (Int × (Int × Int × ByteArray × Unit) × Int × Int × (Int × Int × ByteArray × Unit) × Int × (List (Int × Int × ByteArray × Unit)) × (List (Int × Int × ByteArray × Unit)) × Bool × ByteArray × Unit)) (p1 : Int) : Option (Bool × Unit) :=
  bif (Go.Inc.okGH p0 (60 : Int)) then
    bif (Go.Inc.greatH p0 (60 : Int)) then
      some (true, ())
    else
      bif ((((List.length p0) : Nat) : Int) == (0 : Int)) then
        some (true, ())
      else
        bif (Go.Inc.okAll p0) then
          bif (((Go.Inc.pairCheck p0).1) != (0 : Int)) then
            some (true, ())
          else
            bif ((Go.IntKind.wrap .i64 ((((List.length p0) : Nat) : Int) + (1 : Int))) == (0 : Int)) then
              none
            else
              bif ((decide ((0 : Int) ≤ (0 : Int))) && ((decide ((0 : Int) ≤ (Int.tmod (Go.IntKind.wrap .i64 p1) (Go.IntKind.wrap .i64 ((((List.length p0) : Nat) : Int) + (1 : Int)))))) && (decide ((Int.tmod (Go.IntKind.wrap .i64 p1) (Go.IntKind.wrap .i64 ((((List.length p0) : Nat) : Int) + (1 : Int)))) ≤ (((List.length p0) : Nat) : Int))))) then
              bif (Go.Inc.okAll (Go.Abs.sub p0 (0 : Int) (Int.tmod (Go.IntKind.wrap .i64 p1) (Go.IntKind.wrap .i64 ((((List.length p0) : Nat) : Int) + (1 : Int)))))) then
              bif (Go.Inc.okAll p0) then
              bif (((((Go.Inc.pairOpers (Go.Abs.sub p0 (0 : Int) (Int.tmod (Go.IntKind.wrap .i64 p1) (Go.IntKind.wrap .i64 ((((List.length p0) : Nat) : Int) + (1 : Int)))))).2).1).1) != (0 : Int)) then
              some (false, ())
            else
              bif (((((Go.Inc.pairOpers p0).2).1).1) != (0 : Int)) then
              some (false, ())
            else
              W6_12 N
              (fun t4 =>
                some (t4, ()))
              (fun t5 t8 t10 =>
                bif (t10 == (((List.length t8) : Nat) : Int)) then
              some (true, ())
            else
              bif ((decide ((0 : Int) ≤ t10)) && (decide (t10 < (((List.length t8) : Nat) : Int)))) then
              some (decide (((((((((List.getD t8 (Int.toNat t10) (((0 : Int), ((0 : Int), (ByteArray.empty, ()))), ((0 : Int), (((0 : Int), ((0 : Int), (ByteArray.empty, ()))), ((0 : Int), ([], ([], ((0 : Int), ((0 : Int), ()))))))))).2).2).2).2).2).2).1) ≥ t5), ())
            else
              none)
              N (Int.tmod (Go.IntKind.wrap .i64 p1) (Go.IntKind.wrap .i64 ((((List.length p0) : Nat) : Int) + (1 : Int)))) ((Go.Inc.pairOpers p0).1) (0 : Int) ((Go.Inc.pairOpers (Go.Abs.sub p0 (0 : Int) (Int.tmod (Go.IntKind.wrap .i64 p1) (Go.IntKind.wrap .i64 ((((List.length p0) : Nat) : Int) + (1 : Int)))))).1) (((List.length ((Go.Inc.pairOpers (Go.Abs.sub p0 (0 : Int) (Int.tmod (Go.IntKind.wrap .i64 p1) (Go.IntKind.wrap .i64 ((((List.length p0) : Nat) : Int) + (1 : Int)))))).1)) : Nat) : Int) (0 : Int)
            else
              none
            else
              none
            else
              none
        else
          none
  else
    none
theorem loops6 (N : Nat) : loopsOk C6 (L6 N) Go.Proofs.Tryd.f6 := ⟨trivial, ⟨⟨trivial, ⟨⟨trivial, trivial⟩, trivial⟩⟩, ⟨⟨trivial, ⟨⟨trivial, trivial⟩, trivial⟩⟩, ⟨trivial, ⟨trivial, ⟨trivial, ⟨⟨trivial, ⟨⟨trivial, trivial⟩, trivial⟩⟩, ⟨trivial, ⟨⟨trivial, ⟨loopOk_of H6_12 N (fun K n v => W6_12 N (fun t4 => K .ret (encH [(8, .bo)] (t4, ()))) (fun t5 t8 t10 => K (.exit 0) (encH [(10, (.i .i64)), (16, (.sl (.pr (.pr (.int .i64) (.pr (.int .i64) (.pr .str .un))) (.pr (.int .i64) (.pr (.pr (.int .i64) (.pr (.int .i64) (.pr .str .un))) (.pr (.int .i64) (.pr (.sl (.pr (.int .i64) (.pr (.int .i64) (.pr .str .un)))) (.pr (.sl (.pr (.int .i64) (.pr (.int .i64) (.pr .str .un)))) (.pr (.int .i64) (.pr (.int .i64) .un)))))))) .no)), (20, (.i .i64))] (t5, (t8, (t10, ()))))) n v.1 v.2.1 v.2.2.1 v.2.2.2.1 v.2.2.2.2.1 v.2.2.2.2.2.1) (by kernel_rfl) (fun K v => by kernel_rfl) (fun K v => by kernel_rfl) (fun K n v => by kernel_rfl), ⟨trivial, ⟨⟨trivial, trivial⟩, ⟨⟨trivial, ⟨trivial, ⟨⟨trivial, ⟨⟨trivial, ⟨trivial, trivial⟩⟩, ⟨⟨trivial, ⟨⟨trivial, trivial⟩, trivial⟩⟩, trivial⟩⟩⟩, ⟨trivial, ⟨⟨trivial, trivial⟩, trivial⟩⟩⟩⟩⟩, trivial⟩⟩⟩⟩⟩, ⟨trivial, trivial⟩⟩⟩⟩⟩⟩⟩⟩⟩⟩
theorem runs6 (N : Nat) (x : S6.ta.den) : run C6 S6 (L6 N) Go.Proofs.Tryd.f6 x = F6 N x.1 x.2.1 := by kernel_rfl

end Go.L12
