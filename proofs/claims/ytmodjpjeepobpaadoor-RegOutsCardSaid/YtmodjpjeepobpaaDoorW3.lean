/- The walks of package reg and its statements. Printed by a program of this session. -/
import Derived.Test.YtmodjpjeepobpaaDoorW0
set_option linter.unusedVariables false
set_option maxRecDepth 100000
namespace Go.L13
open Go Go.Abs Go.Inc

/-! ### 39: slices.IndexFunc[[]incognito/sign.row,incognito/sign.row] -/
def W39_2 {β : Type} (N : Nat) (x0 : Int → Int → Int → Option β) (x1 : Int → Int → Option β) : Nat → (List (Int × Int × ByteArray × Int × Bool × Unit)) → Int → Int → Int → Int → Option β
  | 0, _, _, _, _, _ => none
  | n + 1, t0, t7, t8, b1000a, b1001a =>
  bif decide (t8 < t7) then
    bif ((decide ((0 : Int) ≤ t8)) && (decide (t8 < (((List.length t0) : Nat) : Int)))) then
      bif (Go.Inc.hitA ((List.getD t0 (Int.toNat t8) ((0 : Int), ((0 : Int), (ByteArray.empty, ((0 : Int), (false, ())))))).1) (((List.getD t0 (Int.toNat t8) ((0 : Int), ((0 : Int), (ByteArray.empty, ((0 : Int), (false, ())))))).2).1) ((((List.getD t0 (Int.toNat t8) ((0 : Int), ((0 : Int), (ByteArray.empty, ((0 : Int), (false, ())))))).2).2).1) (((((List.getD t0 (Int.toNat t8) ((0 : Int), ((0 : Int), (ByteArray.empty, ((0 : Int), (false, ())))))).2).2).2).1) ((((((List.getD t0 (Int.toNat t8) ((0 : Int), ((0 : Int), (ByteArray.empty, ((0 : Int), (false, ())))))).2).2).2).2).1) b1000a b1001a) then
        x0 t8 b1000a b1001a
      else
        W39_2 N x0 x1 n t0 t7 (Go.IntKind.wrap .i64 (t8 + (1 : Int))) b1000a b1001a
    else
      none
  else
    x1 b1000a b1001a
def L39 (N : Nat) : Loops (HS.den X39.hout) := fun k ρ K => match Nat.beq k 2 with
  | true => (match adH ρ H39_2.hd with
    | some v => W39_2 N (fun t4 b1000a b1001a => K .ret (encH [(8, (.i .i64)), (2001, (.pr (.i .i64) .un)), (2003, (.pr (.i .i64) .un))] (t4, ((b1000a, ()), ((b1001a, ()), ()))))) (fun b1000a b1001a => K (.exit 0) (encH [(2001, (.pr (.i .i64) .un)), (2003, (.pr (.i .i64) .un))] ((b1000a, ()), ((b1001a, ()), ())))) N v.1 v.2.2.1 v.2.2.2.1 v.2.2.2.2.1.1 v.2.2.2.2.2.1.1
    | none => none)
  | false => none
def F39 (N : Nat) (t0 : List (Int × Int × ByteArray × Int × Bool × Unit)) (b1000a : Int) (b1001a : Int) : Option (HS.den X39.hout) :=
  W39_2 N
    (fun t4 b1000a b1001a =>
      some (t4, ((b1000a, ()), ((b1001a, ()), ()))))
    (fun b1000a b1001a =>
      some ((-(1 : Int)), ((b1000a, ()), ((b1001a, ()), ()))))
    N t0 (((List.length t0) : Nat) : Int) (0 : Int) b1000a b1001a
theorem loops39 (N : Nat) : loopsOk C39 (L39 N) Go.Proofs.Tryd.f39 := ⟨trivial, ⟨⟨trivial, ⟨loopOk_of H39_2 N (fun K n v => W39_2 N (fun t4 b1000a b1001a => K .ret (encH [(8, (.i .i64)), (2001, (.pr (.i .i64) .un)), (2003, (.pr (.i .i64) .un))] (t4, ((b1000a, ()), ((b1001a, ()), ()))))) (fun b1000a b1001a => K (.exit 0) (encH [(2001, (.pr (.i .i64) .un)), (2003, (.pr (.i .i64) .un))] ((b1000a, ()), ((b1001a, ()), ())))) n v.1 v.2.2.1 v.2.2.2.1 v.2.2.2.2.1.1 v.2.2.2.2.2.1.1) (by kernel_rfl) (fun K v => by kernel_rfl) (fun K v => by kernel_rfl) (fun K n v => by kernel_rfl), ⟨trivial, ⟨⟨trivial, trivial⟩, ⟨⟨trivial, ⟨trivial, ⟨⟨trivial, trivial⟩, trivial⟩⟩⟩, trivial⟩⟩⟩⟩⟩, ⟨trivial, trivial⟩⟩⟩
theorem runs39 (N : Nat) (x : HS.den X39.hin) : runX C39 X39 (L39 N) Go.Proofs.Tryd.f39 x = F39 N x.1 x.2.2.1.1 x.2.2.2.1.1 := by kernel_rfl

/-! ### 31: incognito/sign.find -/
def L31 (_ : Nat) : Loops ((Int × Int × ByteArray × Int × Bool × Unit) × Bool × Unit) := fun _ _ _ => none
def F31 (N : Nat) (p0 : Int) (p1 : Int) : Option ((Int × Int × ByteArray × Int × Bool × Unit) × Bool × Unit) :=
  bif decide ((Go.Inc.idxR (((1 : Int), ((1 : Int), ((strL [118]), ((-(1 : Int)), (false, ()))))) :: (((1 : Int), ((2 : Int), ((strL []), ((2 : Int), (true, ()))))) :: (((2 : Int), ((1 : Int), ((strL [118]), ((-(1 : Int)), (false, ()))))) :: (((2 : Int), ((2 : Int), ((strL []), ((2 : Int), (true, ()))))) :: (((2 : Int), ((3 : Int), ((strL [118, 118]), ((6 : Int), (false, ()))))) :: (((3 : Int), ((4 : Int), ((strL [118]), ((-(1 : Int)), (false, ()))))) :: (((3 : Int), ((5 : Int), ((strL [118]), ((-(1 : Int)), (false, ()))))) :: (((3 : Int), ((6 : Int), ((strL [118]), ((6 : Int), (false, ()))))) :: (((4 : Int), ((7 : Int), ((strL [102, 118]), ((-(1 : Int)), (false, ()))))) :: (((4 : Int), ((8 : Int), ((strL [102]), ((2 : Int), (true, ()))))) :: (((4 : Int), ((5 : Int), ((strL [102]), ((-(1 : Int)), (false, ()))))) :: (((5 : Int), ((9 : Int), ((strL [118]), ((-(1 : Int)), (false, ()))))) :: (((5 : Int), ((10 : Int), ((strL []), ((2 : Int), (true, ()))))) :: (((6 : Int), ((9 : Int), ((strL [118]), ((-(1 : Int)), (false, ()))))) :: (((6 : Int), ((10 : Int), ((strL []), ((2 : Int), (true, ()))))) :: (((7 : Int), ((11 : Int), ((strL []), ((6 : Int), (false, ()))))) :: (((7 : Int), ((12 : Int), ((strL []), ((6 : Int), (false, ()))))) :: (((8 : Int), ((4 : Int), ((strL [110]), ((-(1 : Int)), (false, ()))))) :: (((8 : Int), ((2 : Int), ((strL []), ((5 : Int), (false, ()))))) :: (((9 : Int), ((1 : Int), ((strL [111]), ((-(1 : Int)), (false, ()))))) :: (((9 : Int), ((2 : Int), ((strL []), ((4 : Int), (true, ()))))) :: (((10 : Int), ((7 : Int), ((strL [111, 118]), ((-(1 : Int)), (false, ()))))) :: (((10 : Int), ((5 : Int), ((strL [111]), ((-(1 : Int)), (false, ()))))) :: (((10 : Int), ((13 : Int), ((strL [111, 111]), ((99 : Int), (false, ()))))) :: ([] : List (Int × (Int × (ByteArray × (Int × (Bool × Unit)))))))))))))))))))))))))))))) p0 p1) < (0 : Int)) then
    some (((0 : Int), ((0 : Int), (ByteArray.empty, ((0 : Int), (false, ()))))), (false, ()))
  else
    bif ((decide ((0 : Int) ≤ (Go.Inc.idxR (((1 : Int), ((1 : Int), ((strL [118]), ((-(1 : Int)), (false, ()))))) :: (((1 : Int), ((2 : Int), ((strL []), ((2 : Int), (true, ()))))) :: (((2 : Int), ((1 : Int), ((strL [118]), ((-(1 : Int)), (false, ()))))) :: (((2 : Int), ((2 : Int), ((strL []), ((2 : Int), (true, ()))))) :: (((2 : Int), ((3 : Int), ((strL [118, 118]), ((6 : Int), (false, ()))))) :: (((3 : Int), ((4 : Int), ((strL [118]), ((-(1 : Int)), (false, ()))))) :: (((3 : Int), ((5 : Int), ((strL [118]), ((-(1 : Int)), (false, ()))))) :: (((3 : Int), ((6 : Int), ((strL [118]), ((6 : Int), (false, ()))))) :: (((4 : Int), ((7 : Int), ((strL [102, 118]), ((-(1 : Int)), (false, ()))))) :: (((4 : Int), ((8 : Int), ((strL [102]), ((2 : Int), (true, ()))))) :: (((4 : Int), ((5 : Int), ((strL [102]), ((-(1 : Int)), (false, ()))))) :: (((5 : Int), ((9 : Int), ((strL [118]), ((-(1 : Int)), (false, ()))))) :: (((5 : Int), ((10 : Int), ((strL []), ((2 : Int), (true, ()))))) :: (((6 : Int), ((9 : Int), ((strL [118]), ((-(1 : Int)), (false, ()))))) :: (((6 : Int), ((10 : Int), ((strL []), ((2 : Int), (true, ()))))) :: (((7 : Int), ((11 : Int), ((strL []), ((6 : Int), (false, ()))))) :: (((7 : Int), ((12 : Int), ((strL []), ((6 : Int), (false, ()))))) :: (((8 : Int), ((4 : Int), ((strL [110]), ((-(1 : Int)), (false, ()))))) :: (((8 : Int), ((2 : Int), ((strL []), ((5 : Int), (false, ()))))) :: (((9 : Int), ((1 : Int), ((strL [111]), ((-(1 : Int)), (false, ()))))) :: (((9 : Int), ((2 : Int), ((strL []), ((4 : Int), (true, ()))))) :: (((10 : Int), ((7 : Int), ((strL [111, 118]), ((-(1 : Int)), (false, ()))))) :: (((10 : Int), ((5 : Int), ((strL [111]), ((-(1 : Int)), (false, ()))))) :: (((10 : Int), ((13 : Int), ((strL [111, 111]), ((99 : Int), (false, ()))))) :: ([] : List (Int × (Int × (ByteArray × (Int × (Bool × Unit)))))))))))))))))))))))))))))) p0 p1))) && (decide ((Go.Inc.idxR (((1 : Int), ((1 : Int), ((strL [118]), ((-(1 : Int)), (false, ()))))) :: (((1 : Int), ((2 : Int), ((strL []), ((2 : Int), (true, ()))))) :: (((2 : Int), ((1 : Int), ((strL [118]), ((-(1 : Int)), (false, ()))))) :: (((2 : Int), ((2 : Int), ((strL []), ((2 : Int), (true, ()))))) :: (((2 : Int), ((3 : Int), ((strL [118, 118]), ((6 : Int), (false, ()))))) :: (((3 : Int), ((4 : Int), ((strL [118]), ((-(1 : Int)), (false, ()))))) :: (((3 : Int), ((5 : Int), ((strL [118]), ((-(1 : Int)), (false, ()))))) :: (((3 : Int), ((6 : Int), ((strL [118]), ((6 : Int), (false, ()))))) :: (((4 : Int), ((7 : Int), ((strL [102, 118]), ((-(1 : Int)), (false, ()))))) :: (((4 : Int), ((8 : Int), ((strL [102]), ((2 : Int), (true, ()))))) :: (((4 : Int), ((5 : Int), ((strL [102]), ((-(1 : Int)), (false, ()))))) :: (((5 : Int), ((9 : Int), ((strL [118]), ((-(1 : Int)), (false, ()))))) :: (((5 : Int), ((10 : Int), ((strL []), ((2 : Int), (true, ()))))) :: (((6 : Int), ((9 : Int), ((strL [118]), ((-(1 : Int)), (false, ()))))) :: (((6 : Int), ((10 : Int), ((strL []), ((2 : Int), (true, ()))))) :: (((7 : Int), ((11 : Int), ((strL []), ((6 : Int), (false, ()))))) :: (((7 : Int), ((12 : Int), ((strL []), ((6 : Int), (false, ()))))) :: (((8 : Int), ((4 : Int), ((strL [110]), ((-(1 : Int)), (false, ()))))) :: (((8 : Int), ((2 : Int), ((strL []), ((5 : Int), (false, ()))))) :: (((9 : Int), ((1 : Int), ((strL [111]), ((-(1 : Int)), (false, ()))))) :: (((9 : Int), ((2 : Int), ((strL []), ((4 : Int), (true, ()))))) :: (((10 : Int), ((7 : Int), ((strL [111, 118]), ((-(1 : Int)), (false, ()))))) :: (((10 : Int), ((5 : Int), ((strL [111]), ((-(1 : Int)), (false, ()))))) :: (((10 : Int), ((13 : Int), ((strL [111, 111]), ((99 : Int), (false, ()))))) :: ([] : List (Int × (Int × (ByteArray × (Int × (Bool × Unit)))))))))))))))))))))))))))))) p0 p1) < (((List.length (((1 : Int), ((1 : Int), ((strL [118]), ((-(1 : Int)), (false, ()))))) :: (((1 : Int), ((2 : Int), ((strL []), ((2 : Int), (true, ()))))) :: (((2 : Int), ((1 : Int), ((strL [118]), ((-(1 : Int)), (false, ()))))) :: (((2 : Int), ((2 : Int), ((strL []), ((2 : Int), (true, ()))))) :: (((2 : Int), ((3 : Int), ((strL [118, 118]), ((6 : Int), (false, ()))))) :: (((3 : Int), ((4 : Int), ((strL [118]), ((-(1 : Int)), (false, ()))))) :: (((3 : Int), ((5 : Int), ((strL [118]), ((-(1 : Int)), (false, ()))))) :: (((3 : Int), ((6 : Int), ((strL [118]), ((6 : Int), (false, ()))))) :: (((4 : Int), ((7 : Int), ((strL [102, 118]), ((-(1 : Int)), (false, ()))))) :: (((4 : Int), ((8 : Int), ((strL [102]), ((2 : Int), (true, ()))))) :: (((4 : Int), ((5 : Int), ((strL [102]), ((-(1 : Int)), (false, ()))))) :: (((5 : Int), ((9 : Int), ((strL [118]), ((-(1 : Int)), (false, ()))))) :: (((5 : Int), ((10 : Int), ((strL []), ((2 : Int), (true, ()))))) :: (((6 : Int), ((9 : Int), ((strL [118]), ((-(1 : Int)), (false, ()))))) :: (((6 : Int), ((10 : Int), ((strL []), ((2 : Int), (true, ()))))) :: (((7 : Int), ((11 : Int), ((strL []), ((6 : Int), (false, ()))))) :: (((7 : Int), ((12 : Int), ((strL []), ((6 : Int), (false, ()))))) :: (((8 : Int), ((4 : Int), ((strL [110]), ((-(1 : Int)), (false, ()))))) :: (((8 : Int), ((2 : Int), ((strL []), ((5 : Int), (false, ()))))) :: (((9 : Int), ((1 : Int), ((strL [111]), ((-(1 : Int)), (false, ()))))) :: (((9 : Int), ((2 : Int), ((strL []), ((4 : Int), (true, ()))))) :: (((10 : Int), ((7 : Int), ((strL [111, 118]), ((-(1 : Int)), (false, ()))))) :: (((10 : Int), ((5 : Int), ((strL [111]), ((-(1 : Int)), (false, ()))))) :: (((10 : Int), ((13 : Int), ((strL [111, 111]), ((99 : Int), (false, ()))))) :: ([] : List (Int × (Int × (ByteArray × (Int × (Bool × Unit))))))))))))))))))))))))))))))) : Nat) : Int)))) then
      some ((List.getD (((1 : Int), ((1 : Int), ((strL [118]), ((-(1 : Int)), (false, ()))))) :: (((1 : Int), ((2 : Int), ((strL []), ((2 : Int), (true, ()))))) :: (((2 : Int), ((1 : Int), ((strL [118]), ((-(1 : Int)), (false, ()))))) :: (((2 : Int), ((2 : Int), ((strL []), ((2 : Int), (true, ()))))) :: (((2 : Int), ((3 : Int), ((strL [118, 118]), ((6 : Int), (false, ()))))) :: (((3 : Int), ((4 : Int), ((strL [118]), ((-(1 : Int)), (false, ()))))) :: (((3 : Int), ((5 : Int), ((strL [118]), ((-(1 : Int)), (false, ()))))) :: (((3 : Int), ((6 : Int), ((strL [118]), ((6 : Int), (false, ()))))) :: (((4 : Int), ((7 : Int), ((strL [102, 118]), ((-(1 : Int)), (false, ()))))) :: (((4 : Int), ((8 : Int), ((strL [102]), ((2 : Int), (true, ()))))) :: (((4 : Int), ((5 : Int), ((strL [102]), ((-(1 : Int)), (false, ()))))) :: (((5 : Int), ((9 : Int), ((strL [118]), ((-(1 : Int)), (false, ()))))) :: (((5 : Int), ((10 : Int), ((strL []), ((2 : Int), (true, ()))))) :: (((6 : Int), ((9 : Int), ((strL [118]), ((-(1 : Int)), (false, ()))))) :: (((6 : Int), ((10 : Int), ((strL []), ((2 : Int), (true, ()))))) :: (((7 : Int), ((11 : Int), ((strL []), ((6 : Int), (false, ()))))) :: (((7 : Int), ((12 : Int), ((strL []), ((6 : Int), (false, ()))))) :: (((8 : Int), ((4 : Int), ((strL [110]), ((-(1 : Int)), (false, ()))))) :: (((8 : Int), ((2 : Int), ((strL []), ((5 : Int), (false, ()))))) :: (((9 : Int), ((1 : Int), ((strL [111]), ((-(1 : Int)), (false, ()))))) :: (((9 : Int), ((2 : Int), ((strL []), ((4 : Int), (true, ()))))) :: (((10 : Int), ((7 : Int), ((strL [111, 118]), ((-(1 : Int)), (false, ()))))) :: (((10 : Int), ((5 : Int), ((strL [111]), ((-(1 : Int)), (false, ()))))) :: (((10 : Int), ((13 : Int), ((strL [111, 111]), ((99 : Int), (false, ()))))) :: ([] : List (Int × (Int × (ByteArray × (Int × (Bool × Unit)))))))))))))))))))))))))))))) (Int.toNat (Go.Inc.idxR (((1 : Int), ((1 : Int), ((strL [118]), ((-(1 : Int)), (false, ()))))) :: (((1 : Int), ((2 : Int), ((strL []), ((2 : Int), (true, ()))))) :: (((2 : Int), ((1 : Int), ((strL [118]), ((-(1 : Int)), (false, ()))))) :: (((2 : Int), ((2 : Int), ((strL []), ((2 : Int), (true, ()))))) :: (((2 : Int), ((3 : Int), ((strL [118, 118]), ((6 : Int), (false, ()))))) :: (((3 : Int), ((4 : Int), ((strL [118]), ((-(1 : Int)), (false, ()))))) :: (((3 : Int), ((5 : Int), ((strL [118]), ((-(1 : Int)), (false, ()))))) :: (((3 : Int), ((6 : Int), ((strL [118]), ((6 : Int), (false, ()))))) :: (((4 : Int), ((7 : Int), ((strL [102, 118]), ((-(1 : Int)), (false, ()))))) :: (((4 : Int), ((8 : Int), ((strL [102]), ((2 : Int), (true, ()))))) :: (((4 : Int), ((5 : Int), ((strL [102]), ((-(1 : Int)), (false, ()))))) :: (((5 : Int), ((9 : Int), ((strL [118]), ((-(1 : Int)), (false, ()))))) :: (((5 : Int), ((10 : Int), ((strL []), ((2 : Int), (true, ()))))) :: (((6 : Int), ((9 : Int), ((strL [118]), ((-(1 : Int)), (false, ()))))) :: (((6 : Int), ((10 : Int), ((strL []), ((2 : Int), (true, ()))))) :: (((7 : Int), ((11 : Int), ((strL []), ((6 : Int), (false, ()))))) :: (((7 : Int), ((12 : Int), ((strL []), ((6 : Int), (false, ()))))) :: (((8 : Int), ((4 : Int), ((strL [110]), ((-(1 : Int)), (false, ()))))) :: (((8 : Int), ((2 : Int), ((strL []), ((5 : Int), (false, ()))))) :: (((9 : Int), ((1 : Int), ((strL [111]), ((-(1 : Int)), (false, ()))))) :: (((9 : Int), ((2 : Int), ((strL []), ((4 : Int), (true, ()))))) :: (((10 : Int), ((7 : Int), ((strL [111, 118]), ((-(1 : Int)), (false, ()))))) :: (((10 : Int), ((5 : Int), ((strL [111]), ((-(1 : Int)), (false, ()))))) :: (((10 : Int), ((13 : Int), ((strL [111, 111]), ((99 : Int), (false, ()))))) :: ([] : List (Int × (Int × (ByteArray × (Int × (Bool × Unit)))))))))))))))))))))))))))))) p0 p1)) ((0 : Int), ((0 : Int), (ByteArray.empty, ((0 : Int), (false, ())))))), (true, ()))
    else
      none
theorem loops31 (N : Nat) : loopsOk C31 (L31 N) Go.Proofs.Tryd.f31 := ⟨trivial, ⟨trivial, ⟨trivial, ⟨⟨trivial, ⟨⟨trivial, trivial⟩, trivial⟩⟩, ⟨trivial, trivial⟩⟩⟩⟩⟩
theorem runs31 (N : Nat) (x : S31.ta.den) : run C31 S31 (L31 N) Go.Proofs.Tryd.f31 x = F31 N x.1 x.2.1 := by kernel_rfl

/-! ### 23: incognito/sign.Fits -/
def W23_5 {β : Type} (N : Nat) (x0 : Bool → Option β) (x1 : Unit → Option β) : Nat → (List (Int × Int × ByteArray × Unit)) → (List Int) → Int → Int → Option β
  | 0, _, _, _, _ => none
  | n + 1, t2, t26, t27, t28 =>
  bif decide (t28 < t27) then
    bif ((decide ((0 : Int) ≤ t28)) && (decide (t28 < (((List.length t26) : Nat) : Int)))) then
      bif ((decide ((0 : Int) ≤ t28)) && (decide (t28 < (((List.length t2) : Nat) : Int)))) then
        bif (Go.Inc.okT (List.getD t26 (Int.toNat t28) (0 : Int)) (List.getD t2 (Int.toNat t28) ((0 : Int), ((0 : Int), (ByteArray.empty, ()))))) then
          bif (!(Go.Inc.takes (List.getD t26 (Int.toNat t28) (0 : Int)) (List.getD t2 (Int.toNat t28) ((0 : Int), ((0 : Int), (ByteArray.empty, ())))))) then
            x0 false
          else
            W23_5 N x0 x1 n t2 t26 t27 (Go.IntKind.wrap .i64 (t28 + (1 : Int)))
        else
          none
      else
        none
    else
      none
  else
    x1 ()
def L23 (N : Nat) : Loops (Bool × Unit) := fun k ρ K => match Nat.beq k 5 with
  | true => (match adH ρ H23_5.hd with
    | some v => W23_5 N (fun t6 => K .ret (encH [(12, .bo)] (t6, ()))) (fun _ => K (.exit 0) (encH [] ())) N v.1 v.2.1 v.2.2.1 v.2.2.2.1
    | none => none)
  | false => none
def F23 (N : Nat) (p0 : Int) (p1 : Int) (p2 : List (Int × Int × ByteArray × Unit)) : Option (Bool × Unit) :=
  bif (!(((Go.Inc.argsGo p0 p1).2).1)) then
    some (false, ())
  else
    bif ((((List.length ((Go.Inc.argsGo p0 p1).1)) : Nat) : Int) != (((List.length p2) : Nat) : Int)) then
      some (false, ())
    else
      W23_5 N
        (fun t6 =>
          some (t6, ()))
        (fun (_ : Unit) =>
          some (true, ()))
        N p2 ((Go.Inc.argsGo p0 p1).1) (((List.length ((Go.Inc.argsGo p0 p1).1)) : Nat) : Int) (0 : Int)
theorem loops23 (N : Nat) : loopsOk C23 (L23 N) Go.Proofs.Tryd.f23 := ⟨trivial, ⟨trivial, ⟨⟨trivial, ⟨⟨trivial, trivial⟩, trivial⟩⟩, ⟨⟨trivial, ⟨loopOk_of H23_5 N (fun K n v => W23_5 N (fun t6 => K .ret (encH [(12, .bo)] (t6, ()))) (fun _ => K (.exit 0) (encH [] ())) n v.1 v.2.1 v.2.2.1 v.2.2.2.1) (by kernel_rfl) (fun K v => by kernel_rfl) (fun K v => by kernel_rfl) (fun K n v => by kernel_rfl), ⟨trivial, ⟨⟨trivial, trivial⟩, ⟨⟨trivial, ⟨trivial, ⟨⟨trivial, trivial⟩, trivial⟩⟩⟩, trivial⟩⟩⟩⟩⟩, ⟨trivial, trivial⟩⟩⟩⟩⟩
theorem runs23 (N : Nat) (x : S23.ta.den) : run C23 S23 (L23 N) Go.Proofs.Tryd.f23 x = F23 N x.1 x.2.1 x.2.2.1 := by kernel_rfl

/-! ### 24: (*incognito/reg.cell).write -/
def L24 (_ : Nat) : Loops (HS.den X24.hout) := fun _ _ _ => none
def F24 (N : Nat) (t1 : List (Int × Int × ByteArray × Unit)) (b1000a : Int) (b1000ba : Int) (b1000bba : Int) (b1000bbba : ByteArray) (b1000bbbba : Int) (b1000bbbbba : List (Int × Int × ByteArray × Unit)) : Option (HS.den X24.hout) :=
  bif ((decide ((0 : Int) ≤ (0 : Int))) && (decide ((0 : Int) < (((List.length t1) : Nat) : Int)))) then
    some (([] : List (Int × (Int × (ByteArray × Unit)))), ((b1000a, ((List.getD t1 (Int.toNat (0 : Int)) ((0 : Int), ((0 : Int), (ByteArray.empty, ())))).1, (((List.getD t1 (Int.toNat (0 : Int)) ((0 : Int), ((0 : Int), (ByteArray.empty, ())))).2).1, ((((List.getD t1 (Int.toNat (0 : Int)) ((0 : Int), ((0 : Int), (ByteArray.empty, ())))).2).2).1, (b1000bbbba, (b1000bbbbba, ())))))), ()))
  else
    none
theorem loops24 (N : Nat) : loopsOk C24 (L24 N) Go.Proofs.Tryd.f24 := ⟨trivial, ⟨trivial, ⟨trivial, trivial⟩⟩⟩
theorem runs24 (N : Nat) (x : HS.den X24.hin) : runX C24 X24 (L24 N) Go.Proofs.Tryd.f24 x = F24 N x.2.1 x.2.2.1.1 x.2.2.1.2.1 x.2.2.1.2.2.1 x.2.2.1.2.2.2.1 x.2.2.1.2.2.2.2.1 x.2.2.1.2.2.2.2.2.1 := by kernel_rfl

/-! ### 25: (*incognito/reg.cell).read -/
def L25 (_ : Nat) : Loops (HS.den X25.hout) := fun _ _ _ => none
def F25 (N : Nat) (t1 : List (Int × Int × ByteArray × Unit)) (b1000a : Int) (b1000ba : Int) (b1000bba : Int) (b1000bbba : ByteArray) (b1000bbbba : Int) (b1000bbbbba : List (Int × Int × ByteArray × Unit)) : Option (HS.den X25.hout) :=
  some (((b1000ba, (b1000bba, (b1000bbba, ()))) :: ([] : List (Int × (Int × (ByteArray × Unit))))), ((b1000a, (b1000ba, (b1000bba, (b1000bbba, (b1000bbbba, (b1000bbbbba, ())))))), ()))
theorem loops25 (N : Nat) : loopsOk C25 (L25 N) Go.Proofs.Tryd.f25 := ⟨trivial, ⟨trivial, trivial⟩⟩
theorem runs25 (N : Nat) (x : HS.den X25.hin) : runX C25 X25 (L25 N) Go.Proofs.Tryd.f25 x = F25 N x.2.1 x.2.2.1.1 x.2.2.1.2.1 x.2.2.1.2.2.1 x.2.2.1.2.2.2.1 x.2.2.1.2.2.2.2.1 x.2.2.1.2.2.2.2.2.1 := by kernel_rfl

/-! ### 26x: (*incognito/reg.cell).swap -/
def L26x (_ : Nat) : Loops (HS.den X26x.hout) := fun _ _ _ => none
def F26x (N : Nat) (t1 : List (Int × Int × ByteArray × Unit)) (b1000a : Int) (b1000ba : Int) (b1000bba : Int) (b1000bbba : ByteArray) (b1000bbbba : Int) (b1000bbbbba : List (Int × Int × ByteArray × Unit)) : Option (HS.den X26x.hout) :=
  bif ((decide ((0 : Int) ≤ (0 : Int))) && (decide ((0 : Int) < (((List.length t1) : Nat) : Int)))) then
    bif (!((b1000ba == ((List.getD t1 (Int.toNat (0 : Int)) ((0 : Int), ((0 : Int), (ByteArray.empty, ())))).1)) && ((b1000bba == (((List.getD t1 (Int.toNat (0 : Int)) ((0 : Int), ((0 : Int), (ByteArray.empty, ())))).2).1)) && ((b1000bbba == ((((List.getD t1 (Int.toNat (0 : Int)) ((0 : Int), ((0 : Int), (ByteArray.empty, ())))).2).2).1)) && true)))) then
      some ((List.length (((3 : Int), ((0 : Int), (ByteArray.empty, ()))) :: ([] : List (Int × (Int × (ByteArray × Unit)))))), ((b1000a, (b1000ba, (b1000bba, (b1000bbba, (b1000bbbba, (b1000bbbbba, ())))))), ((((3 : Int), ((0 : Int), (ByteArray.empty, ()))) :: ([] : List (Int × (Int × (ByteArray × Unit))))), ())))
    else
      bif ((decide ((0 : Int) ≤ (1 : Int))) && (decide ((1 : Int) < (((List.length t1) : Nat) : Int)))) then
        some ((List.length (((3 : Int), ((1 : Int), (ByteArray.empty, ()))) :: ([] : List (Int × (Int × (ByteArray × Unit)))))), ((b1000a, ((List.getD t1 (Int.toNat (1 : Int)) ((0 : Int), ((0 : Int), (ByteArray.empty, ())))).1, (((List.getD t1 (Int.toNat (1 : Int)) ((0 : Int), ((0 : Int), (ByteArray.empty, ())))).2).1, ((((List.getD t1 (Int.toNat (1 : Int)) ((0 : Int), ((0 : Int), (ByteArray.empty, ())))).2).2).1, (b1000bbbba, (b1000bbbbba, ())))))), ((((3 : Int), ((1 : Int), (ByteArray.empty, ()))) :: ([] : List (Int × (Int × (ByteArray × Unit))))), ())))
      else
        none
  else
    none
theorem loops26x (N : Nat) : loopsOk C26x (L26x N) Go.Proofs.Tryd.f26 := ⟨trivial, ⟨⟨trivial, ⟨⟨trivial, trivial⟩, trivial⟩⟩, ⟨trivial, ⟨trivial, trivial⟩⟩⟩⟩
theorem runs26x (N : Nat) (x : HS.den X26x.hin) : runX C26x X26x (L26x N) Go.Proofs.Tryd.f26 x = F26x N x.2.1 x.2.2.1.1 x.2.2.1.2.1 x.2.2.1.2.2.1 x.2.2.1.2.2.2.1 x.2.2.1.2.2.2.2.1 x.2.2.1.2.2.2.2.2.1 := by kernel_rfl

/-! ### 50: cmp.isNaN[int] -/
def L50 (_ : Nat) : Loops (Bool × Unit) := fun _ _ _ => none
def F50 (N : Nat) (p0 : Int) : Option (Bool × Unit) :=
  some ((p0 != p0), ())
theorem loops50 (N : Nat) : loopsOk C50 (L50 N) Go.Proofs.Tryd.f50 := ⟨trivial, ⟨trivial, trivial⟩⟩
theorem runs50 (N : Nat) (x : S50.ta.den) : run C50 S50 (L50 N) Go.Proofs.Tryd.f50 x = F50 N x.1 := by kernel_rfl

/-! ### 45: cmp.Compare[int64] -/
def L45 (_ : Nat) : Loops (Int × Unit) := fun _ _ _ => none
def F45 (N : Nat) (p0 : Int) (p1 : Int) : Option (Int × Unit) :=
  bif decide (p0 < p1) then
    some ((-(1 : Int)), ())
  else
    bif decide (p0 > p1) then
      some ((1 : Int), ())
    else
      some ((0 : Int), ())
theorem loops45 (N : Nat) : loopsOk C45 (L45 N) Go.Proofs.Tryd.f45 := ⟨trivial, ⟨trivial, ⟨trivial, ⟨⟨trivial, ⟨⟨⟨trivial, ⟨⟨trivial, trivial⟩, trivial⟩⟩, ⟨trivial, trivial⟩⟩, trivial⟩⟩, ⟨⟨trivial, ⟨⟨trivial, trivial⟩, trivial⟩⟩, ⟨⟨trivial, ⟨⟨trivial, trivial⟩, trivial⟩⟩, ⟨⟨trivial, ⟨⟨trivial, trivial⟩, trivial⟩⟩, ⟨trivial, trivial⟩⟩⟩⟩⟩⟩⟩⟩
theorem runs45 (N : Nat) (x : S45.ta.den) : run C45 S45 (L45 N) Go.Proofs.Tryd.f45 x = F45 N x.1 x.2.1 := by kernel_rfl

/-! ### 46: strings.Compare -/
def L46 (_ : Nat) : Loops (Int × Unit) := fun _ _ _ => none
def F46 (N : Nat) (p0 : ByteArray) (p1 : ByteArray) : Option (Int × Unit) :=
  some ((Go.Abs.cmpS p0 p1), ())
theorem loops46 (N : Nat) : loopsOk C46 (L46 N) Go.Proofs.Tryd.f46 := ⟨trivial, ⟨trivial, trivial⟩⟩
theorem runs46 (N : Nat) (x : S46.ta.den) : run C46 S46 (L46 N) Go.Proofs.Tryd.f46 x = F46 N x.1 x.2.1 := by kernel_rfl

/-! ### 14: incognito/incognitoref07.Same -/
def W14_4 {β : Type} (N : Nat) (x0 : Bool → Option β) (x1 : Unit → Option β) : Nat → (List (Int × Int × ByteArray × Unit)) → (List (Int × Int × ByteArray × Unit)) → Int → Option β
  | 0, _, _, _ => none
  | n + 1, t0, t1, t5 =>
  bif decide (t5 < (((List.length t0) : Nat) : Int)) then
    bif ((decide ((0 : Int) ≤ t5)) && (decide (t5 < (((List.length t0) : Nat) : Int)))) then
      bif ((decide ((0 : Int) ≤ t5)) && (decide (t5 < (((List.length t1) : Nat) : Int)))) then
        bif (!((((List.getD t0 (Int.toNat t5) ((0 : Int), ((0 : Int), (ByteArray.empty, ())))).1) == ((List.getD t1 (Int.toNat t5) ((0 : Int), ((0 : Int), (ByteArray.empty, ())))).1)) && (((((List.getD t0 (Int.toNat t5) ((0 : Int), ((0 : Int), (ByteArray.empty, ())))).2).1) == (((List.getD t1 (Int.toNat t5) ((0 : Int), ((0 : Int), (ByteArray.empty, ())))).2).1)) && ((((((List.getD t0 (Int.toNat t5) ((0 : Int), ((0 : Int), (ByteArray.empty, ())))).2).2).1) == ((((List.getD t1 (Int.toNat t5) ((0 : Int), ((0 : Int), (ByteArray.empty, ())))).2).2).1)) && true)))) then
          x0 false
        else
          W14_4 N x0 x1 n t0 t1 (Go.IntKind.wrap .i64 (t5 + (1 : Int)))
      else
        none
    else
      none
  else
    x1 ()
def L14 (N : Nat) : Loops (Bool × Unit) := fun k ρ K => match Nat.beq k 4 with
  | true => (match adH ρ H14_4.hd with
    | some v => W14_4 N (fun t4 => K .ret (encH [(8, .bo)] (t4, ()))) (fun _ => K (.exit 0) (encH [] ())) N v.1 v.2.1 v.2.2.1
    | none => none)
  | false => none
def F14 (N : Nat) (p0 : List (Int × Int × ByteArray × Unit)) (p1 : List (Int × Int × ByteArray × Unit)) : Option (Bool × Unit) :=
  bif ((((List.length p0) : Nat) : Int) != (((List.length p1) : Nat) : Int)) then
    some (false, ())
  else
    W14_4 N
      (fun t4 =>
        some (t4, ()))
      (fun (_ : Unit) =>
        some (true, ()))
      N p0 p1 (0 : Int)
theorem loops14 (N : Nat) : loopsOk C14 (L14 N) Go.Proofs.Tryd.f14 := ⟨trivial, ⟨⟨trivial, ⟨⟨trivial, trivial⟩, trivial⟩⟩, ⟨⟨trivial, ⟨loopOk_of H14_4 N (fun K n v => W14_4 N (fun t4 => K .ret (encH [(8, .bo)] (t4, ()))) (fun _ => K (.exit 0) (encH [] ())) n v.1 v.2.1 v.2.2.1) (by kernel_rfl) (fun K v => by kernel_rfl) (fun K v => by kernel_rfl) (fun K n v => by kernel_rfl), ⟨⟨trivial, ⟨trivial, trivial⟩⟩, ⟨⟨trivial, ⟨⟨trivial, trivial⟩, trivial⟩⟩, trivial⟩⟩⟩⟩, ⟨trivial, trivial⟩⟩⟩⟩
theorem runs14 (N : Nat) (x : S14.ta.den) : run C14 S14 (L14 N) Go.Proofs.Tryd.f14 x = F14 N x.1 x.2.1 := by kernel_rfl

/-! ### 18: incognito/incognitoref07.Less -/
def L18 (_ : Nat) : Loops (Bool × Unit) := fun _ _ _ => none
def F18 (N : Nat) (p0 : Int × Int × ByteArray × Unit) (p1 : Int × Int × ByteArray × Unit) : Option (Bool × Unit) :=
  bif (p0.1 != p1.1) then
    some (decide (p0.1 < p1.1), ())
  else
    bif (p0.2.1 != p1.2.1) then
      some (decide (p0.2.1 < p1.2.1), ())
    else
      some ((Go.Op.bytesLess (ByteArray.toList p0.2.2.1) (ByteArray.toList p1.2.2.1)), ())
theorem loops18 (N : Nat) : loopsOk C18 (L18 N) Go.Proofs.Tryd.f18 := ⟨trivial, ⟨⟨trivial, ⟨⟨trivial, trivial⟩, trivial⟩⟩, ⟨⟨trivial, ⟨⟨trivial, trivial⟩, trivial⟩⟩, ⟨trivial, trivial⟩⟩⟩⟩
theorem runs18 (N : Nat) (x : S18.ta.den) : run C18 S18 (L18 N) Go.Proofs.Tryd.f18 x = F18 N x.1 x.2.1 := by kernel_rfl

/-! ### 49: incognito/incognitoref07.letter -/
def W49_2 {β : Type} (N : Nat) (x0 : Bool → Option β) (x1 : Int → Bool → Option β) : Nat → Int → Bool → Int → Option β
  | 0, _, _, _ => none
  | n + 1, t0, t1, t5 =>
  bif decide (t5 ≤ (122 : Int)) then
    bif (t0 == t5) then
      x0 true
    else
      W49_2 N x0 x1 n t0 t1 (Go.IntKind.wrap .u8 (t5 + (1 : Int)))
  else
    x1 t0 t1
def L49 (N : Nat) : Loops (Bool × Unit) := fun k ρ K => match Nat.beq k 2 with
  | true => (match adH ρ H49_2.hd with
    | some v => W49_2 N (fun t4 => K .ret (encH [(8, .bo)] (t4, ()))) (fun t0 t1 => K (.exit 0) (encH [(0, (.i .u8)), (2, .bo)] (t0, (t1, ())))) N v.1 v.2.1 v.2.2.1
    | none => none)
  | false => none
def F49 (N : Nat) (p0 : Int) (p1 : Bool) : Option (Bool × Unit) :=
  W49_2 N
    (fun t4 =>
      some (t4, ()))
    (fun t0 t1 =>
      bif (!t1) then
        bif (t0 == (95 : Int)) then
          some (true, ())
        else
          bif decide (t0 ≥ (48 : Int)) then
            some (decide (t0 ≤ (57 : Int)), ())
          else
            some (false, ())
      else
        some (false, ()))
    N p0 p1 (97 : Int)
theorem loops49 (N : Nat) : loopsOk C49 (L49 N) Go.Proofs.Tryd.f49 := ⟨trivial, ⟨⟨trivial, ⟨loopOk_of H49_2 N (fun K n v => W49_2 N (fun t4 => K .ret (encH [(8, .bo)] (t4, ()))) (fun t0 t1 => K (.exit 0) (encH [(0, (.i .u8)), (2, .bo)] (t0, (t1, ())))) n v.1 v.2.1 v.2.2.1) (by kernel_rfl) (fun K v => by kernel_rfl) (fun K v => by kernel_rfl) (fun K n v => by kernel_rfl), ⟨⟨trivial, ⟨trivial, trivial⟩⟩, ⟨⟨trivial, ⟨⟨trivial, trivial⟩, trivial⟩⟩, trivial⟩⟩⟩⟩, ⟨trivial, trivial⟩⟩⟩
theorem runs49 (N : Nat) (x : S49.ta.den) : run C49 S49 (L49 N) Go.Proofs.Tryd.f49 x = F49 N x.1 x.2.1 := by kernel_rfl

/-! ### 30: incognito/incognitoref07.Right -/
def L30 (_ : Nat) : Loops (Bool × Unit) := fun _ _ _ => none
def F30 (N : Nat) (p0 : Int × Int × ByteArray × Unit) : Option (Bool × Unit) :=
  bif (p0.1 == (0 : Int)) then
    bif (p0.2.1 == (0 : Int)) then
      some (((ByteArray.toList p0.2.2.1) == (ByteArray.toList (strL []))), ())
    else
      some (false, ())
  else
    bif (p0.1 == (1 : Int)) then
      some (((ByteArray.toList p0.2.2.1) == (ByteArray.toList (strL []))), ())
    else
      bif (p0.1 == (2 : Int)) then
        bif (p0.2.1 == (0 : Int)) then
          bif (Go.Inc.okS p0.2.2.1) then
            some ((Go.Inc.isWord p0.2.2.1), ())
          else
            none
        else
          some (false, ())
      else
        bif (p0.1 == (3 : Int)) then
          bif (p0.2.1 == (0 : Int)) then
            some (((ByteArray.toList p0.2.2.1) == (ByteArray.toList (strL []))), ())
          else
            bif (p0.2.1 == (1 : Int)) then
              some (((ByteArray.toList p0.2.2.1) == (ByteArray.toList (strL []))), ())
            else
              some (false, ())
        else
          some (false, ())
theorem loops30 (N : Nat) : loopsOk C30 (L30 N) Go.Proofs.Tryd.f30 := ⟨trivial, ⟨⟨trivial, ⟨trivial, ⟨⟨trivial, trivial⟩, ⟨trivial, ⟨⟨trivial, trivial⟩, ⟨trivial, ⟨⟨trivial, trivial⟩, ⟨trivial, ⟨⟨trivial, trivial⟩, trivial⟩⟩⟩⟩⟩⟩⟩⟩⟩, ⟨trivial, trivial⟩⟩⟩
theorem runs30 (N : Nat) (x : S30.ta.den) : run C30 S30 (L30 N) Go.Proofs.Tryd.f30 x = F30 N x.1 := by kernel_rfl

/-! ### 17: incognito/incognitoref07.Name -/
def L17 (_ : Nat) : Loops (Bool × Unit) := fun _ _ _ => none
def F17 (N : Nat) (p0 : Int × Int × ByteArray × Unit) : Option (Bool × Unit) :=
  bif (Go.Inc.okV p0) then
    bif (Go.Inc.right p0) then
      bif (p0.1 == (1 : Int)) then
        some (true, ())
      else
        some ((p0.1 == (2 : Int)), ())
    else
      some (false, ())
  else
    none
theorem loops17 (N : Nat) : loopsOk C17 (L17 N) Go.Proofs.Tryd.f17 := ⟨trivial, ⟨trivial, trivial⟩⟩
theorem runs17 (N : Nat) (x : S17.ta.den) : run C17 S17 (L17 N) Go.Proofs.Tryd.f17 x = F17 N x.1 := by kernel_rfl

/-! ### 47: incognito/incognitoref09.ModelName -/
def L47 (_ : Nat) : Loops (ByteArray × Unit) := fun _ _ _ => none
def F47 (N : Nat) (p0 : Int) : Option (ByteArray × Unit) :=
  bif (p0 == (1 : Int)) then
    some ((strL [114, 101, 103]), ())
  else
    bif (p0 == (2 : Int)) then
      some ((strL [99, 97, 115]), ())
    else
      bif (p0 == (3 : Int)) then
        some ((strL [115, 101, 116]), ())
      else
        bif (p0 == (4 : Int)) then
          some ((strL [109, 97, 112]), ())
        else
          bif (p0 == (5 : Int)) then
            some ((strL [102, 105, 102, 111]), ())
          else
            bif (p0 == (6 : Int)) then
              some ((strL [115, 116, 97, 99, 107]), ())
            else
              bif (p0 == (7 : Int)) then
              some ((strL [108, 111, 99, 107]), ())
            else
              bif (p0 == (8 : Int)) then
              some ((strL [99, 111, 117, 110, 116]), ())
            else
              bif (p0 == (9 : Int)) then
              some ((strL [109, 97, 120]), ())
            else
              bif (p0 == (10 : Int)) then
              some ((strL [111, 109, 97, 112]), ())
            else
              some ((strL []), ())
theorem loops47 (N : Nat) : loopsOk C47 (L47 N) Go.Proofs.Tryd.f47 := ⟨trivial, ⟨⟨trivial, ⟨trivial, ⟨⟨trivial, trivial⟩, ⟨trivial, ⟨⟨trivial, trivial⟩, ⟨trivial, ⟨⟨trivial, trivial⟩, ⟨trivial, ⟨⟨trivial, trivial⟩, ⟨trivial, ⟨⟨trivial, trivial⟩, ⟨trivial, ⟨⟨trivial, trivial⟩, ⟨trivial, ⟨⟨trivial, trivial⟩, ⟨trivial, ⟨⟨trivial, trivial⟩, ⟨trivial, ⟨⟨trivial, trivial⟩, ⟨trivial, ⟨⟨trivial, trivial⟩, trivial⟩⟩⟩⟩⟩⟩⟩⟩⟩⟩⟩⟩⟩⟩⟩⟩⟩⟩⟩⟩⟩, ⟨trivial, trivial⟩⟩⟩
theorem runs47 (N : Nat) (x : S47.ta.den) : run C47 S47 (L47 N) Go.Proofs.Tryd.f47 x = F47 N x.1 := by kernel_rfl

/-! ### 29: incognito/incognitoref13.Yes -/
def L29 (_ : Nat) : Loops ((Int × Int × ByteArray × Unit) × Unit) := fun _ _ _ => none
def F29 (N : Nat) (p0 : Bool) : Option ((Int × Int × ByteArray × Unit) × Unit) :=
  bif p0 then
    some (((3 : Int), ((1 : Int), (ByteArray.empty, ()))), ())
  else
    some (((3 : Int), ((0 : Int), (ByteArray.empty, ()))), ())
theorem loops29 (N : Nat) : loopsOk C29 (L29 N) Go.Proofs.Tryd.f29 := ⟨trivial, ⟨⟨trivial, ⟨⟨trivial, trivial⟩, trivial⟩⟩, ⟨trivial, trivial⟩⟩⟩
theorem runs29 (N : Nat) (x : S29.ta.den) : run C29 S29 (L29 N) Go.Proofs.Tryd.f29 x = F29 N x.1 := by kernel_rfl

/-! ### 4: incognito/incognitolaw13.RegRises -/
def W4_19 {β : Type} (N : Nat) (x3 : (List (Int × Int × ByteArray × Unit)) → Int → Int → ByteArray → Int → Int → Int → ByteArray → Int → (List (Int × Int × ByteArray × Unit)) → Int → Int → ByteArray → Int → Int → Int → ByteArray → Int → (List (Int × Int × ByteArray × Unit)) → (List (Int × Int × ByteArray × Unit)) → Bool → (List (Int × Int × ByteArray × Unit)) → Int → Int → Option β) : Nat → (List (Int × Int × ByteArray × Unit)) → Int → Int → ByteArray → Int → Int → Int → ByteArray → Int → (List (Int × Int × ByteArray × Unit)) → Int → Int → ByteArray → Int → Int → Int → ByteArray → Int → (List (Int × Int × ByteArray × Unit)) → (List (Int × Int × ByteArray × Unit)) → Bool → (List (Int × Int × ByteArray × Unit)) → Int → Int → (List (Int × Int × ByteArray × Unit)) → Int → Int → Option β
  | 0, _, _, _, _, _, _, _, _, _, _, _, _, _, _, _, _, _, _, _, _, _, _, _, _, _, _, _ => none
  | n + 1, t0, b3a, b3ba, b3bba, b4a, b4ba, b4bba, b4bbba, b4bbbba, b4bbbbba, b6a, b6ba, b6bba, b9a, b9ba, b9bba, b9bbba, b9bbbba, b9bbbbba, t13, t15, t29, t30, t31, t89, t90, t91 =>
  bif decide (t91 < t90) then
    bif ((decide ((0 : Int) ≤ t91)) && (decide (t91 < (((List.length t89) : Nat) : Int)))) then
      bif t15 then
        W4_19 N x3 n t0 b3a b3ba b3bba b4a b4ba b4bba b4bbba b4bbbba b4bbbbba b6a b6ba b6bba b9a b9ba b9bba b9bbba b9bbbba b9bbbbba t13 true t29 t30 t31 t89 t90 (Go.IntKind.wrap .i64 (t91 + (1 : Int)))
      else
        bif ((decide ((0 : Int) ≤ (0 : Int))) && (decide ((0 : Int) < (((List.length t13) : Nat) : Int)))) then
          W4_19 N x3 n t0 b3a b3ba b3bba b4a b4ba b4bba b4bbba b4bbbba b4bbbbba b6a b6ba b6bba b9a b9ba b9bba b9bbba b9bbbba b9bbbbba t13 ((((List.getD t89 (Int.toNat t91) ((0 : Int), ((0 : Int), (ByteArray.empty, ())))).1) == ((List.getD t13 (Int.toNat (0 : Int)) ((0 : Int), ((0 : Int), (ByteArray.empty, ())))).1)) && (((((List.getD t89 (Int.toNat t91) ((0 : Int), ((0 : Int), (ByteArray.empty, ())))).2).1) == (((List.getD t13 (Int.toNat (0 : Int)) ((0 : Int), ((0 : Int), (ByteArray.empty, ())))).2).1)) && ((((((List.getD t89 (Int.toNat t91) ((0 : Int), ((0 : Int), (ByteArray.empty, ())))).2).2).1) == ((((List.getD t13 (Int.toNat (0 : Int)) ((0 : Int), ((0 : Int), (ByteArray.empty, ())))).2).2).1)) && true))) t29 t30 t31 t89 t90 (Go.IntKind.wrap .i64 (t91 + (1 : Int)))
        else
          none
    else
      none
  else
    x3 t0 b3a b3ba b3bba b4a b4ba b4bba b4bbba b4bbbba b4bbbbba b6a b6ba b6bba b9a b9ba b9bba b9bbba b9bbbba b9bbbbba t13 t15 t29 t30 t31
def W4_9 {β : Type} (N : Nat) (x0 : Bool → Option β) (x1 : Unit → Option β) : Nat → (List (Int × Int × ByteArray × Unit)) → Int → Int → ByteArray → Int → Int → Int → ByteArray → Int → (List (Int × Int × ByteArray × Unit)) → Int → Int → ByteArray → (List (Int × Int × ByteArray × Unit)) → Int → Int → Option β
  | 0, _, _, _, _, _, _, _, _, _, _, _, _, _, _, _, _ => none
  | n + 1, t0, b3a, b3ba, b3bba, b4a, b4ba, b4bba, b4bbba, b4bbbba, b4bbbbba, b6a, b6ba, b6bba, t29, t30, t31 =>
  bif decide (t31 < t30) then
    bif ((decide ((0 : Int) ≤ t31)) && (decide (t31 < (((List.length t29) : Nat) : Int)))) then
      bif decide ((((ByteArray.size ((((List.getD t29 (Int.toNat t31) ((0 : Int), ((0 : Int), (ByteArray.empty, ())))).2).2).1)) : Nat) : Int) > (100 : Int)) then
        x0 true
      else
        bif (Go.Inc.okV (List.getD t29 (Int.toNat t31) ((0 : Int), ((0 : Int), (ByteArray.empty, ()))))) then
          bif (!(Go.Inc.name (List.getD t29 (Int.toNat t31) ((0 : Int), ((0 : Int), (ByteArray.empty, ())))))) then
            x0 true
          else
            bif (Go.Inc.okQStep (b4a, ((b4ba, (b4bba, (b4bbba, ()))), (b4bbbba, (b4bbbbba, ())))) (b3a, (b3ba, (b3bba, ()))) (1 : Int) ((List.getD t29 (Int.toNat t31) ((0 : Int), ((0 : Int), (ByteArray.empty, ())))) :: ([] : List (Int × (Int × (ByteArray × Unit)))))) then
              bif (Go.Inc.okQStep ((Go.Inc.regStep (b4a, ((b4ba, (b4bba, (b4bbba, ()))), (b4bbbba, (b4bbbbba, ())))) (b3a, (b3ba, (b3bba, ()))) (1 : Int) ((List.getD t29 (Int.toNat t31) ((0 : Int), ((0 : Int), (ByteArray.empty, ())))) :: ([] : List (Int × (Int × (ByteArray × Unit)))))).1) (b3a, (b3ba, (b3bba, ()))) (2 : Int) ([] : List (Int × (Int × (ByteArray × Unit))))) then
              bif (!((((Go.Inc.regStep (b4a, ((b4ba, (b4bba, (b4bbba, ()))), (b4bbbba, (b4bbbbba, ())))) (b3a, (b3ba, (b3bba, ()))) (1 : Int) ((List.getD t29 (Int.toNat t31) ((0 : Int), ((0 : Int), (ByteArray.empty, ())))) :: ([] : List (Int × (Int × (ByteArray × Unit)))))).2).2).1)) then
              x0 false
            else
              bif (!((((Go.Inc.regStep ((Go.Inc.regStep (b4a, ((b4ba, (b4bba, (b4bbba, ()))), (b4bbbba, (b4bbbbba, ())))) (b3a, (b3ba, (b3bba, ()))) (1 : Int) ((List.getD t29 (Int.toNat t31) ((0 : Int), ((0 : Int), (ByteArray.empty, ())))) :: ([] : List (Int × (Int × (ByteArray × Unit)))))).1) (b3a, (b3ba, (b3bba, ()))) (2 : Int) ([] : List (Int × (Int × (ByteArray × Unit))))).2).2).1)) then
              x0 false
            else
              bif ((((List.length (((Go.Inc.regStep ((Go.Inc.regStep (b4a, ((b4ba, (b4bba, (b4bbba, ()))), (b4bbbba, (b4bbbbba, ())))) (b3a, (b3ba, (b3bba, ()))) (1 : Int) ((List.getD t29 (Int.toNat t31) ((0 : Int), ((0 : Int), (ByteArray.empty, ())))) :: ([] : List (Int × (Int × (ByteArray × Unit)))))).1) (b3a, (b3ba, (b3bba, ()))) (2 : Int) ([] : List (Int × (Int × (ByteArray × Unit))))).2).1)) : Nat) : Int) != (1 : Int)) then
              x0 false
            else
              bif ((decide ((0 : Int) ≤ (0 : Int))) && (decide ((0 : Int) < (((List.length (((Go.Inc.regStep ((Go.Inc.regStep (b4a, ((b4ba, (b4bba, (b4bbba, ()))), (b4bbbba, (b4bbbbba, ())))) (b3a, (b3ba, (b3bba, ()))) (1 : Int) ((List.getD t29 (Int.toNat t31) ((0 : Int), ((0 : Int), (ByteArray.empty, ())))) :: ([] : List (Int × (Int × (ByteArray × Unit)))))).1) (b3a, (b3ba, (b3bba, ()))) (2 : Int) ([] : List (Int × (Int × (ByteArray × Unit))))).2).1)) : Nat) : Int)))) then
              bif (Go.Inc.lessV (List.getD (((Go.Inc.regStep ((Go.Inc.regStep (b4a, ((b4ba, (b4bba, (b4bbba, ()))), (b4bbbba, (b4bbbbba, ())))) (b3a, (b3ba, (b3bba, ()))) (1 : Int) ((List.getD t29 (Int.toNat t31) ((0 : Int), ((0 : Int), (ByteArray.empty, ())))) :: ([] : List (Int × (Int × (ByteArray × Unit)))))).1) (b3a, (b3ba, (b3bba, ()))) (2 : Int) ([] : List (Int × (Int × (ByteArray × Unit))))).2).1) (Int.toNat (0 : Int)) ((0 : Int), ((0 : Int), (ByteArray.empty, ())))) (b6a, (b6ba, (b6bba, ())))) then
              x0 false
            else
              bif ((decide ((0 : Int) ≤ (0 : Int))) && (decide ((0 : Int) < (((List.length (((Go.Inc.regStep ((Go.Inc.regStep (b4a, ((b4ba, (b4bba, (b4bbba, ()))), (b4bbbba, (b4bbbbba, ())))) (b3a, (b3ba, (b3bba, ()))) (1 : Int) ((List.getD t29 (Int.toNat t31) ((0 : Int), ((0 : Int), (ByteArray.empty, ())))) :: ([] : List (Int × (Int × (ByteArray × Unit)))))).1) (b3a, (b3ba, (b3bba, ()))) (2 : Int) ([] : List (Int × (Int × (ByteArray × Unit))))).2).1)) : Nat) : Int)))) then
              bif (Go.Inc.lessV (List.getD (((Go.Inc.regStep ((Go.Inc.regStep (b4a, ((b4ba, (b4bba, (b4bbba, ()))), (b4bbbba, (b4bbbbba, ())))) (b3a, (b3ba, (b3bba, ()))) (1 : Int) ((List.getD t29 (Int.toNat t31) ((0 : Int), ((0 : Int), (ByteArray.empty, ())))) :: ([] : List (Int × (Int × (ByteArray × Unit)))))).1) (b3a, (b3ba, (b3bba, ()))) (2 : Int) ([] : List (Int × (Int × (ByteArray × Unit))))).2).1) (Int.toNat (0 : Int)) ((0 : Int), ((0 : Int), (ByteArray.empty, ())))) (List.getD t29 (Int.toNat t31) ((0 : Int), ((0 : Int), (ByteArray.empty, ()))))) then
              x0 false
            else
              bif ((decide ((0 : Int) ≤ (0 : Int))) && ((decide ((0 : Int) ≤ (Go.IntKind.wrap .i64 (t31 + (1 : Int))))) && (decide ((Go.IntKind.wrap .i64 (t31 + (1 : Int))) ≤ (((List.length t0) : Nat) : Int))))) then
              W4_19 N
              (fun t0 b3a b3ba b3bba b4a b4ba b4bba b4bbba b4bbbba b4bbbbba b6a b6ba b6bba b9a b9ba b9bba b9bbba b9bbbba b9bbbbba t13 t15 t29 t30 t31 =>
                bif (!t15) then
              x0 false
            else
              bif ((decide ((0 : Int) ≤ (0 : Int))) && (decide ((0 : Int) < (((List.length t13) : Nat) : Int)))) then
              W4_9 N x0 x1 n t0 b3a b3ba b3bba b9a b9ba b9bba b9bbba b9bbbba b9bbbbba ((List.getD t13 (Int.toNat (0 : Int)) ((0 : Int), ((0 : Int), (ByteArray.empty, ())))).1) (((List.getD t13 (Int.toNat (0 : Int)) ((0 : Int), ((0 : Int), (ByteArray.empty, ())))).2).1) ((((List.getD t13 (Int.toNat (0 : Int)) ((0 : Int), ((0 : Int), (ByteArray.empty, ())))).2).2).1) t29 t30 (Go.IntKind.wrap .i64 (t31 + (1 : Int)))
            else
              none)
              N t0 b3a b3ba b3bba b4a b4ba b4bba b4bbba b4bbbba b4bbbbba b6a b6ba b6bba (((Go.Inc.regStep (b4a, ((b4ba, (b4bba, (b4bbba, ()))), (b4bbbba, (b4bbbbba, ())))) (b3a, (b3ba, (b3bba, ()))) (1 : Int) ((List.getD t29 (Int.toNat t31) ((0 : Int), ((0 : Int), (ByteArray.empty, ())))) :: ([] : List (Int × (Int × (ByteArray × Unit)))))).1).1) (((((Go.Inc.regStep (b4a, ((b4ba, (b4bba, (b4bbba, ()))), (b4bbbba, (b4bbbbba, ())))) (b3a, (b3ba, (b3bba, ()))) (1 : Int) ((List.getD t29 (Int.toNat t31) ((0 : Int), ((0 : Int), (ByteArray.empty, ())))) :: ([] : List (Int × (Int × (ByteArray × Unit)))))).1).2).1).1) ((((((Go.Inc.regStep (b4a, ((b4ba, (b4bba, (b4bbba, ()))), (b4bbbba, (b4bbbbba, ())))) (b3a, (b3ba, (b3bba, ()))) (1 : Int) ((List.getD t29 (Int.toNat t31) ((0 : Int), ((0 : Int), (ByteArray.empty, ())))) :: ([] : List (Int × (Int × (ByteArray × Unit)))))).1).2).1).2).1) (((((((Go.Inc.regStep (b4a, ((b4ba, (b4bba, (b4bbba, ()))), (b4bbbba, (b4bbbbba, ())))) (b3a, (b3ba, (b3bba, ()))) (1 : Int) ((List.getD t29 (Int.toNat t31) ((0 : Int), ((0 : Int), (ByteArray.empty, ())))) :: ([] : List (Int × (Int × (ByteArray × Unit)))))).1).2).1).2).2).1) (((((Go.Inc.regStep (b4a, ((b4ba, (b4bba, (b4bbba, ()))), (b4bbbba, (b4bbbbba, ())))) (b3a, (b3ba, (b3bba, ()))) (1 : Int) ((List.getD t29 (Int.toNat t31) ((0 : Int), ((0 : Int), (ByteArray.empty, ())))) :: ([] : List (Int × (Int × (ByteArray × Unit)))))).1).2).2).1) ((((((Go.Inc.regStep (b4a, ((b4ba, (b4bba, (b4bbba, ()))), (b4bbbba, (b4bbbbba, ())))) (b3a, (b3ba, (b3bba, ()))) (1 : Int) ((List.getD t29 (Int.toNat t31) ((0 : Int), ((0 : Int), (ByteArray.empty, ())))) :: ([] : List (Int × (Int × (ByteArray × Unit)))))).1).2).2).2).1) (((Go.Inc.regStep ((Go.Inc.regStep (b4a, ((b4ba, (b4bba, (b4bbba, ()))), (b4bbbba, (b4bbbbba, ())))) (b3a, (b3ba, (b3bba, ()))) (1 : Int) ((List.getD t29 (Int.toNat t31) ((0 : Int), ((0 : Int), (ByteArray.empty, ())))) :: ([] : List (Int × (Int × (ByteArray × Unit)))))).1) (b3a, (b3ba, (b3bba, ()))) (2 : Int) ([] : List (Int × (Int × (ByteArray × Unit))))).2).1) false t29 t30 t31 (Go.Abs.sub t0 (0 : Int) (Go.IntKind.wrap .i64 (t31 + (1 : Int)))) (((List.length (Go.Abs.sub t0 (0 : Int) (Go.IntKind.wrap .i64 (t31 + (1 : Int))))) : Nat) : Int) (0 : Int)
            else
              none
            else
              none
            else
              none
            else
              none
            else
              none
        else
          none
    else
      none
  else
    x1 ()
def L4 (N : Nat) : Loops (Bool × Unit) := fun k ρ K => match Nat.beq k 19 with
  | true => (match adH ρ H4_19.hd with
    | some v => W4_19 N (fun t0 b3a b3ba b3bba b4a b4ba b4bba b4bbba b4bbbba b4bbbbba b6a b6ba b6bba b9a b9ba b9bba b9bbba b9bbbba b9bbbbba t13 t15 t29 t30 t31 => K (.exit 2) (encH [(0, (.sl (.pr (.int .i64) (.pr (.int .i64) (.pr .str .un))) .no)), (6, (.bx 3 0)), (7, (.pr (.i .i64) (.pr (.i .i64) (.pr .st .un)))), (8, (.bx 4 0)), (9, (.pr (.i .i64) (.pr (.i .i64) (.pr (.i .i64) (.pr .st (.pr (.i .i64) (.pr (.sl (.pr (.int .i64) (.pr (.int .i64) (.pr .str .un))) .no) .un))))))), (12, (.bx 6 0)), (13, (.pr (.i .i64) (.pr (.i .i64) (.pr .st .un)))), (18, (.bx 9 0)), (19, (.pr (.i .i64) (.pr (.i .i64) (.pr (.i .i64) (.pr .st (.pr (.i .i64) (.pr (.sl (.pr (.int .i64) (.pr (.int .i64) (.pr .str .un))) .no) .un))))))), (26, (.sl (.pr (.int .i64) (.pr (.int .i64) (.pr .str .un))) .no)), (30, .bo), (58, (.sl (.pr (.int .i64) (.pr (.int .i64) (.pr .str .un))) .no)), (60, (.i .i64)), (62, (.i .i64))] (t0, ((), ((b3a, (b3ba, (b3bba, ()))), ((), ((b4a, (b4ba, (b4bba, (b4bbba, (b4bbbba, (b4bbbbba, ())))))), ((), ((b6a, (b6ba, (b6bba, ()))), ((), ((b9a, (b9ba, (b9bba, (b9bbba, (b9bbbba, (b9bbbbba, ())))))), (t13, (t15, (t29, (t30, (t31, ())))))))))))))))) N v.1 v.2.2.1.1 v.2.2.1.2.1 v.2.2.1.2.2.1 v.2.2.2.2.1.1 v.2.2.2.2.1.2.1 v.2.2.2.2.1.2.2.1 v.2.2.2.2.1.2.2.2.1 v.2.2.2.2.1.2.2.2.2.1 v.2.2.2.2.1.2.2.2.2.2.1 v.2.2.2.2.2.2.1.1 v.2.2.2.2.2.2.1.2.1 v.2.2.2.2.2.2.1.2.2.1 v.2.2.2.2.2.2.2.2.1.1 v.2.2.2.2.2.2.2.2.1.2.1 v.2.2.2.2.2.2.2.2.1.2.2.1 v.2.2.2.2.2.2.2.2.1.2.2.2.1 v.2.2.2.2.2.2.2.2.1.2.2.2.2.1 v.2.2.2.2.2.2.2.2.1.2.2.2.2.2.1 v.2.2.2.2.2.2.2.2.2.1 v.2.2.2.2.2.2.2.2.2.2.1 v.2.2.2.2.2.2.2.2.2.2.2.1 v.2.2.2.2.2.2.2.2.2.2.2.2.1 v.2.2.2.2.2.2.2.2.2.2.2.2.2.1 v.2.2.2.2.2.2.2.2.2.2.2.2.2.2.1 v.2.2.2.2.2.2.2.2.2.2.2.2.2.2.2.1 v.2.2.2.2.2.2.2.2.2.2.2.2.2.2.2.2.1
    | none => none)
  | false => match Nat.beq k 9 with
  | true => (match adH ρ H4_9.hd with
    | some v => W4_9 N (fun t2 => K .ret (encH [(4, .bo)] (t2, ()))) (fun _ => K (.exit 0) (encH [] ())) N v.1 v.2.2.1.1 v.2.2.1.2.1 v.2.2.1.2.2.1 v.2.2.2.2.1.1 v.2.2.2.2.1.2.1 v.2.2.2.2.1.2.2.1 v.2.2.2.2.1.2.2.2.1 v.2.2.2.2.1.2.2.2.2.1 v.2.2.2.2.1.2.2.2.2.2.1 v.2.2.2.2.2.2.1.1 v.2.2.2.2.2.2.1.2.1 v.2.2.2.2.2.2.1.2.2.1 v.2.2.2.2.2.2.2.1 v.2.2.2.2.2.2.2.2.1 v.2.2.2.2.2.2.2.2.2.1
    | none => none)
  | false => none
def F4 (N : Nat) (p0 : List (Int × Int × ByteArray × Unit)) : Option (Bool × Unit) :=
  bif decide ((((List.length p0) : Nat) : Int) > (40 : Int)) then
    some (true, ())
  else
    W4_9 N
      (fun t2 =>
        some (t2, ()))
      (fun (_ : Unit) =>
        some (true, ()))
      N p0 ((Go.Inc.num' (1 : Int)).1) (((Go.Inc.num' (1 : Int)).2).1) ((((Go.Inc.num' (1 : Int)).2).2).1) (((Go.Inc.regNew (9 : Int)).1).1) (((((Go.Inc.regNew (9 : Int)).1).2).1).1) ((((((Go.Inc.regNew (9 : Int)).1).2).1).2).1) (((((((Go.Inc.regNew (9 : Int)).1).2).1).2).2).1) (((((Go.Inc.regNew (9 : Int)).1).2).2).1) ((((((Go.Inc.regNew (9 : Int)).1).2).2).2).1) (0 : Int) (0 : Int) ByteArray.empty p0 (((List.length p0) : Nat) : Int) (0 : Int)
theorem loops4 (N : Nat) : loopsOk C4 (L4 N) Go.Proofs.Tryd.f4 := ⟨trivial, ⟨⟨trivial, ⟨⟨trivial, trivial⟩, trivial⟩⟩, ⟨⟨trivial, ⟨⟨trivial, trivial⟩, trivial⟩⟩, ⟨trivial, ⟨trivial, ⟨trivial, ⟨⟨trivial, ⟨loopOk_of H4_9 N (fun K n v => W4_9 N (fun t2 => K .ret (encH [(4, .bo)] (t2, ()))) (fun _ => K (.exit 0) (encH [] ())) n v.1 v.2.2.1.1 v.2.2.1.2.1 v.2.2.1.2.2.1 v.2.2.2.2.1.1 v.2.2.2.2.1.2.1 v.2.2.2.2.1.2.2.1 v.2.2.2.2.1.2.2.2.1 v.2.2.2.2.1.2.2.2.2.1 v.2.2.2.2.1.2.2.2.2.2.1 v.2.2.2.2.2.2.1.1 v.2.2.2.2.2.2.1.2.1 v.2.2.2.2.2.2.1.2.2.1 v.2.2.2.2.2.2.2.1 v.2.2.2.2.2.2.2.2.1 v.2.2.2.2.2.2.2.2.2.1) (by kernel_rfl) (fun K v => by kernel_rfl) (fun K v => by kernel_rfl) (fun K n v => by kernel_rfl), ⟨trivial, ⟨⟨trivial, trivial⟩, ⟨⟨trivial, ⟨⟨trivial, ⟨⟨trivial, trivial⟩, trivial⟩⟩, ⟨trivial, ⟨trivial, ⟨⟨trivial, ⟨⟨trivial, trivial⟩, trivial⟩⟩, ⟨trivial, ⟨⟨trivial, ⟨loopOk_of H4_19 N (fun K n v => W4_19 N (fun t0 b3a b3ba b3bba b4a b4ba b4bba b4bbba b4bbbba b4bbbbba b6a b6ba b6bba b9a b9ba b9bba b9bbba b9bbbba b9bbbbba t13 t15 t29 t30 t31 => K (.exit 2) (encH [(0, (.sl (.pr (.int .i64) (.pr (.int .i64) (.pr .str .un))) .no)), (6, (.bx 3 0)), (7, (.pr (.i .i64) (.pr (.i .i64) (.pr .st .un)))), (8, (.bx 4 0)), (9, (.pr (.i .i64) (.pr (.i .i64) (.pr (.i .i64) (.pr .st (.pr (.i .i64) (.pr (.sl (.pr (.int .i64) (.pr (.int .i64) (.pr .str .un))) .no) .un))))))), (12, (.bx 6 0)), (13, (.pr (.i .i64) (.pr (.i .i64) (.pr .st .un)))), (18, (.bx 9 0)), (19, (.pr (.i .i64) (.pr (.i .i64) (.pr (.i .i64) (.pr .st (.pr (.i .i64) (.pr (.sl (.pr (.int .i64) (.pr (.int .i64) (.pr .str .un))) .no) .un))))))), (26, (.sl (.pr (.int .i64) (.pr (.int .i64) (.pr .str .un))) .no)), (30, .bo), (58, (.sl (.pr (.int .i64) (.pr (.int .i64) (.pr .str .un))) .no)), (60, (.i .i64)), (62, (.i .i64))] (t0, ((), ((b3a, (b3ba, (b3bba, ()))), ((), ((b4a, (b4ba, (b4bba, (b4bbba, (b4bbbba, (b4bbbbba, ())))))), ((), ((b6a, (b6ba, (b6bba, ()))), ((), ((b9a, (b9ba, (b9bba, (b9bbba, (b9bbbba, (b9bbbbba, ())))))), (t13, (t15, (t29, (t30, (t31, ())))))))))))))))) n v.1 v.2.2.1.1 v.2.2.1.2.1 v.2.2.1.2.2.1 v.2.2.2.2.1.1 v.2.2.2.2.1.2.1 v.2.2.2.2.1.2.2.1 v.2.2.2.2.1.2.2.2.1 v.2.2.2.2.1.2.2.2.2.1 v.2.2.2.2.1.2.2.2.2.2.1 v.2.2.2.2.2.2.1.1 v.2.2.2.2.2.2.1.2.1 v.2.2.2.2.2.2.1.2.2.1 v.2.2.2.2.2.2.2.2.1.1 v.2.2.2.2.2.2.2.2.1.2.1 v.2.2.2.2.2.2.2.2.1.2.2.1 v.2.2.2.2.2.2.2.2.1.2.2.2.1 v.2.2.2.2.2.2.2.2.1.2.2.2.2.1 v.2.2.2.2.2.2.2.2.1.2.2.2.2.2.1 v.2.2.2.2.2.2.2.2.2.1 v.2.2.2.2.2.2.2.2.2.2.1 v.2.2.2.2.2.2.2.2.2.2.2.1 v.2.2.2.2.2.2.2.2.2.2.2.2.1 v.2.2.2.2.2.2.2.2.2.2.2.2.2.1 v.2.2.2.2.2.2.2.2.2.2.2.2.2.2.1 v.2.2.2.2.2.2.2.2.2.2.2.2.2.2.2.1 v.2.2.2.2.2.2.2.2.2.2.2.2.2.2.2.2.1) (by kernel_rfl) (fun K v => by kernel_rfl) (fun K v => by kernel_rfl) (fun K n v => by kernel_rfl), ⟨trivial, ⟨⟨trivial, trivial⟩, ⟨⟨trivial, trivial⟩, trivial⟩⟩⟩⟩⟩, ⟨⟨trivial, ⟨⟨trivial, trivial⟩, trivial⟩⟩, ⟨trivial, trivial⟩⟩⟩⟩⟩⟩⟩⟩⟩, trivial⟩⟩⟩⟩⟩, ⟨trivial, trivial⟩⟩⟩⟩⟩⟩⟩⟩
theorem runs4 (N : Nat) (x : S4.ta.den) : run C4 S4 (L4 N) Go.Proofs.Tryd.f4 x = F4 N x.1 := by kernel_rfl

/-! ### 32x: incognito/sign.paired -/
def W32x_5 {β : Type} (N : Nat) (x0 : (List Int) → Bool → (List (Int × Int × ByteArray × Unit)) → Option β) (x1 : (List Int) → (List (Int × Int × ByteArray × Unit)) → Option β) : Nat → (List Int) → Nat → Int → Int → (List (Int × Int × ByteArray × Unit)) → Option β
  | 0, _, _, _, _, _ => none
  | n + 1, t4, t12, t13, t14, b1000 =>
  bif decide (t14 < t13) then
    bif ((decide ((0 : Int) ≤ t14)) && (decide (t14 < ((t12 : Nat) : Int)))) then
      bif decide ((Int.toNat t14) < (List.length b1000)) then
        bif ((Int.tmod t14 (2 : Int)) == (1 : Int)) then
          bif (Go.Inc.okT (2 : Int) (List.getD b1000 (Int.toNat t14) ((0 : Int), ((0 : Int), (ByteArray.empty, ()))))) then
            bif (!(Go.Inc.takes (2 : Int) (List.getD b1000 (Int.toNat t14) ((0 : Int), ((0 : Int), (ByteArray.empty, ())))))) then
              x0 ([] : List Int) false b1000
            else
              bif decide ((((List.length t4) + (List.length ((2 : Int) :: ([] : List Int)))) * 8) ≤ 140737488351232) then
              W32x_5 N x0 x1 n (t4 ++ ((2 : Int) :: ([] : List Int))) t12 t13 (Go.IntKind.wrap .i64 (t14 + (1 : Int))) b1000
            else
              none
          else
            none
        else
          bif (Go.Inc.okT (4 : Int) (List.getD b1000 (Int.toNat t14) ((0 : Int), ((0 : Int), (ByteArray.empty, ()))))) then
            bif (!(Go.Inc.takes (4 : Int) (List.getD b1000 (Int.toNat t14) ((0 : Int), ((0 : Int), (ByteArray.empty, ())))))) then
              x0 ([] : List Int) false b1000
            else
              bif decide ((((List.length t4) + (List.length ((4 : Int) :: ([] : List Int)))) * 8) ≤ 140737488351232) then
              W32x_5 N x0 x1 n (t4 ++ ((4 : Int) :: ([] : List Int))) t12 t13 (Go.IntKind.wrap .i64 (t14 + (1 : Int))) b1000
            else
              none
          else
            none
      else
        none
    else
      none
  else
    x1 t4 b1000
def L32x (N : Nat) : Loops (HS.den X32x.hout) := fun k ρ K => match Nat.beq k 5 with
  | true => (match adH ρ H32x_5.hd with
    | some v => W32x_5 N (fun t2 t3 b1000 => K .ret (encH [(4, (.sl (.int .i64) .full)), (6, .bo), (2001, (.ar (.pr (.int .i64) (.pr (.int .i64) (.pr .str .un)))))] (t2, (t3, (b1000, ()))))) (fun t4 b1000 => K (.exit 0) (encH [(8, (.sl (.int .i64) (.own 29))), (2001, (.ar (.pr (.int .i64) (.pr (.int .i64) (.pr .str .un)))))] (t4, (b1000, ())))) N v.1 v.2.1 v.2.2.1 v.2.2.2.1 v.2.2.2.2.1
    | none => none)
  | false => none
def F32x (N : Nat) (t0 : Nat) (b1000 : List (Int × Int × ByteArray × Unit)) : Option (HS.den X32x.hout) :=
  bif ((Int.tmod ((t0 : Nat) : Int) (2 : Int)) != (0 : Int)) then
    some (([] : List Int), (false, (b1000, ())))
  else
    W32x_5 N
      (fun t2 t3 b1000 =>
        some (t2, (t3, (b1000, ()))))
      (fun t4 b1000 =>
        some (t4, (true, (b1000, ()))))
      N ([] : List Int) t0 ((t0 : Nat) : Int) (0 : Int) b1000
theorem loops32x (N : Nat) : loopsOk C32x (L32x N) Go.Proofs.Tryd.f32 := ⟨trivial, ⟨⟨trivial, ⟨⟨trivial, trivial⟩, trivial⟩⟩, ⟨trivial, ⟨⟨trivial, ⟨loopOk_of H32x_5 N (fun K n v => W32x_5 N (fun t2 t3 b1000 => K .ret (encH [(4, (.sl (.int .i64) .full)), (6, .bo), (2001, (.ar (.pr (.int .i64) (.pr (.int .i64) (.pr .str .un)))))] (t2, (t3, (b1000, ()))))) (fun t4 b1000 => K (.exit 0) (encH [(8, (.sl (.int .i64) (.own 29))), (2001, (.ar (.pr (.int .i64) (.pr (.int .i64) (.pr .str .un)))))] (t4, (b1000, ())))) n v.1 v.2.1 v.2.2.1 v.2.2.2.1 v.2.2.2.2.1) (by kernel_rfl) (fun K v => by kernel_rfl) (fun K v => by kernel_rfl) (fun K n v => by kernel_rfl), ⟨trivial, ⟨⟨trivial, trivial⟩, ⟨⟨trivial, ⟨trivial, ⟨⟨trivial, ⟨trivial, trivial⟩⟩, ⟨⟨trivial, ⟨⟨trivial, trivial⟩, trivial⟩⟩, trivial⟩⟩⟩⟩, trivial⟩⟩⟩⟩⟩, ⟨trivial, trivial⟩⟩⟩⟩⟩
theorem runs32x (N : Nat) (x : HS.den X32x.hin) : runX C32x X32x (L32x N) Go.Proofs.Tryd.f32 x = F32x N x.1 x.2.1 := by kernel_rfl


end Go.L13
