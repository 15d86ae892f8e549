/- The walks of package reg and its statements. Printed by a program of this session. -/
import Derived.Test.YtmodjpjeepobpaaDoorW0
set_option linter.unusedVariables false
set_option maxRecDepth 100000
namespace Go.L13
open Go Go.Abs Go.Inc

/-! ### 39: slices.IndexFunc[[]incognito/sign.row,incognito/sign.row] -/
def W39_2 {β : Type} (N : Nat) (x0 : Int → Int → Int → Option β) (x1 : Int → Int → Option β) : Nat → (List (Int × Int × ByteArray × Int × Bool × Unit)) → Int → Int → Int → Int → Option β
  | 0, _, _, _, _, _ => none
  | n + 1, t0, t7, t8, b1000a, b1001a =>
  bif decide (t8 < t7) then
    bif ((decide ((0 : Int) ≤ t8)) && (decide (t8 < (((List.length t0) : Nat) : Int)))) then
      bif (Go.Inc.hitA ((List.getD t0 (Int.toNat t8) ((0 : Int), ((0 : Int), (ByteArray.empty, ((0 : Int), (false, ())))))).1) (((List.getD t0 (Int.toNat t8) ((0 : Int), ((0 : Int), (ByteArray.empty, ((0 : Int), (false, ())))))).2).1) ((((List.getD t0 (Int.toNat t8) ((0 : Int), ((0 : Int), (ByteArray.empty, ((0 : Int), (false, ())))))).2).2).1) (((((List.getD t0 (Int.toNat t8) ((0 : Int), ((0 : Int), (ByteArray.empty, ((0 : Int), (false, ())))))).2).2).2).1) ((((((List.getD t0 (Int.toNat t8) ((0 : Int), ((0 : Int), (ByteArray.empty, ((0 : Int), (false, ())))))).2).2).2).2).1) b1000a b1001a) then
        x0 t8 b1000a b1001a
      else
        W39_2 N x0 x1 n t0 t7 (Go.IntKind.wrap .i64 (t8 + (1 : Int))) b1000a b1001a
    else
      none
  else
    x1 b1000a b1001a
def L39 (N : Nat) : Loops (HS.den X39.hout) := fun k ρ K => match Nat.beq k 2 with
  | true => (match adH ρ H39_2.hd with
    | some v => W39_2 N (fun t4 b1000a b1001a => K .ret (encH [(8, (.i .i64)), (2001, (.pr (.i .i64) .un)), (2003, (.pr (.i .i64) .un))] (t4, ((b1000a, ()), ((b1001a, ()), ()))))) (fun b1000a b1001a => K (.exit 0) (encH [(2001, (.pr (.i .i64) .un)), (2003, (.pr (.i .i64) .un))] ((b1000a, ()), ((b1001a, ()), ())))) N v.1 v.2.2.1 v.2.2.2.1 v.2.2.2.2.1.1 v.2.2.2.2.2.1.1
    | none => none)
  | false => none
def F39 (N : Nat) (t0 : List (Int × Int × ByteArray × Int × Bool × Unit)) (b1000a : Int) (b1001a : Int) : Option (HS.den X39.hout) :=
  W39_2 N
    (fun t4 b1000a b1001a =>
      some (t4, ((b1000a, ()), ((b1001a, ()), ()))))
    (fun b1000a b1001a =>
      some ((-(1 : Int)), ((b1000a, ()), ((b1001a, ()), ()))))
    N t0 (((List.length t0) : Nat) : Int) (0 : Int) b1000a b1001a
theorem loops39 (N : Nat) : loopsOk C39 (L39 N) Go.Proofs.Tryd.f39 := ⟨trivial, ⟨⟨trivial, ⟨loopOk_of H39_2 N (fun K n v => W39_2 N (fun t4 b1000a b1001a => K .ret (encH [(8, (.i .i64)), (2001, (.pr (.i .i64) .un)), (2003, (.pr (.i .i64) .un))] (t4, ((b1000a, ()), ((b1001a, ()), ()))))) (fun b1000a b1001a => K (.exit 0) (encH [(2001, (.pr (.i .i64) .un)), (2003, (.pr (.i .i64) .un))] ((b1000a, ()), ((b1001a, ()), ())))) n v.1 v.2.2.1 v.2.2.2.1 v.2.2.2.2.1.1 v.2.2.2.2.2.1.1) (by kernel_rfl) (fun K v => by kernel_rfl) (fun K v => by kernel_rfl) (fun K n v => by kernel_rfl), ⟨trivial, ⟨⟨trivial, trivial⟩, ⟨⟨trivial, ⟨trivial, ⟨⟨trivial, trivial⟩, trivial⟩⟩⟩, trivial⟩⟩⟩⟩⟩, ⟨trivial, trivial⟩⟩⟩
theorem runs39 (N : Nat) (x : HS.den X39.hin) : runX C39 X39 (L39 N) Go.Proofs.Tryd.f39 x = F39 N x.1 x.2.2.1.1 x.2.2.2.1.1 := by kernel_rfl

/-! ### 31: incognito/sign.find -/
def L31 (_ : Nat) : Loops ((Int × Int × ByteArray × Int × Bool × Unit) × Bool × Unit) := fun _ _ _ => none
def F31 (N : Nat) (p0 : Int) (p1 : Int) : Option ((Int × Int × ByteArray × Int × Bool × Unit) × Bool × Unit) :=
  bif decide ((Go.Inc.idxR (((1 : Int), ((1 : Int), ((strL [118]), ((-(1 : Int)), (false, ()))))) :: (((1 : Int), ((2 : Int), ((strL []), ((2 : Int), (true, ()))))) :: (((2 : Int), ((1 : Int), ((strL [118]), ((-(1 : Int)), (false, ()))))) :: (((2 : Int), ((2 : Int), ((strL []), ((2 : Int), (true, ()))))) :: (((2 : Int), ((3 : Int), ((strL [118, 118]), ((6 : Int), (false, ()))))) :: (((3 : Int), ((4 : Int), ((strL [118]), ((-(1 : Int)), (false, ()))))) :: (((3 : Int), ((5 : Int), ((strL [118]), ((-(1 : Int)), (false, ()))))) :: (((3 : Int), ((6 : Int), ((strL [118]), ((6 : Int), (false, ()))))) :: (((4 : Int), ((7 : Int), ((strL [102, 118]), ((-(1 : Int)), (false, ()))))) :: (((4 : Int), ((8 : Int), ((strL [102]), ((2 : Int), (true, ()))))) :: (((4 : Int), ((5 : Int), ((strL [102]), ((-(1 : Int)), (false, ()))))) :: (((5 : Int), ((9 : Int), ((strL [118]), ((-(1 : Int)), (false, ()))))) :: (((5 : Int), ((10 : Int), ((strL []), ((2 : Int), (true, ()))))) :: (((6 : Int), ((9 : Int), ((strL [118]), ((-(1 : Int)), (false, ()))))) :: (((6 : Int), ((10 : Int), ((strL []), ((2 : Int), (true, ()))))) :: (((7 : Int), ((11 : Int), ((strL []), ((6 : Int), (false, ()))))) :: (((7 : Int), ((12 : Int), ((strL []), ((6 : Int), (false, ()))))) :: (((8 : Int), ((4 : Int), ((strL [110]), ((-(1 : Int)), (false, ()))))) :: (((8 : Int), ((2 : Int), ((strL []), ((5 : Int), (false, ()))))) :: (((9 : Int), ((1 : Int), ((strL [111]), ((-(1 : Int)), (false, ()))))) :: (((9 : Int), ((2 : Int), ((strL []), ((4 : Int), (true, ()))))) :: (((10 : Int), ((7 : Int), ((strL [111, 118]), ((-(1 : Int)), (false, ()))))) :: (((10 : Int), ((5 : Int), ((strL [111]), ((-(1 : Int)), (false, ()))))) :: (((10 : Int), ((13 : Int), ((strL [111, 111]), ((99 : Int), (false, ()))))) :: ([] : List (Int × (Int × (ByteArray × (Int × (Bool × Unit)))))))))))))))))))))))))))))) p0 p1) < (0 : Int)) then
    some (((0 : Int), ((0 : Int), (ByteArray.empty, ((0 : Int), (false, ()))))), (false, ()))
  else
    bif ((decide ((0 : Int) ≤ (Go.Inc.idxR (((1 : Int), ((1 : Int), ((strL [118]), ((-(1 : Int)), (false, ()))))) :: (((1 : Int), ((2 : Int), ((strL []), ((2 : Int), (true, ()))))) :: (((2 : Int), ((1 : Int), ((strL [118]), ((-(1 : Int)), (false, ()))))) :: (((2 : Int), ((2 : Int), ((strL []), ((2 : Int), (true, ()))))) :: (((2 : Int), ((3 : Int), ((strL [118, 118]), ((6 : Int), (false, ()))))) :: (((3 : Int), ((4 : Int), ((strL [118]), ((-(1 : Int)), (false, ()))))) :: (((3 : Int), ((5 : Int), ((strL [118]), ((-(1 : Int)), (false, ()))))) :: (((3 : Int), ((6 : Int), ((strL [118]), ((6 : Int), (false, ()))))) :: (((4 : Int), ((7 : Int), ((strL [102, 118]), ((-(1 : Int)), (false, ()))))) :: (((4 : Int), ((8 : Int), ((strL [102]), ((2 : Int), (true, ()))))) :: (((4 : Int), ((5 : Int), ((strL [102]), ((-(1 : Int)), (false, ()))))) :: (((5 : Int), ((9 : Int), ((strL [118]), ((-(1 : Int)), (false, ()))))) :: (((5 : Int), ((10 : Int), ((strL []), ((2 : Int), (true, ()))))) :: (((6 : Int), ((9 : Int), ((strL [118]), ((-(1 : Int)), (false, ()))))) :: (((6 : Int), ((10 : Int), ((strL []), ((2 : Int), (true, ()))))) :: (((7 : Int), ((11 : Int), ((strL []), ((6 : Int), (false, ()))))) :: (((7 : Int), ((12 : Int), ((strL []), ((6 : Int), (false, ()))))) :: (((8 : Int), ((4 : Int), ((strL [110]), ((-(1 : Int)), (false, ()))))) :: (((8 : Int), ((2 : Int), ((strL []), ((5 : Int), (false, ()))))) :: (((9 : Int), ((1 : Int), ((strL [111]), ((-(1 : Int)), (false, ()))))) :: (((9 : Int), ((2 : Int), ((strL []), ((4 : Int), (true, ()))))) :: (((10 : Int), ((7 : Int), ((strL [111, 118]), ((-(1 : Int)), (false, ()))))) :: (((10 : Int), ((5 : Int), ((strL [111]), ((-(1 : Int)), (false, ()))))) :: (((10 : Int), ((13 : Int), ((strL [111, 111]), ((99 : Int), (false, ()))))) :: ([] : List (Int × (Int × (ByteArray × (Int × (Bool × Unit)))))))))))))))))))))))))))))) p0 p1))) && (decide ((Go.Inc.idxR (((1 : Int), ((1 : Int), ((strL [118]), ((-(1 : Int)), (false, ()))))) :: (((1 : Int), ((2 : Int), ((strL []), ((2 : Int), (true, ()))))) :: (((2 : Int), ((1 : Int), ((strL [118]), ((-(1 : Int)), (false, ()))))) :: (((2 : Int), ((2 : Int), ((strL []), ((2 : Int), (true, ()))))) :: (((2 : Int), ((3 : Int), ((strL [118, 118]), ((6 : Int), (false, ()))))) :: (((3 : Int), ((4 : Int), ((strL [118]), ((-(1 : Int)), (false, ()))))) :: (((3 : Int), ((5 : Int), ((strL [118]), ((-(1 : Int)), (false, ()))))) :: (((3 : Int), ((6 : Int), ((strL [118]), ((6 : Int), (false, ()))))) :: (((4 : Int), ((7 : Int), ((strL [102, 118]), ((-(1 : Int)), (false, ()))))) :: (((4 : Int), ((8 : Int), ((strL [102]), ((2 : Int), (true, ()))))) :: (((4 : Int), ((5 : Int), ((strL [102]), ((-(1 : Int)), (false, ()))))) :: (((5 : Int), ((9 : Int), ((strL [118]), ((-(1 : Int)), (false, ()))))) :: (((5 : Int), ((10 : Int), ((strL []), ((2 : Int), (true, ()))))) :: (((6 : Int), ((9 : Int), ((strL [118]), ((-(1 : Int)), (false, ()))))) :: (((6 : Int), ((10 : Int), ((strL []), ((2 : Int), (true, ()))))) :: (((7 : Int), ((11 : Int), ((strL []), ((6 : Int), (false, ()))))) :: (((7 : Int), ((12 : Int), ((strL []), ((6 : Int), (false, ()))))) :: (((8 : Int), ((4 : Int), ((strL [110]), ((-(1 : Int)), (false, ()))))) :: (((8 : Int), ((2 : Int), ((strL []), ((5 : Int), (false, ()))))) :: (((9 : Int), ((1 : Int), ((strL [111]), ((-(1 : Int)), (false, ()))))) :: (((9 : Int), ((2 : Int), ((strL []), ((4 : Int), (true, ()))))) :: (((10 : Int), ((7 : Int), ((strL [111, 118]), ((-(1 : Int)), (false, ()))))) :: (((10 : Int), ((5 : Int), ((strL [111]), ((-(1 : Int)), (false, ()))))) :: (((10 : Int), ((13 : Int), ((strL [111, 111]), ((99 : Int), (false, ()))))) :: ([] : List (Int × (Int × (ByteArray × (Int × (Bool × Unit)))))))))))))))))))))))))))))) p0 p1) < (((List.length (((1 : Int), ((1 : Int), ((strL [118]), ((-(1 : Int)), (false, ()))))) :: (((1 : Int), ((2 : Int), ((strL []), ((2 : Int), (true, ()))))) :: (((2 : Int), ((1 : Int), ((strL [118]), ((-(1 : Int)), (false, ()))))) :: (((2 : Int), ((2 : Int), ((strL []), ((2 : Int), (true, ()))))) :: (((2 : Int), ((3 : Int), ((strL [118, 118]), ((6 : Int), (false, ()))))) :: (((3 : Int), ((4 : Int), ((strL [118]), ((-(1 : Int)), (false, ()))))) :: (((3 : Int), ((5 : Int), ((strL [118]), ((-(1 : Int)), (false, ()))))) :: (((3 : Int), ((6 : Int), ((strL [118]), ((6 : Int), (false, ()))))) :: (((4 : Int), ((7 : Int), ((strL [102, 118]), ((-(1 : Int)), (false, ()))))) :: (((4 : Int), ((8 : Int), ((strL [102]), ((2 : Int), (true, ()))))) :: (((4 : Int), ((5 : Int), ((strL [102]), ((-(1 : Int)), (false, ()))))) :: (((5 : Int), ((9 : Int), ((strL [118]), ((-(1 : Int)), (false, ()))))) :: (((5 : Int), ((10 : Int), ((strL []), ((2 : Int), (true, ()))))) :: (((6 : Int), ((9 : Int), ((strL [118]), ((-(1 : Int)), (false, ()))))) :: (((6 : Int), ((10 : Int), ((strL []), ((2 : Int), (true, ()))))) :: (((7 : Int), ((11 : Int), ((strL []), ((6 : Int), (false, ()))))) :: (((7 : Int), ((12 : Int), ((strL []), ((6 : Int), (false, ()))))) :: (((8 : Int), ((4 : Int), ((strL [110]), ((-(1 : Int)), (false, ()))))) :: (((8 : Int), ((2 : Int), ((strL []), ((5 : Int), (false, ()))))) :: (((9 : Int), ((1 : Int), ((strL [111]), ((-(1 : Int)), (false, ()))))) :: (((9 : Int), ((2 : Int), ((strL []), ((4 : Int), (true, ()))))) :: (((10 : Int), ((7 : Int), ((strL [111, 118]), ((-(1 : Int)), (false, ()))))) :: (((10 : Int), ((5 : Int), ((strL [111]), ((-(1 : Int)), (false, ()))))) :: (((10 : Int), ((13 : Int), ((strL [111, 111]), ((99 : Int), (false, ()))))) :: ([] : List (Int × (Int × (ByteArray × (Int × (Bool × Unit))))))))))))))))))))))))))))))) : Nat) : Int)))) then
      some ((List.getD (((1 : Int), ((1 : Int), ((strL [118]), ((-(1 : Int)), (false, ()))))) :: (((1 : Int), ((2 : Int), ((strL []), ((2 : Int), (true, ()))))) :: (((2 : Int), ((1 : Int), ((strL [118]), ((-(1 : Int)), (false, ()))))) :: (((2 : Int), ((2 : Int), ((strL []), ((2 : Int), (true, ()))))) :: (((2 : Int), ((3 : Int), ((strL [118, 118]), ((6 : Int), (false, ()))))) :: (((3 : Int), ((4 : Int), ((strL [118]), ((-(1 : Int)), (false, ()))))) :: (((3 : Int), ((5 : Int), ((strL [118]), ((-(1 : Int)), (false, ()))))) :: (((3 : Int), ((6 : Int), ((strL [118]), ((6 : Int), (false, ()))))) :: (((4 : Int), ((7 : Int), ((strL [102, 118]), ((-(1 : Int)), (false, ()))))) :: (((4 : Int), ((8 : Int), ((strL [102]), ((2 : Int), (true, ()))))) :: (((4 : Int), ((5 : Int), ((strL [102]), ((-(1 : Int)), (false, ()))))) :: (((5 : Int), ((9 : Int), ((strL [118]), ((-(1 : Int)), (false, ()))))) :: (((5 : Int), ((10 : Int), ((strL []), ((2 : Int), (true, ()))))) :: (((6 : Int), ((9 : Int), ((strL [118]), ((-(1 : Int)), (false, ()))))) :: (((6 : Int), ((10 : Int), ((strL []), ((2 : Int), (true, ()))))) :: (((7 : Int), ((11 : Int), ((strL []), ((6 : Int), (false, ()))))) :: (((7 : Int), ((12 : Int), ((strL []), ((6 : Int), (false, ()))))) :: (((8 : Int), ((4 : Int), ((strL [110]), ((-(1 : Int)), (false, ()))))) :: (((8 : Int), ((2 : Int), ((strL []), ((5 : Int), (false, ()))))) :: (((9 : Int), ((1 : Int), ((strL [111]), ((-(1 : Int)), (false, ()))))) :: (((9 : Int), ((2 : Int), ((strL []), ((4 : Int), (true, ()))))) :: (((10 : Int), ((7 : Int), ((strL [111, 118]), ((-(1 : Int)), (false, ()))))) :: (((10 : Int), ((5 : Int), ((strL [111]), ((-(1 : Int)), (false, ()))))) :: (((10 : Int), ((13 : Int), ((strL [111, 111]), ((99 : Int), (false, ()))))) :: ([] : List (Int × (Int × (ByteArray × (Int × (Bool × Unit)))))))))))))))))))))))))))))) (Int.toNat (Go.Inc.idxR (((1 : Int), ((1 : Int), ((strL [118]), ((-(1 : Int)), (false, ()))))) :: (((1 : Int), ((2 : Int), ((strL []), ((2 : Int), (true, ()))))) :: (((2 : Int), ((1 : Int), ((strL [118]), ((-(1 : Int)), (false, ()))))) :: (((2 : Int), ((2 : Int), ((strL []), ((2 : Int), (true, ()))))) :: (((2 : Int), ((3 : Int), ((strL [118, 118]), ((6 : Int), (false, ()))))) :: (((3 : Int), ((4 : Int), ((strL [118]), ((-(1 : Int)), (false, ()))))) :: (((3 : Int), ((5 : Int), ((strL [118]), ((-(1 : Int)), (false, ()))))) :: (((3 : Int), ((6 : Int), ((strL [118]), ((6 : Int), (false, ()))))) :: (((4 : Int), ((7 : Int), ((strL [102, 118]), ((-(1 : Int)), (false, ()))))) :: (((4 : Int), ((8 : Int), ((strL [102]), ((2 : Int), (true, ()))))) :: (((4 : Int), ((5 : Int), ((strL [102]), ((-(1 : Int)), (false, ()))))) :: (((5 : Int), ((9 : Int), ((strL [118]), ((-(1 : Int)), (false, ()))))) :: (((5 : Int), ((10 : Int), ((strL []), ((2 : Int), (true, ()))))) :: (((6 : Int), ((9 : Int), ((strL [118]), ((-(1 : Int)), (false, ()))))) :: (((6 : Int), ((10 : Int), ((strL []), ((2 : Int), (true, ()))))) :: (((7 : Int), ((11 : Int), ((strL []), ((6 : Int), (false, ()))))) :: (((7 : Int), ((12 : Int), ((strL []), ((6 : Int), (false, ()))))) :: (((8 : Int), ((4 : Int), ((strL [110]), ((-(1 : Int)), (false, ()))))) :: (((8 : Int), ((2 : Int), ((strL []), ((5 : Int), (false, ()))))) :: (((9 : Int), ((1 : Int), ((strL [111]), ((-(1 : Int)), (false, ()))))) :: (((9 : Int), ((2 : Int), ((strL []), ((4 : Int), (true, ()))))) :: (((10 : Int), ((7 : Int), ((strL [111, 118]), ((-(1 : Int)), (false, ()))))) :: (((10 : Int), ((5 : Int), ((strL [111]), ((-(1 : Int)), (false, ()))))) :: (((10 : Int), ((13 : Int), ((strL [111, 111]), ((99 : Int), (false, ()))))) :: ([] : List (Int × (Int × (ByteArray × (Int × (Bool × Unit)))))))))))))))))))))))))))))) p0 p1)) ((0 : Int), ((0 : Int), (ByteArray.empty, ((0 : Int), (false, ())))))), (true, ()))
    else
      none
theorem loops31 (N : Nat) : loopsOk C31 (L31 N) Go.Proofs.Tryd.f31 := ⟨trivial, ⟨trivial, ⟨trivial, ⟨⟨trivial, ⟨⟨trivial, trivial⟩, trivial⟩⟩, ⟨trivial, trivial⟩⟩⟩⟩⟩
theorem runs31 (N : Nat) (x : S31.ta.den) : run C31 S31 (L31 N) Go.Proofs.Tryd.f31 x = F31 N x.1 x.2.1 := by kernel_rfl

/-! ### 46: strings.Compare -/
def L46 (_ : Nat) : Loops (Int × Unit) := fun _ _ _ => none
def F46 (N : Nat) (p0 : ByteArray) (p1 : ByteArray) : Option (Int × Unit) :=
  some ((Go.Abs.cmpS p0 p1), ())
theorem loops46 (N : Nat) : loopsOk C46 (L46 N) Go.Proofs.Tryd.f46 := ⟨trivial, ⟨trivial, trivial⟩⟩
theorem runs46 (N : Nat) (x : S46.ta.den) : run C46 S46 (L46 N) Go.Proofs.Tryd.f46 x = F46 N x.1 x.2.1 := by kernel_rfl

/-! ### 27: (*incognito/reg.cell).raise -/
def L27 (_ : Nat) : Loops (HS.den X27.hout) := fun _ _ _ => none
def F27 (N : Nat) (t1 : List (Int × Int × ByteArray × Unit)) (b1000a : Int) (b1000ba : Int) (b1000bba : Int) (b1000bbba : ByteArray) (b1000bbbba : Int) (b1000bbbbba : List (Int × Int × ByteArray × Unit)) : Option (HS.den X27.hout) :=
  bif ((b1000ba == (0 : Int)) && ((b1000bba == (0 : Int)) && ((b1000bbba == ByteArray.empty) && true))) then
    bif ((decide ((0 : Int) ≤ (0 : Int))) && (decide ((0 : Int) < (((List.length t1) : Nat) : Int)))) then
      some (([] : List (Int × (Int × (ByteArray × Unit)))), ((b1000a, ((List.getD t1 (Int.toNat (0 : Int)) ((0 : Int), ((0 : Int), (ByteArray.empty, ())))).1, (((List.getD t1 (Int.toNat (0 : Int)) ((0 : Int), ((0 : Int), (ByteArray.empty, ())))).2).1, ((((List.getD t1 (Int.toNat (0 : Int)) ((0 : Int), ((0 : Int), (ByteArray.empty, ())))).2).2).1, (b1000bbbba, (b1000bbbbba, ())))))), ()))
    else
      none
  else
    bif ((decide ((0 : Int) ≤ (0 : Int))) && (decide ((0 : Int) < (((List.length t1) : Nat) : Int)))) then
      bif decide ((Go.Inc.cmpV (List.getD t1 (Int.toNat (0 : Int)) ((0 : Int), ((0 : Int), (ByteArray.empty, ())))) (b1000ba, (b1000bba, (b1000bbba, ())))) > (0 : Int)) then
        bif ((decide ((0 : Int) ≤ (0 : Int))) && (decide ((0 : Int) < (((List.length t1) : Nat) : Int)))) then
          some (([] : List (Int × (Int × (ByteArray × Unit)))), ((b1000a, ((List.getD t1 (Int.toNat (0 : Int)) ((0 : Int), ((0 : Int), (ByteArray.empty, ())))).1, (((List.getD t1 (Int.toNat (0 : Int)) ((0 : Int), ((0 : Int), (ByteArray.empty, ())))).2).1, ((((List.getD t1 (Int.toNat (0 : Int)) ((0 : Int), ((0 : Int), (ByteArray.empty, ())))).2).2).1, (b1000bbbba, (b1000bbbbba, ())))))), ()))
        else
          none
      else
        some (([] : List (Int × (Int × (ByteArray × Unit)))), ((b1000a, (b1000ba, (b1000bba, (b1000bbba, (b1000bbbba, (b1000bbbbba, ())))))), ()))
    else
      none
theorem loops27 (N : Nat) : loopsOk C27 (L27 N) Go.Proofs.Tryd.f27 := ⟨trivial, ⟨⟨trivial, ⟨trivial, trivial⟩⟩, ⟨trivial, trivial⟩⟩⟩
theorem runs27 (N : Nat) (x : HS.den X27.hin) : runX C27 X27 (L27 N) Go.Proofs.Tryd.f27 x = F27 N x.2.1 x.2.2.1.1 x.2.2.1.2.1 x.2.2.1.2.2.1 x.2.2.1.2.2.2.1 x.2.2.1.2.2.2.2.1 x.2.2.1.2.2.2.2.2.1 := by kernel_rfl

/-! ### 14: incognito/incognitoref07.Same -/
def W14_4 {β : Type} (N : Nat) (x0 : Bool → Option β) (x1 : Unit → Option β) : Nat → (List (Int × Int × ByteArray × Unit)) → (List (Int × Int × ByteArray × Unit)) → Int → Option β
  | 0, _, _, _ => none
  | n + 1, t0, t1, t5 =>
  bif decide (t5 < (((List.length t0) : Nat) : Int)) then
    bif ((decide ((0 : Int) ≤ t5)) && (decide (t5 < (((List.length t0) : Nat) : Int)))) then
      bif ((decide ((0 : Int) ≤ t5)) && (decide (t5 < (((List.length t1) : Nat) : Int)))) then
        bif (!((((List.getD t0 (Int.toNat t5) ((0 : Int), ((0 : Int), (ByteArray.empty, ())))).1) == ((List.getD t1 (Int.toNat t5) ((0 : Int), ((0 : Int), (ByteArray.empty, ())))).1)) && (((((List.getD t0 (Int.toNat t5) ((0 : Int), ((0 : Int), (ByteArray.empty, ())))).2).1) == (((List.getD t1 (Int.toNat t5) ((0 : Int), ((0 : Int), (ByteArray.empty, ())))).2).1)) && ((((((List.getD t0 (Int.toNat t5) ((0 : Int), ((0 : Int), (ByteArray.empty, ())))).2).2).1) == ((((List.getD t1 (Int.toNat t5) ((0 : Int), ((0 : Int), (ByteArray.empty, ())))).2).2).1)) && true)))) then
          x0 false
        else
          W14_4 N x0 x1 n t0 t1 (Go.IntKind.wrap .i64 (t5 + (1 : Int)))
      else
        none
    else
      none
  else
    x1 ()
def L14 (N : Nat) : Loops (Bool × Unit) := fun k ρ K => match Nat.beq k 4 with
  | true => (match adH ρ H14_4.hd with
    | some v => W14_4 N (fun t4 => K .ret (encH [(8, .bo)] (t4, ()))) (fun _ => K (.exit 0) (encH [] ())) N v.1 v.2.1 v.2.2.1
    | none => none)
  | false => none
def F14 (N : Nat) (p0 : List (Int × Int × ByteArray × Unit)) (p1 : List (Int × Int × ByteArray × Unit)) : Option (Bool × Unit) :=
  bif ((((List.length p0) : Nat) : Int) != (((List.length p1) : Nat) : Int)) then
    some (false, ())
  else
    W14_4 N
      (fun t4 =>
        some (t4, ()))
      (fun (_ : Unit) =>
        some (true, ()))
      N p0 p1 (0 : Int)
theorem loops14 (N : Nat) : loopsOk C14 (L14 N) Go.Proofs.Tryd.f14 := ⟨trivial, ⟨⟨trivial, ⟨⟨trivial, trivial⟩, trivial⟩⟩, ⟨⟨trivial, ⟨loopOk_of H14_4 N (fun K n v => W14_4 N (fun t4 => K .ret (encH [(8, .bo)] (t4, ()))) (fun _ => K (.exit 0) (encH [] ())) n v.1 v.2.1 v.2.2.1) (by kernel_rfl) (fun K v => by kernel_rfl) (fun K v => by kernel_rfl) (fun K n v => by kernel_rfl), ⟨⟨trivial, ⟨trivial, trivial⟩⟩, ⟨⟨trivial, ⟨⟨trivial, trivial⟩, trivial⟩⟩, trivial⟩⟩⟩⟩, ⟨trivial, trivial⟩⟩⟩⟩
theorem runs14 (N : Nat) (x : S14.ta.den) : run C14 S14 (L14 N) Go.Proofs.Tryd.f14 x = F14 N x.1 x.2.1 := by kernel_rfl

/-! ### 16: incognito/incognitolaw13.num -/
def L16 (_ : Nat) : Loops ((Int × Int × ByteArray × Unit) × Unit) := fun _ _ _ => none
def F16 (N : Nat) (p0 : Int) : Option ((Int × Int × ByteArray × Unit) × Unit) :=
  some (((1 : Int), (p0, (ByteArray.empty, ()))), ())
theorem loops16 (N : Nat) : loopsOk C16 (L16 N) Go.Proofs.Tryd.f16 := ⟨trivial, ⟨trivial, trivial⟩⟩
theorem runs16 (N : Nat) (x : S16.ta.den) : run C16 S16 (L16 N) Go.Proofs.Tryd.f16 x = F16 N x.1 := by kernel_rfl

/-! ### 18: incognito/incognitoref07.Less -/
def L18 (_ : Nat) : Loops (Bool × Unit) := fun _ _ _ => none
def F18 (N : Nat) (p0 : Int × Int × ByteArray × Unit) (p1 : Int × Int × ByteArray × Unit) : Option (Bool × Unit) :=
  bif (p0.1 != p1.1) then
    some (decide (p0.1 < p1.1), ())
  else
    bif (p0.2.1 != p1.2.1) then
      some (decide (p0.2.1 < p1.2.1), ())
    else
      some ((Go.Op.bytesLess (ByteArray.toList p0.2.2.1) (ByteArray.toList p1.2.2.1)), ())
theorem loops18 (N : Nat) : loopsOk C18 (L18 N) Go.Proofs.Tryd.f18 := ⟨trivial, ⟨⟨trivial, ⟨⟨trivial, trivial⟩, trivial⟩⟩, ⟨⟨trivial, ⟨⟨trivial, trivial⟩, trivial⟩⟩, ⟨trivial, trivial⟩⟩⟩⟩
theorem runs18 (N : Nat) (x : S18.ta.den) : run C18 S18 (L18 N) Go.Proofs.Tryd.f18 x = F18 N x.1 x.2.1 := by kernel_rfl

/-! ### 21: incognito/incognitoref13.kept -/
def W21_4 {β : Type} (N : Nat) (x1 : Int → Int → ByteArray → Int → Int → ByteArray → Option β) : Nat → Int → (List ((Int × Int × ByteArray × Unit) × Int × (List (Int × Int × ByteArray × Unit)) × Unit)) → Int → Int → ByteArray → Int → Int → ByteArray → Int → Int → ByteArray → Int → Option β
  | 0, _, _, _, _, _, _, _, _, _, _, _, _ => none
  | n + 1, t0, t1, b4a, b4ba, b4bba, b5a, b5ba, b5bba, b6a, b6ba, b6bba, t7 =>
  bif decide (t7 < (((List.length t1) : Nat) : Int)) then
    bif ((decide ((0 : Int) ≤ t7)) && (decide (t7 < (((List.length t1) : Nat) : Int)))) then
      bif ((((List.getD t1 (Int.toNat t7) (((0 : Int), ((0 : Int), (ByteArray.empty, ()))), ((0 : Int), ([], ())))).2).1) == (1 : Int)) then
        bif (t0 == (9 : Int)) then
          bif ((b6a == b5a) && ((b6ba == b5ba) && ((b6bba == b5bba) && true))) then
            bif ((decide ((0 : Int) ≤ (0 : Int))) && (decide ((0 : Int) < (((List.length ((((List.getD t1 (Int.toNat t7) (((0 : Int), ((0 : Int), (ByteArray.empty, ()))), ((0 : Int), ([], ())))).2).2).1)) : Nat) : Int)))) then
              W21_4 N x1 n t0 t1 b4a b4ba b4bba b5a b5ba b5bba ((List.getD ((((List.getD t1 (Int.toNat t7) (((0 : Int), ((0 : Int), (ByteArray.empty, ()))), ((0 : Int), ([], ())))).2).2).1) (Int.toNat (0 : Int)) ((0 : Int), ((0 : Int), (ByteArray.empty, ())))).1) (((List.getD ((((List.getD t1 (Int.toNat t7) (((0 : Int), ((0 : Int), (ByteArray.empty, ()))), ((0 : Int), ([], ())))).2).2).1) (Int.toNat (0 : Int)) ((0 : Int), ((0 : Int), (ByteArray.empty, ())))).2).1) ((((List.getD ((((List.getD t1 (Int.toNat t7) (((0 : Int), ((0 : Int), (ByteArray.empty, ()))), ((0 : Int), ([], ())))).2).2).1) (Int.toNat (0 : Int)) ((0 : Int), ((0 : Int), (ByteArray.empty, ())))).2).2).1) (Go.IntKind.wrap .i64 (t7 + (1 : Int)))
            else
              none
          else
            bif ((decide ((0 : Int) ≤ (0 : Int))) && (decide ((0 : Int) < (((List.length ((((List.getD t1 (Int.toNat t7) (((0 : Int), ((0 : Int), (ByteArray.empty, ()))), ((0 : Int), ([], ())))).2).2).1)) : Nat) : Int)))) then
              bif (Go.Inc.lessV (b6a, (b6ba, (b6bba, ()))) (List.getD ((((List.getD t1 (Int.toNat t7) (((0 : Int), ((0 : Int), (ByteArray.empty, ()))), ((0 : Int), ([], ())))).2).2).1) (Int.toNat (0 : Int)) ((0 : Int), ((0 : Int), (ByteArray.empty, ()))))) then
              bif ((decide ((0 : Int) ≤ (0 : Int))) && (decide ((0 : Int) < (((List.length ((((List.getD t1 (Int.toNat t7) (((0 : Int), ((0 : Int), (ByteArray.empty, ()))), ((0 : Int), ([], ())))).2).2).1)) : Nat) : Int)))) then
              W21_4 N x1 n t0 t1 b4a b4ba b4bba b5a b5ba b5bba ((List.getD ((((List.getD t1 (Int.toNat t7) (((0 : Int), ((0 : Int), (ByteArray.empty, ()))), ((0 : Int), ([], ())))).2).2).1) (Int.toNat (0 : Int)) ((0 : Int), ((0 : Int), (ByteArray.empty, ())))).1) (((List.getD ((((List.getD t1 (Int.toNat t7) (((0 : Int), ((0 : Int), (ByteArray.empty, ()))), ((0 : Int), ([], ())))).2).2).1) (Int.toNat (0 : Int)) ((0 : Int), ((0 : Int), (ByteArray.empty, ())))).2).1) ((((List.getD ((((List.getD t1 (Int.toNat t7) (((0 : Int), ((0 : Int), (ByteArray.empty, ()))), ((0 : Int), ([], ())))).2).2).1) (Int.toNat (0 : Int)) ((0 : Int), ((0 : Int), (ByteArray.empty, ())))).2).2).1) (Go.IntKind.wrap .i64 (t7 + (1 : Int)))
            else
              none
            else
              W21_4 N x1 n t0 t1 b4a b4ba b4bba b5a b5ba b5bba b6a b6ba b6bba (Go.IntKind.wrap .i64 (t7 + (1 : Int)))
            else
              none
        else
          bif ((((List.getD t1 (Int.toNat t7) (((0 : Int), ((0 : Int), (ByteArray.empty, ()))), ((0 : Int), ([], ())))).2).1) == (1 : Int)) then
            bif ((decide ((0 : Int) ≤ (0 : Int))) && (decide ((0 : Int) < (((List.length ((((List.getD t1 (Int.toNat t7) (((0 : Int), ((0 : Int), (ByteArray.empty, ()))), ((0 : Int), ([], ())))).2).2).1)) : Nat) : Int)))) then
              W21_4 N x1 n t0 t1 b4a b4ba b4bba b5a b5ba b5bba ((List.getD ((((List.getD t1 (Int.toNat t7) (((0 : Int), ((0 : Int), (ByteArray.empty, ()))), ((0 : Int), ([], ())))).2).2).1) (Int.toNat (0 : Int)) ((0 : Int), ((0 : Int), (ByteArray.empty, ())))).1) (((List.getD ((((List.getD t1 (Int.toNat t7) (((0 : Int), ((0 : Int), (ByteArray.empty, ()))), ((0 : Int), ([], ())))).2).2).1) (Int.toNat (0 : Int)) ((0 : Int), ((0 : Int), (ByteArray.empty, ())))).2).1) ((((List.getD ((((List.getD t1 (Int.toNat t7) (((0 : Int), ((0 : Int), (ByteArray.empty, ()))), ((0 : Int), ([], ())))).2).2).1) (Int.toNat (0 : Int)) ((0 : Int), ((0 : Int), (ByteArray.empty, ())))).2).2).1) (Go.IntKind.wrap .i64 (t7 + (1 : Int)))
            else
              none
          else
            bif ((((List.getD t1 (Int.toNat t7) (((0 : Int), ((0 : Int), (ByteArray.empty, ()))), ((0 : Int), ([], ())))).2).1) == (3 : Int)) then
              bif ((decide ((0 : Int) ≤ (0 : Int))) && (decide ((0 : Int) < (((List.length ((((List.getD t1 (Int.toNat t7) (((0 : Int), ((0 : Int), (ByteArray.empty, ()))), ((0 : Int), ([], ())))).2).2).1)) : Nat) : Int)))) then
              bif ((b6a == ((List.getD ((((List.getD t1 (Int.toNat t7) (((0 : Int), ((0 : Int), (ByteArray.empty, ()))), ((0 : Int), ([], ())))).2).2).1) (Int.toNat (0 : Int)) ((0 : Int), ((0 : Int), (ByteArray.empty, ())))).1)) && ((b6ba == (((List.getD ((((List.getD t1 (Int.toNat t7) (((0 : Int), ((0 : Int), (ByteArray.empty, ()))), ((0 : Int), ([], ())))).2).2).1) (Int.toNat (0 : Int)) ((0 : Int), ((0 : Int), (ByteArray.empty, ())))).2).1)) && ((b6bba == ((((List.getD ((((List.getD t1 (Int.toNat t7) (((0 : Int), ((0 : Int), (ByteArray.empty, ()))), ((0 : Int), ([], ())))).2).2).1) (Int.toNat (0 : Int)) ((0 : Int), ((0 : Int), (ByteArray.empty, ())))).2).2).1)) && true))) then
              bif ((decide ((0 : Int) ≤ (1 : Int))) && (decide ((1 : Int) < (((List.length ((((List.getD t1 (Int.toNat t7) (((0 : Int), ((0 : Int), (ByteArray.empty, ()))), ((0 : Int), ([], ())))).2).2).1)) : Nat) : Int)))) then
              W21_4 N x1 n t0 t1 b4a b4ba b4bba b5a b5ba b5bba ((List.getD ((((List.getD t1 (Int.toNat t7) (((0 : Int), ((0 : Int), (ByteArray.empty, ()))), ((0 : Int), ([], ())))).2).2).1) (Int.toNat (1 : Int)) ((0 : Int), ((0 : Int), (ByteArray.empty, ())))).1) (((List.getD ((((List.getD t1 (Int.toNat t7) (((0 : Int), ((0 : Int), (ByteArray.empty, ()))), ((0 : Int), ([], ())))).2).2).1) (Int.toNat (1 : Int)) ((0 : Int), ((0 : Int), (ByteArray.empty, ())))).2).1) ((((List.getD ((((List.getD t1 (Int.toNat t7) (((0 : Int), ((0 : Int), (ByteArray.empty, ()))), ((0 : Int), ([], ())))).2).2).1) (Int.toNat (1 : Int)) ((0 : Int), ((0 : Int), (ByteArray.empty, ())))).2).2).1) (Go.IntKind.wrap .i64 (t7 + (1 : Int)))
            else
              none
            else
              W21_4 N x1 n t0 t1 b4a b4ba b4bba b5a b5ba b5bba b6a b6ba b6bba (Go.IntKind.wrap .i64 (t7 + (1 : Int)))
            else
              none
            else
              W21_4 N x1 n t0 t1 b4a b4ba b4bba b5a b5ba b5bba b6a b6ba b6bba (Go.IntKind.wrap .i64 (t7 + (1 : Int)))
      else
        bif ((((List.getD t1 (Int.toNat t7) (((0 : Int), ((0 : Int), (ByteArray.empty, ()))), ((0 : Int), ([], ())))).2).1) == (1 : Int)) then
          bif ((decide ((0 : Int) ≤ (0 : Int))) && (decide ((0 : Int) < (((List.length ((((List.getD t1 (Int.toNat t7) (((0 : Int), ((0 : Int), (ByteArray.empty, ()))), ((0 : Int), ([], ())))).2).2).1)) : Nat) : Int)))) then
            W21_4 N x1 n t0 t1 b4a b4ba b4bba b5a b5ba b5bba ((List.getD ((((List.getD t1 (Int.toNat t7) (((0 : Int), ((0 : Int), (ByteArray.empty, ()))), ((0 : Int), ([], ())))).2).2).1) (Int.toNat (0 : Int)) ((0 : Int), ((0 : Int), (ByteArray.empty, ())))).1) (((List.getD ((((List.getD t1 (Int.toNat t7) (((0 : Int), ((0 : Int), (ByteArray.empty, ()))), ((0 : Int), ([], ())))).2).2).1) (Int.toNat (0 : Int)) ((0 : Int), ((0 : Int), (ByteArray.empty, ())))).2).1) ((((List.getD ((((List.getD t1 (Int.toNat t7) (((0 : Int), ((0 : Int), (ByteArray.empty, ()))), ((0 : Int), ([], ())))).2).2).1) (Int.toNat (0 : Int)) ((0 : Int), ((0 : Int), (ByteArray.empty, ())))).2).2).1) (Go.IntKind.wrap .i64 (t7 + (1 : Int)))
          else
            none
        else
          bif ((((List.getD t1 (Int.toNat t7) (((0 : Int), ((0 : Int), (ByteArray.empty, ()))), ((0 : Int), ([], ())))).2).1) == (3 : Int)) then
            bif ((decide ((0 : Int) ≤ (0 : Int))) && (decide ((0 : Int) < (((List.length ((((List.getD t1 (Int.toNat t7) (((0 : Int), ((0 : Int), (ByteArray.empty, ()))), ((0 : Int), ([], ())))).2).2).1)) : Nat) : Int)))) then
              bif ((b6a == ((List.getD ((((List.getD t1 (Int.toNat t7) (((0 : Int), ((0 : Int), (ByteArray.empty, ()))), ((0 : Int), ([], ())))).2).2).1) (Int.toNat (0 : Int)) ((0 : Int), ((0 : Int), (ByteArray.empty, ())))).1)) && ((b6ba == (((List.getD ((((List.getD t1 (Int.toNat t7) (((0 : Int), ((0 : Int), (ByteArray.empty, ()))), ((0 : Int), ([], ())))).2).2).1) (Int.toNat (0 : Int)) ((0 : Int), ((0 : Int), (ByteArray.empty, ())))).2).1)) && ((b6bba == ((((List.getD ((((List.getD t1 (Int.toNat t7) (((0 : Int), ((0 : Int), (ByteArray.empty, ()))), ((0 : Int), ([], ())))).2).2).1) (Int.toNat (0 : Int)) ((0 : Int), ((0 : Int), (ByteArray.empty, ())))).2).2).1)) && true))) then
              bif ((decide ((0 : Int) ≤ (1 : Int))) && (decide ((1 : Int) < (((List.length ((((List.getD t1 (Int.toNat t7) (((0 : Int), ((0 : Int), (ByteArray.empty, ()))), ((0 : Int), ([], ())))).2).2).1)) : Nat) : Int)))) then
              W21_4 N x1 n t0 t1 b4a b4ba b4bba b5a b5ba b5bba ((List.getD ((((List.getD t1 (Int.toNat t7) (((0 : Int), ((0 : Int), (ByteArray.empty, ()))), ((0 : Int), ([], ())))).2).2).1) (Int.toNat (1 : Int)) ((0 : Int), ((0 : Int), (ByteArray.empty, ())))).1) (((List.getD ((((List.getD t1 (Int.toNat t7) (((0 : Int), ((0 : Int), (ByteArray.empty, ()))), ((0 : Int), ([], ())))).2).2).1) (Int.toNat (1 : Int)) ((0 : Int), ((0 : Int), (ByteArray.empty, ())))).2).1) ((((List.getD ((((List.getD t1 (Int.toNat t7) (((0 : Int), ((0 : Int), (ByteArray.empty, ()))), ((0 : Int), ([], ())))).2).2).1) (Int.toNat (1 : Int)) ((0 : Int), ((0 : Int), (ByteArray.empty, ())))).2).2).1) (Go.IntKind.wrap .i64 (t7 + (1 : Int)))
            else
              none
            else
              W21_4 N x1 n t0 t1 b4a b4ba b4bba b5a b5ba b5bba b6a b6ba b6bba (Go.IntKind.wrap .i64 (t7 + (1 : Int)))
            else
              none
          else
            W21_4 N x1 n t0 t1 b4a b4ba b4bba b5a b5ba b5bba b6a b6ba b6bba (Go.IntKind.wrap .i64 (t7 + (1 : Int)))
    else
      none
  else
    x1 b4a b4ba b4bba b6a b6ba b6bba
def L21 (N : Nat) : Loops ((Int × Int × ByteArray × Unit) × Unit) := fun k ρ K => match Nat.beq k 4 with
  | true => (match adH ρ H21_4.hd with
    | some v => W21_4 N (fun b4a b4ba b4bba b6a b6ba b6bba => K (.exit 0) (encH [(8, (.bx 4 0)), (9, (.pr (.i .i64) (.pr (.i .i64) (.pr .st .un)))), (12, (.bx 6 0)), (13, (.pr (.i .i64) (.pr (.i .i64) (.pr .st .un))))] ((), ((b4a, (b4ba, (b4bba, ()))), ((), ((b6a, (b6ba, (b6bba, ()))), ())))))) N v.1 v.2.1 v.2.2.2.1.1 v.2.2.2.1.2.1 v.2.2.2.1.2.2.1 v.2.2.2.2.2.1.1 v.2.2.2.2.2.1.2.1 v.2.2.2.2.2.1.2.2.1 v.2.2.2.2.2.2.2.1.1 v.2.2.2.2.2.2.2.1.2.1 v.2.2.2.2.2.2.2.1.2.2.1 v.2.2.2.2.2.2.2.2.1
    | none => none)
  | false => none
def F21 (N : Nat) (p0 : Int) (p1 : List ((Int × Int × ByteArray × Unit) × Int × (List (Int × Int × ByteArray × Unit)) × Unit)) : Option ((Int × Int × ByteArray × Unit) × Unit) :=
  W21_4 N
    (fun b4a b4ba b4bba b6a b6ba b6bba =>
      some ((b6a, (b6ba, (b6bba, ()))), ()))
    N p0 p1 (0 : Int) (0 : Int) ByteArray.empty (0 : Int) (0 : Int) ByteArray.empty (0 : Int) (0 : Int) ByteArray.empty (0 : Int)
theorem loops21 (N : Nat) : loopsOk C21 (L21 N) Go.Proofs.Tryd.f21 := ⟨trivial, ⟨trivial, ⟨trivial, ⟨⟨trivial, ⟨loopOk_of H21_4 N (fun K n v => W21_4 N (fun b4a b4ba b4bba b6a b6ba b6bba => K (.exit 0) (encH [(8, (.bx 4 0)), (9, (.pr (.i .i64) (.pr (.i .i64) (.pr .st .un)))), (12, (.bx 6 0)), (13, (.pr (.i .i64) (.pr (.i .i64) (.pr .st .un))))] ((), ((b4a, (b4ba, (b4bba, ()))), ((), ((b6a, (b6ba, (b6bba, ()))), ())))))) n v.1 v.2.1 v.2.2.2.1.1 v.2.2.2.1.2.1 v.2.2.2.1.2.2.1 v.2.2.2.2.2.1.1 v.2.2.2.2.2.1.2.1 v.2.2.2.2.2.1.2.2.1 v.2.2.2.2.2.2.2.1.1 v.2.2.2.2.2.2.2.1.2.1 v.2.2.2.2.2.2.2.1.2.2.1 v.2.2.2.2.2.2.2.2.1) (by kernel_rfl) (fun K v => by kernel_rfl) (fun K v => by kernel_rfl) (fun K n v => by kernel_rfl), ⟨⟨trivial, ⟨trivial, trivial⟩⟩, ⟨⟨trivial, ⟨trivial, ⟨⟨trivial, ⟨trivial, trivial⟩⟩, ⟨trivial, ⟨trivial, ⟨trivial, ⟨trivial, trivial⟩⟩⟩⟩⟩⟩⟩, trivial⟩⟩⟩⟩, ⟨trivial, trivial⟩⟩⟩⟩⟩
theorem runs21 (N : Nat) (x : S21.ta.den) : run C21 S21 (L21 N) Go.Proofs.Tryd.f21 x = F21 N x.1 x.2.1 := by kernel_rfl

/-! ### 11: incognito/incognitoref13.State -/
def L11 (_ : Nat) : Loops ((Int × (Int × Int × ByteArray × Unit) × Int × (List (Int × Int × ByteArray × Unit)) × Unit) × Unit) := fun _ _ _ => none
def F11 (N : Nat) (p0 : Int) (p1 : List ((Int × Int × ByteArray × Unit) × Int × (List (Int × Int × ByteArray × Unit)) × Unit)) : Option ((Int × (Int × Int × ByteArray × Unit) × Int × (List (Int × Int × ByteArray × Unit)) × Unit) × Unit) :=
  bif (Go.Inc.okRPast p0 p1) then
    some ((p0, ((Go.Inc.regKept p0 p1), ((0 : Int), (([] : List (Int × (Int × (ByteArray × Unit)))), ())))), ())
  else
    none
theorem loops11 (N : Nat) : loopsOk C11 (L11 N) Go.Proofs.Tryd.f11 := ⟨trivial, ⟨trivial, trivial⟩⟩
theorem runs11 (N : Nat) (x : S11.ta.den) : run C11 S11 (L11 N) Go.Proofs.Tryd.f11 x = F11 N x.1 x.2.1 := by kernel_rfl

/-! ### 49: incognito/incognitoref07.letter -/
def W49_2 {β : Type} (N : Nat) (x0 : Bool → Option β) (x1 : Int → Bool → Option β) : Nat → Int → Bool → Int → Option β
  | 0, _, _, _ => none
  | n + 1, t0, t1, t5 =>
  bif decide (t5 ≤ (122 : Int)) then
    bif (t0 == t5) then
      x0 true
    else
      W49_2 N x0 x1 n t0 t1 (Go.IntKind.wrap .u8 (t5 + (1 : Int)))
  else
    x1 t0 t1
def L49 (N : Nat) : Loops (Bool × Unit) := fun k ρ K => match Nat.beq k 2 with
  | true => (match adH ρ H49_2.hd with
    | some v => W49_2 N (fun t4 => K .ret (encH [(8, .bo)] (t4, ()))) (fun t0 t1 => K (.exit 0) (encH [(0, (.i .u8)), (2, .bo)] (t0, (t1, ())))) N v.1 v.2.1 v.2.2.1
    | none => none)
  | false => none
def F49 (N : Nat) (p0 : Int) (p1 : Bool) : Option (Bool × Unit) :=
  W49_2 N
    (fun t4 =>
      some (t4, ()))
    (fun t0 t1 =>
      bif (!t1) then
        bif (t0 == (95 : Int)) then
          some (true, ())
        else
          bif decide (t0 ≥ (48 : Int)) then
            some (decide (t0 ≤ (57 : Int)), ())
          else
            some (false, ())
      else
        some (false, ()))
    N p0 p1 (97 : Int)
theorem loops49 (N : Nat) : loopsOk C49 (L49 N) Go.Proofs.Tryd.f49 := ⟨trivial, ⟨⟨trivial, ⟨loopOk_of H49_2 N (fun K n v => W49_2 N (fun t4 => K .ret (encH [(8, .bo)] (t4, ()))) (fun t0 t1 => K (.exit 0) (encH [(0, (.i .u8)), (2, .bo)] (t0, (t1, ())))) n v.1 v.2.1 v.2.2.1) (by kernel_rfl) (fun K v => by kernel_rfl) (fun K v => by kernel_rfl) (fun K n v => by kernel_rfl), ⟨⟨trivial, ⟨trivial, trivial⟩⟩, ⟨⟨trivial, ⟨⟨trivial, trivial⟩, trivial⟩⟩, trivial⟩⟩⟩⟩, ⟨trivial, trivial⟩⟩⟩
theorem runs49 (N : Nat) (x : S49.ta.den) : run C49 S49 (L49 N) Go.Proofs.Tryd.f49 x = F49 N x.1 x.2.1 := by kernel_rfl

/-! ### 30: incognito/incognitoref07.Right -/
def L30 (_ : Nat) : Loops (Bool × Unit) := fun _ _ _ => none
def F30 (N : Nat) (p0 : Int × Int × ByteArray × Unit) : Option (Bool × Unit) :=
  bif (p0.1 == (0 : Int)) then
    bif (p0.2.1 == (0 : Int)) then
      some (((ByteArray.toList p0.2.2.1) == (ByteArray.toList (strL []))), ())
    else
      some (false, ())
  else
    bif (p0.1 == (1 : Int)) then
      some (((ByteArray.toList p0.2.2.1) == (ByteArray.toList (strL []))), ())
    else
      bif (p0.1 == (2 : Int)) then
        bif (p0.2.1 == (0 : Int)) then
          bif (Go.Inc.okS p0.2.2.1) then
            some ((Go.Inc.isWord p0.2.2.1), ())
          else
            none
        else
          some (false, ())
      else
        bif (p0.1 == (3 : Int)) then
          bif (p0.2.1 == (0 : Int)) then
            some (((ByteArray.toList p0.2.2.1) == (ByteArray.toList (strL []))), ())
          else
            bif (p0.2.1 == (1 : Int)) then
              some (((ByteArray.toList p0.2.2.1) == (ByteArray.toList (strL []))), ())
            else
              some (false, ())
        else
          some (false, ())
theorem loops30 (N : Nat) : loopsOk C30 (L30 N) Go.Proofs.Tryd.f30 := ⟨trivial, ⟨⟨trivial, ⟨trivial, ⟨⟨trivial, trivial⟩, ⟨trivial, ⟨⟨trivial, trivial⟩, ⟨trivial, ⟨⟨trivial, trivial⟩, ⟨trivial, ⟨⟨trivial, trivial⟩, trivial⟩⟩⟩⟩⟩⟩⟩⟩⟩, ⟨trivial, trivial⟩⟩⟩
theorem runs30 (N : Nat) (x : S30.ta.den) : run C30 S30 (L30 N) Go.Proofs.Tryd.f30 x = F30 N x.1 := by kernel_rfl

/-! ### 17: incognito/incognitoref07.Name -/
def L17 (_ : Nat) : Loops (Bool × Unit) := fun _ _ _ => none
def F17 (N : Nat) (p0 : Int × Int × ByteArray × Unit) : Option (Bool × Unit) :=
  bif (Go.Inc.okV p0) then
    bif (Go.Inc.right p0) then
      bif (p0.1 == (1 : Int)) then
        some (true, ())
      else
        some ((p0.1 == (2 : Int)), ())
    else
      some (false, ())
  else
    none
theorem loops17 (N : Nat) : loopsOk C17 (L17 N) Go.Proofs.Tryd.f17 := ⟨trivial, ⟨trivial, trivial⟩⟩
theorem runs17 (N : Nat) (x : S17.ta.den) : run C17 S17 (L17 N) Go.Proofs.Tryd.f17 x = F17 N x.1 := by kernel_rfl

/-! ### 47: incognito/incognitoref09.ModelName -/
def L47 (_ : Nat) : Loops (ByteArray × Unit) := fun _ _ _ => none
def F47 (N : Nat) (p0 : Int) : Option (ByteArray × Unit) :=
  bif (p0 == (1 : Int)) then
    some ((strL [114, 101, 103]), ())
  else
    bif (p0 == (2 : Int)) then
      some ((strL [99, 97, 115]), ())
    else
      bif (p0 == (3 : Int)) then
        some ((strL [115, 101, 116]), ())
      else
        bif (p0 == (4 : Int)) then
          some ((strL [109, 97, 112]), ())
        else
          bif (p0 == (5 : Int)) then
            some ((strL [102, 105, 102, 111]), ())
          else
            bif (p0 == (6 : Int)) then
              some ((strL [115, 116, 97, 99, 107]), ())
            else
              bif (p0 == (7 : Int)) then
              some ((strL [108, 111, 99, 107]), ())
            else
              bif (p0 == (8 : Int)) then
              some ((strL [99, 111, 117, 110, 116]), ())
            else
              bif (p0 == (9 : Int)) then
              some ((strL [109, 97, 120]), ())
            else
              bif (p0 == (10 : Int)) then
              some ((strL [111, 109, 97, 112]), ())
            else
              some ((strL []), ())
theorem loops47 (N : Nat) : loopsOk C47 (L47 N) Go.Proofs.Tryd.f47 := ⟨trivial, ⟨⟨trivial, ⟨trivial, ⟨⟨trivial, trivial⟩, ⟨trivial, ⟨⟨trivial, trivial⟩, ⟨trivial, ⟨⟨trivial, trivial⟩, ⟨trivial, ⟨⟨trivial, trivial⟩, ⟨trivial, ⟨⟨trivial, trivial⟩, ⟨trivial, ⟨⟨trivial, trivial⟩, ⟨trivial, ⟨⟨trivial, trivial⟩, ⟨trivial, ⟨⟨trivial, trivial⟩, ⟨trivial, ⟨⟨trivial, trivial⟩, ⟨trivial, ⟨⟨trivial, trivial⟩, trivial⟩⟩⟩⟩⟩⟩⟩⟩⟩⟩⟩⟩⟩⟩⟩⟩⟩⟩⟩⟩⟩, ⟨trivial, trivial⟩⟩⟩
theorem runs47 (N : Nat) (x : S47.ta.den) : run C47 S47 (L47 N) Go.Proofs.Tryd.f47 x = F47 N x.1 := by kernel_rfl

/-! ### 13: incognito/incognitolaw13.may -/
def L13 (_ : Nat) : Loops (Bool × Unit) := fun _ _ _ => none
def F13 (N : Nat) (p0 : Int) (p1 : (Int × Int × ByteArray × Unit) × Int × (List (Int × Int × ByteArray × Unit)) × Unit) : Option (Bool × Unit) :=
  bif (Go.Inc.okV p1.1) then
    bif (Go.Inc.name p1.1) then
      bif (Go.Inc.okF p0 p1.2.1 p1.2.2.1) then
        some ((Go.Inc.fits p0 p1.2.1 p1.2.2.1), ())
      else
        none
    else
      some (false, ())
  else
    none
theorem loops13 (N : Nat) : loopsOk C13 (L13 N) Go.Proofs.Tryd.f13 := ⟨trivial, ⟨trivial, trivial⟩⟩
theorem runs13 (N : Nat) (x : S13.ta.den) : run C13 S13 (L13 N) Go.Proofs.Tryd.f13 x = F13 N x.1 x.2.1 := by kernel_rfl


end Go.L13
