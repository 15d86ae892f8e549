/- The walks of package memo and its statements. Printed by a program of this session. -/
import Derived.Test.YtbbkecjljoefmaaSpec
import Derived.Test.YtbbkecjljoefmaaProg
set_option linter.unusedVariables false
set_option maxRecDepth 100000
namespace Go.L21
open Go Go.Abs

def tab : List (Nat × Ty) := [(3, (.int .i64)), (4, .bool), (22, (.sl (.int .u64))), (26, (.int .u64)), (33, (.int .u64))]
def ebs : List (Nat × Nat) := [(22, 8)]

def S3 : Abs.Spec := { ta := (.pr (.sl (.int .u64)) (.pr (.int .i64) (.pr (.int .i64) .un))), tr := (.pr .bool .un), multi := false, pre := fun x => pre3 x.1 x.2.1 x.2.2.1, val := fun x => (v3 x.1 x.2.1 x.2.2.1, ()) }
def S4 : Abs.Spec := { ta := (.pr (.sl (.int .u64)) (.pr (.int .i64) .un)), tr := (.pr .bool .un), multi := false, pre := fun x => pre4 x.1 x.2.1, val := fun x => (v4 x.1 x.2.1, ()) }
def S5 : Abs.Spec := { ta := .un, tr := (.pr .bool .un), multi := false, pre := fun x => true, val := fun x => (v5, ()) }
def S6 : Abs.Spec := { ta := (.pr (.sl (.int .u64)) .un), tr := (.pr .bool .un), multi := false, pre := fun x => true, val := fun x => (v6 x.1, ()) }
def S7 : Abs.Spec := { ta := (.pr (.sl (.int .u64)) (.pr (.int .i64) .un)), tr := (.pr (.sl (.int .u64)) .un), multi := false, pre := fun x => pre7 x.1 x.2.1, val := fun x => (v7 x.1 x.2.1, ()) }
def S8 : Abs.Spec := { ta := (.pr (.sl (.int .u64)) (.pr (.int .i64) .un)), tr := (.pr .bool .un), multi := false, pre := fun x => pre8 x.1 x.2.1, val := fun x => (v8 x.1 x.2.1, ()) }
def S9 : Abs.Spec := { ta := (.pr (.sl (.int .u64)) (.pr (.sl (.int .u64)) .un)), tr := (.pr .bool .un), multi := false, pre := fun x => pre9 x.1 x.2.1, val := fun x => (v9 x.1 x.2.1, ()) }
def S10 : Abs.Spec := { ta := (.pr (.sl (.int .u64)) (.pr (.int .i64) .un)), tr := (.pr .bool .un), multi := false, pre := fun x => pre10 x.1 x.2.1, val := fun x => (v10 x.1 x.2.1, ()) }
def S11 : Abs.Spec := { ta := (.pr (.sl (.int .u64)) .un), tr := (.pr (.int .i64) .un), multi := false, pre := fun x => pre11 x.1, val := fun x => (v11 x.1, ()) }
def S12 : Abs.Spec := { ta := (.pr (.sl (.int .u64)) .un), tr := (.pr (.int .i64) .un), multi := false, pre := fun x => pre12 x.1, val := fun x => (v12 x.1, ()) }
def S13 : Abs.Spec := { ta := (.pr (.sl (.int .u64)) .un), tr := (.pr (.sl (.int .u64)) .un), multi := false, pre := fun x => pre13 x.1, val := fun x => (v13 x.1, ()) }
def S14 : Abs.Spec := { ta := (.pr (.int .i64) .un), tr := (.pr .bool .un), multi := false, pre := fun x => true, val := fun x => (v14 x.1, ()) }
def S15 : Abs.Spec := { ta := (.pr (.sl (.int .u64)) (.pr (.int .i64) .un)), tr := (.pr (.int .u64) .un), multi := false, pre := fun x => pre15 x.1 x.2.1, val := fun x => (v15 x.1 x.2.1, ()) }
def S16 : Abs.Spec := { ta := (.pr (.int .u64) .un), tr := (.pr (.int .i64) .un), multi := false, pre := fun x => pre16 x.1, val := fun x => (v16 x.1, ()) }

def H7_4 : Head := { hd := [(2, (.i .i64)), (10, (.os 7)), (15, (.ar (.int .u64)))], exits := [(1, [(2, (.i .i64)), (10, (.os 7)), (15, (.ar (.int .u64)))])] }
def C7 : Cfg := { nt := 32, tab := tab, eb := ebs, glob := [], specs := [(14, S14)], clones := [(13, ((.int .u64), 8))], keep := [0, 2, 8, 10, 15], own := [], heads := [(4, H7_4)] }
def C14 : Cfg := { nt := 9, tab := tab, eb := ebs, glob := [], specs := [], clones := [], keep := [0, 4], own := [], heads := [] }
def C6 : Cfg := { nt := 6, tab := tab, eb := ebs, glob := [], specs := [], clones := [], keep := [0, 4], own := [], heads := [] }
def C15 : Cfg := { nt := 13, tab := tab, eb := ebs, glob := [], specs := [], clones := [], keep := [0, 2, 8], own := [], heads := [] }
def H8_5 : Head := { hd := [(2, (.i .i64)), (10, (.i .u64)), (12, (.i .i64))], exits := [(1, [(10, (.i .u64))])] }
def C8 : Cfg := { nt := 36, tab := tab, eb := ebs, glob := [], specs := [], clones := [], keep := [0, 2, 8, 10, 12], own := [], heads := [(5, H8_5)] }
def H9_2 : Head := { hd := [(0, (.sl (.int .u64) .no)), (2, (.sl (.int .u64) .no)), (10, (.i .i64))], exits := [(0, [(8, .bo)]), (1, [])] }
def C9 : Cfg := { nt := 25, tab := tab, eb := ebs, glob := [], specs := [(15, S15)], clones := [], keep := [0, 2, 8, 10], own := [], heads := [(2, H9_2)] }
def C10 : Cfg := { nt := 27, tab := tab, eb := ebs, glob := [], specs := [(14, S14)], clones := [], keep := [0, 2, 8], own := [], heads := [] }
def H12_6 : Head := { hd := [(0, (.sl (.int .u64) .no)), (6, (.i .i64)), (8, (.i .i64)), (10, (.i .u64))], exits := [(3, [(0, (.sl (.int .u64) .no)), (6, (.i .i64)), (8, (.i .i64))])] }
def H12_3 : Head := { hd := [(0, (.sl (.int .u64) .no)), (6, (.i .i64)), (8, (.i .i64))], exits := [(1, [(6, (.i .i64))])] }
def C12 : Cfg := { nt := 26, tab := tab, eb := ebs, glob := [], specs := [], clones := [], keep := [0, 4, 6, 8, 10], own := [], heads := [(6, H12_6), (3, H12_3)] }
def H11_3 : Head := { hd := [(6, (.i .i64)), (12, (.sl (.int .u64) .no)), (14, (.i .i64)), (16, (.i .i64))], exits := [(1, [(6, (.i .i64))])] }
def C11 : Cfg := { nt := 18, tab := tab, eb := ebs, glob := [], specs := [(16, S16)], clones := [], keep := [0, 4, 6, 10, 12, 14, 16], own := [], heads := [(3, H11_3)] }
def C5 : Cfg := { nt := 18, tab := tab, eb := ebs, glob := [], specs := [(7, S7)], clones := [], keep := [0, 2], own := [], heads := [] }
def H3_8 : Head := { hd := [(0, (.sl (.int .u64) .no)), (2, (.i .i64)), (4, (.i .i64)), (14, (.sl (.int .u64) (.own 18))), (16, (.sl (.int .u64) .no)), (46, (.i .i64)), (48, (.i .i64))], exits := [(0, [(12, .bo)]), (1, [(0, (.sl (.int .u64) .no)), (2, (.i .i64)), (4, (.i .i64)), (16, (.sl (.int .u64) .no))])] }
def C3 : Cfg := { nt := 88, tab := tab, eb := ebs, glob := [], specs := [(5, S5), (6, S6), (7, S7), (8, S8), (9, S9)], clones := [], keep := [0, 2, 4, 12, 14, 16, 18, 20, 22, 46, 48], own := [], heads := [(8, H3_8)] }
def C4 : Cfg := { nt := 25, tab := tab, eb := ebs, glob := [], specs := [(5, S5), (6, S6), (8, S8), (10, S10), (11, S11), (12, S12)], clones := [], keep := [0, 2, 8], own := [], heads := [] }

/-! ### 7: incognito/memo.With -/
def W7_4 {β : Type} (N : Nat) (x1 : Int → Nat → (List Int) → Option β) : Nat → Int → Nat → (List Int) → Option β
  | 0, _, _, _ => none
  | n + 1, t1, t5, b7 =>
  bif decide (((t5 : Nat) : Int) ≤ (Go.IntKind.wrap .i64 (Int.tdiv t1 (64 : Int)))) then
    bif ((decide (t5 = (List.length b7))) && (decide ((((List.length b7) + (List.length ((0 : Int) :: ([] : List Int)))) * 8) ≤ 140737488351232))) then
      W7_4 N x1 n t1 ((List.length b7) + (List.length ((0 : Int) :: ([] : List Int)))) (b7 ++ ((0 : Int) :: ([] : List Int)))
    else
      none
  else
    x1 t1 t5 b7
def L7 (N : Nat) : Loops ((List Int) × Unit) := fun k ρ K => match Nat.beq k 4 with
  | true => (match adH ρ H7_4.hd with
    | some v => W7_4 N (fun t1 t5 b7 => K (.exit 0) (encH [(2, (.i .i64)), (10, (.os 7)), (15, (.ar (.int .u64)))] (t1, (t5, (b7, ()))))) N v.1 v.2.1 v.2.2.1
    | none => none)
  | false => none
def F7 (N : Nat) (p0 : List Int) (p1 : Int) : Option ((List Int) × Unit) :=
  bif decide (((List.length p0) * 8) ≤ 140737488351232) then
    bif (!(v14 p1)) then
      bif decide ((List.length p0) = (List.length p0)) then
        some (p0, ())
      else
        none
    else
      W7_4 N
        (fun t1 t5 b7 =>
          bif ((decide ((0 : Int) ≤ (Go.IntKind.wrap .i64 (Int.tdiv t1 (64 : Int))))) && (decide ((Go.IntKind.wrap .i64 (Int.tdiv t1 (64 : Int))) < ((t5 : Nat) : Int)))) then
            bif decide ((Int.toNat (Go.IntKind.wrap .i64 (Int.tdiv t1 (64 : Int)))) < (List.length b7)) then
              bif decide ((Go.IntKind.wrap .u64 (Int.tmod t1 (64 : Int))) < (0 : Int)) then
                none
              else
                bif ((decide ((0 : Int) ≤ (Go.IntKind.wrap .i64 (Int.tdiv t1 (64 : Int))))) && (decide ((Go.IntKind.wrap .i64 (Int.tdiv t1 (64 : Int))) < ((t5 : Nat) : Int)))) then
                  bif decide ((Int.toNat (Go.IntKind.wrap .i64 (Int.tdiv t1 (64 : Int)))) < (List.length b7)) then
                    bif decide (t5 = (List.length (List.set b7 (Int.toNat (Go.IntKind.wrap .i64 (Int.tdiv t1 (64 : Int)))) (Go.bits .or .u64 (List.getD b7 (Int.toNat (Go.IntKind.wrap .i64 (Int.tdiv t1 (64 : Int)))) (0 : Int)) (Go.IntKind.wrap .u64 ((1 : Int) * ((2 : Int) ^ (Min.min (Int.toNat (Go.IntKind.wrap .u64 (Int.tmod t1 (64 : Int)))) (Go.IntKind.bits .u64))))))))) then
                      some ((List.set b7 (Int.toNat (Go.IntKind.wrap .i64 (Int.tdiv t1 (64 : Int)))) (Go.bits .or .u64 (List.getD b7 (Int.toNat (Go.IntKind.wrap .i64 (Int.tdiv t1 (64 : Int)))) (0 : Int)) (Go.IntKind.wrap .u64 ((1 : Int) * ((2 : Int) ^ (Min.min (Int.toNat (Go.IntKind.wrap .u64 (Int.tmod t1 (64 : Int)))) (Go.IntKind.bits .u64))))))), ())
                    else
                      none
                  else
                    none
                else
                  none
            else
              none
          else
            none)
        N p1 (List.length p0) p0
  else
    none
theorem loops7 (N : Nat) : loopsOk C7 (L7 N) Go.Proofs.Try.f7 := ⟨trivial, ⟨trivial, ⟨⟨trivial, ⟨⟨trivial, trivial⟩, trivial⟩⟩, ⟨⟨loopOk_of H7_4 N (fun K n v => W7_4 N (fun t1 t5 b7 => K (.exit 0) (encH [(2, (.i .i64)), (10, (.os 7)), (15, (.ar (.int .u64)))] (t1, (t5, (b7, ()))))) n v.1 v.2.1 v.2.2.1) (by kernel_rfl) (fun K v => by kernel_rfl) (fun K v => by kernel_rfl) (fun K n v => by kernel_rfl), ⟨⟨trivial, ⟨trivial, trivial⟩⟩, trivial⟩⟩, ⟨trivial, ⟨trivial, trivial⟩⟩⟩⟩⟩⟩
theorem runs7 (N : Nat) (x : S7.ta.den) : run C7 S7 (L7 N) Go.Proofs.Try.f7 x = F7 N x.1 x.2.1 := by kernel_rfl

/-! ### 14: incognito/memo.there -/
def L14 (_ : Nat) : Loops (Bool × Unit) := fun _ _ _ => none
def F14 (N : Nat) (p0 : Int) : Option (Bool × Unit) :=
  bif decide (p0 ≥ (0 : Int)) then
    some (decide (p0 < (4096 : Int)), ())
  else
    some (false, ())
theorem loops14 (N : Nat) : loopsOk C14 (L14 N) Go.Proofs.Try.f14 := ⟨trivial, ⟨trivial, trivial⟩⟩
theorem runs14 (N : Nat) (x : S14.ta.den) : run C14 S14 (L14 N) Go.Proofs.Try.f14 x = F14 N x.1 := by kernel_rfl

/-! ### 6: incognito/incognitolaw21.great -/
def L6 (_ : Nat) : Loops (Bool × Unit) := fun _ _ _ => none
def F6 (N : Nat) (p0 : List Int) : Option (Bool × Unit) :=
  some (decide ((((List.length p0) : Nat) : Int) > (100 : Int)), ())
theorem loops6 (N : Nat) : loopsOk C6 (L6 N) Go.Proofs.Try.f6 := ⟨trivial, ⟨trivial, trivial⟩⟩
theorem runs6 (N : Nat) (x : S6.ta.den) : run C6 S6 (L6 N) Go.Proofs.Try.f6 x = F6 N x.1 := by kernel_rfl

/-! ### 15: incognito/incognitoref21.at -/
def L15 (_ : Nat) : Loops (Int × Unit) := fun _ _ _ => none
def F15 (N : Nat) (p0 : List Int) (p1 : Int) : Option (Int × Unit) :=
  bif decide (p1 < (((List.length p0) : Nat) : Int)) then
    bif ((decide ((0 : Int) ≤ p1)) && (decide (p1 < (((List.length p0) : Nat) : Int)))) then
      some ((List.getD p0 (Int.toNat p1) (0 : Int)), ())
    else
      none
  else
    some ((0 : Int), ())
theorem loops15 (N : Nat) : loopsOk C15 (L15 N) Go.Proofs.Try.f15 := ⟨trivial, ⟨⟨trivial, ⟨⟨trivial, trivial⟩, trivial⟩⟩, ⟨trivial, trivial⟩⟩⟩
theorem runs15 (N : Nat) (x : S15.ta.den) : run C15 S15 (L15 N) Go.Proofs.Try.f15 x = F15 N x.1 x.2.1 := by kernel_rfl

/-! ### 8: incognito/incognitoref21.Has -/
def W8_5 {β : Type} (N : Nat) (x1 : Int → Option β) : Nat → Int → Int → Int → Option β
  | 0, _, _, _ => none
  | n + 1, t1, t5, t6 =>
  bif decide (t6 < (Int.tmod t1 (64 : Int))) then
    W8_5 N x1 n t1 (Go.IntKind.wrap .u64 (Int.tdiv t5 (2 : Int))) (Go.IntKind.wrap .i64 (t6 + (1 : Int)))
  else
    x1 t5
def L8 (N : Nat) : Loops (Bool × Unit) := fun k ρ K => match Nat.beq k 5 with
  | true => (match adH ρ H8_5.hd with
    | some v => W8_5 N (fun t5 => K (.exit 0) (encH [(10, (.i .u64))] (t5, ()))) N v.1 v.2.1 v.2.2.1
    | none => none)
  | false => none
def F8 (N : Nat) (p0 : List Int) (p1 : Int) : Option (Bool × Unit) :=
  bif decide (p1 < (0 : Int)) then
    some (false, ())
  else
    bif decide (p1 > (4095 : Int)) then
      some (false, ())
    else
      bif decide ((Go.IntKind.wrap .i64 (Int.tdiv p1 (64 : Int))) ≥ (((List.length p0) : Nat) : Int)) then
        some (false, ())
      else
        bif ((decide ((0 : Int) ≤ (Go.IntKind.wrap .i64 (Int.tdiv p1 (64 : Int))))) && (decide ((Go.IntKind.wrap .i64 (Int.tdiv p1 (64 : Int))) < (((List.length p0) : Nat) : Int)))) then
          W8_5 N
            (fun t5 =>
              some (((Int.tmod t5 (2 : Int)) == (1 : Int)), ()))
            N p1 (List.getD p0 (Int.toNat (Go.IntKind.wrap .i64 (Int.tdiv p1 (64 : Int)))) (0 : Int)) (0 : Int)
        else
          none
theorem loops8 (N : Nat) : loopsOk C8 (L8 N) Go.Proofs.Try.f8 := ⟨trivial, ⟨⟨trivial, ⟨⟨trivial, trivial⟩, trivial⟩⟩, ⟨trivial, ⟨⟨trivial, ⟨loopOk_of H8_5 N (fun K n v => W8_5 N (fun t5 => K (.exit 0) (encH [(10, (.i .u64))] (t5, ()))) n v.1 v.2.1 v.2.2.1) (by kernel_rfl) (fun K v => by kernel_rfl) (fun K v => by kernel_rfl) (fun K n v => by kernel_rfl), ⟨⟨trivial, ⟨trivial, trivial⟩⟩, ⟨trivial, trivial⟩⟩⟩⟩, ⟨trivial, trivial⟩⟩⟩⟩⟩
theorem runs8 (N : Nat) (x : S8.ta.den) : run C8 S8 (L8 N) Go.Proofs.Try.f8 x = F8 N x.1 x.2.1 := by kernel_rfl

/-! ### 9: incognito/incognitoref21.Same -/
def W9_2 {β : Type} (N : Nat) (x0 : Bool → Option β) (x1 : Unit → Option β) : Nat → (List Int) → (List Int) → Int → Option β
  | 0, _, _, _ => none
  | n + 1, t0, t1, t5 =>
  bif decide (t5 < (((List.length t0) : Nat) : Int)) then
    bif (pre15 t0 t5) then
      bif (pre15 t1 t5) then
        bif ((v15 t0 t5) != (v15 t1 t5)) then
          x0 false
        else
          W9_2 N x0 x1 n t0 t1 (Go.IntKind.wrap .i64 (t5 + (1 : Int)))
      else
        none
    else
      none
  else
    bif decide (t5 < (((List.length t1) : Nat) : Int)) then
      bif (pre15 t0 t5) then
        bif (pre15 t1 t5) then
          bif ((v15 t0 t5) != (v15 t1 t5)) then
            x0 false
          else
            W9_2 N x0 x1 n t0 t1 (Go.IntKind.wrap .i64 (t5 + (1 : Int)))
        else
          none
      else
        none
    else
      x1 ()
def L9 (N : Nat) : Loops (Bool × Unit) := fun k ρ K => match Nat.beq k 2 with
  | true => (match adH ρ H9_2.hd with
    | some v => W9_2 N (fun t4 => K .ret (encH [(8, .bo)] (t4, ()))) (fun _ => K (.exit 0) (encH [] ())) N v.1 v.2.1 v.2.2.1
    | none => none)
  | false => none
def F9 (N : Nat) (p0 : List Int) (p1 : List Int) : Option (Bool × Unit) :=
  W9_2 N
    (fun t4 =>
      some (t4, ()))
    (fun (_ : Unit) =>
      some (true, ()))
    N p0 p1 (0 : Int)
theorem loops9 (N : Nat) : loopsOk C9 (L9 N) Go.Proofs.Try.f9 := ⟨trivial, ⟨⟨trivial, ⟨loopOk_of H9_2 N (fun K n v => W9_2 N (fun t4 => K .ret (encH [(8, .bo)] (t4, ()))) (fun _ => K (.exit 0) (encH [] ())) n v.1 v.2.1 v.2.2.1) (by kernel_rfl) (fun K v => by kernel_rfl) (fun K v => by kernel_rfl) (fun K n v => by kernel_rfl), ⟨⟨trivial, ⟨trivial, trivial⟩⟩, ⟨⟨trivial, ⟨⟨trivial, trivial⟩, trivial⟩⟩, trivial⟩⟩⟩⟩, ⟨trivial, trivial⟩⟩⟩
theorem runs9 (N : Nat) (x : S9.ta.den) : run C9 S9 (L9 N) Go.Proofs.Try.f9 x = F9 N x.1 x.2.1 := by kernel_rfl

/-! ### 10: incognito/memo.Has -/
def L10 (_ : Nat) : Loops (Bool × Unit) := fun _ _ _ => none
def F10 (N : Nat) (p0 : List Int) (p1 : Int) : Option (Bool × Unit) :=
  bif (v14 p1) then
    bif decide ((Go.IntKind.wrap .i64 (Int.tdiv p1 (64 : Int))) < (((List.length p0) : Nat) : Int)) then
      bif ((decide ((0 : Int) ≤ (Go.IntKind.wrap .i64 (Int.tdiv p1 (64 : Int))))) && (decide ((Go.IntKind.wrap .i64 (Int.tdiv p1 (64 : Int))) < (((List.length p0) : Nat) : Int)))) then
        bif decide ((Go.IntKind.wrap .u64 (Int.tmod p1 (64 : Int))) < (0 : Int)) then
          none
        else
          some (((Go.bits .and .u64 (Int.fdiv (List.getD p0 (Int.toNat (Go.IntKind.wrap .i64 (Int.tdiv p1 (64 : Int)))) (0 : Int)) ((2 : Int) ^ (Min.min (Int.toNat (Go.IntKind.wrap .u64 (Int.tmod p1 (64 : Int)))) (Go.IntKind.bits .u64)))) (1 : Int)) == (1 : Int)), ())
      else
        none
    else
      some (false, ())
  else
    some (false, ())
theorem loops10 (N : Nat) : loopsOk C10 (L10 N) Go.Proofs.Try.f10 := ⟨trivial, ⟨trivial, trivial⟩⟩
theorem runs10 (N : Nat) (x : S10.ta.den) : run C10 S10 (L10 N) Go.Proofs.Try.f10 x = F10 N x.1 x.2.1 := by kernel_rfl

/-! ### 12: incognito/incognitoref21.Count -/
def W12_6 {β : Type} (N : Nat) (x3 : (List Int) → Int → Int → Option β) : Nat → (List Int) → Int → Int → Int → Option β
  | 0, _, _, _, _ => none
  | n + 1, t0, t3, t4, t5 =>
  bif decide (t5 > (0 : Int)) then
    W12_6 N x3 n t0 (Go.IntKind.wrap .i64 (t3 + (Go.IntKind.wrap .i64 (Int.tmod t5 (2 : Int))))) t4 (Go.IntKind.wrap .u64 (Int.tdiv t5 (2 : Int)))
  else
    x3 t0 t3 t4
def W12_3 {β : Type} (N : Nat) (x1 : Int → Option β) : Nat → (List Int) → Int → Int → Option β
  | 0, _, _, _ => none
  | n + 1, t0, t3, t4 =>
  bif decide (t4 < (((List.length t0) : Nat) : Int)) then
    bif ((decide ((0 : Int) ≤ t4)) && (decide (t4 < (((List.length t0) : Nat) : Int)))) then
      W12_6 N
        (fun t0 t3 t4 =>
          W12_3 N x1 n t0 t3 (Go.IntKind.wrap .i64 (t4 + (1 : Int))))
        N t0 t3 t4 (List.getD t0 (Int.toNat t4) (0 : Int))
    else
      none
  else
    x1 t3
def L12 (N : Nat) : Loops (Int × Unit) := fun k ρ K => match Nat.beq k 6 with
  | true => (match adH ρ H12_6.hd with
    | some v => W12_6 N (fun t0 t3 t4 => K (.exit 2) (encH [(0, (.sl (.int .u64) .no)), (6, (.i .i64)), (8, (.i .i64))] (t0, (t3, (t4, ()))))) N v.1 v.2.1 v.2.2.1 v.2.2.2.1
    | none => none)
  | false => match Nat.beq k 3 with
  | true => (match adH ρ H12_3.hd with
    | some v => W12_3 N (fun t3 => K (.exit 0) (encH [(6, (.i .i64))] (t3, ()))) N v.1 v.2.1 v.2.2.1
    | none => none)
  | false => none
def F12 (N : Nat) (p0 : List Int) : Option (Int × Unit) :=
  W12_3 N
    (fun t3 =>
      some (t3, ()))
    N p0 (0 : Int) (0 : Int)
theorem loops12 (N : Nat) : loopsOk C12 (L12 N) Go.Proofs.Try.f12 := ⟨trivial, ⟨trivial, ⟨⟨trivial, ⟨loopOk_of H12_3 N (fun K n v => W12_3 N (fun t3 => K (.exit 0) (encH [(6, (.i .i64))] (t3, ()))) n v.1 v.2.1 v.2.2.1) (by kernel_rfl) (fun K v => by kernel_rfl) (fun K v => by kernel_rfl) (fun K n v => by kernel_rfl), ⟨⟨trivial, ⟨trivial, trivial⟩⟩, ⟨⟨trivial, ⟨loopOk_of H12_6 N (fun K n v => W12_6 N (fun t0 t3 t4 => K (.exit 2) (encH [(0, (.sl (.int .u64) .no)), (6, (.i .i64)), (8, (.i .i64))] (t0, (t3, (t4, ()))))) n v.1 v.2.1 v.2.2.1 v.2.2.2.1) (by kernel_rfl) (fun K v => by kernel_rfl) (fun K v => by kernel_rfl) (fun K n v => by kernel_rfl), ⟨⟨trivial, ⟨trivial, trivial⟩⟩, ⟨trivial, trivial⟩⟩⟩⟩, trivial⟩⟩⟩⟩, ⟨trivial, trivial⟩⟩⟩⟩
theorem runs12 (N : Nat) (x : S12.ta.den) : run C12 S12 (L12 N) Go.Proofs.Try.f12 x = F12 N x.1 := by kernel_rfl

/-! ### 11: incognito/memo.Count -/
def W11_3 {β : Type} (N : Nat) (x1 : Int → Option β) : Nat → Int → (List Int) → Int → Int → Option β
  | 0, _, _, _, _ => none
  | n + 1, t3, t6, t7, t8 =>
  bif decide (t8 < t7) then
    bif ((decide ((0 : Int) ≤ t8)) && (decide (t8 < (((List.length t6) : Nat) : Int)))) then
      bif (pre16 (List.getD t6 (Int.toNat t8) (0 : Int))) then
        W11_3 N x1 n (Go.IntKind.wrap .i64 (t3 + (v16 (List.getD t6 (Int.toNat t8) (0 : Int))))) t6 t7 (Go.IntKind.wrap .i64 (t8 + (1 : Int)))
      else
        none
    else
      none
  else
    x1 t3
def L11 (N : Nat) : Loops (Int × Unit) := fun k ρ K => match Nat.beq k 3 with
  | true => (match adH ρ H11_3.hd with
    | some v => W11_3 N (fun t3 => K (.exit 0) (encH [(6, (.i .i64))] (t3, ()))) N v.1 v.2.1 v.2.2.1 v.2.2.2.1
    | none => none)
  | false => none
def F11 (N : Nat) (p0 : List Int) : Option (Int × Unit) :=
  W11_3 N
    (fun t3 =>
      some (t3, ()))
    N (0 : Int) p0 (((List.length p0) : Nat) : Int) (0 : Int)
theorem loops11 (N : Nat) : loopsOk C11 (L11 N) Go.Proofs.Try.f11 := ⟨trivial, ⟨trivial, ⟨⟨trivial, ⟨loopOk_of H11_3 N (fun K n v => W11_3 N (fun t3 => K (.exit 0) (encH [(6, (.i .i64))] (t3, ()))) n v.1 v.2.1 v.2.2.1 v.2.2.2.1) (by kernel_rfl) (fun K v => by kernel_rfl) (fun K v => by kernel_rfl) (fun K n v => by kernel_rfl), ⟨trivial, ⟨⟨trivial, trivial⟩, ⟨⟨trivial, trivial⟩, trivial⟩⟩⟩⟩⟩, ⟨trivial, trivial⟩⟩⟩⟩
theorem runs11 (N : Nat) (x : S11.ta.den) : run C11 S11 (L11 N) Go.Proofs.Try.f11 x = F11 N x.1 := by kernel_rfl

/-! ### 5: incognito/incognitolaw21.wakes -/
def L5 (_ : Nat) : Loops (Bool × Unit) := fun _ _ _ => none
def F5 (N : Nat) : Option (Bool × Unit) :=
  some (((List.getD (v7 ([] : List Int) (65 : Int)) (Int.toNat (1 : Int)) (0 : Int)) == (2 : Int)), ())
theorem loops5 (N : Nat) : loopsOk C5 (L5 N) Go.Proofs.Try.f5 := ⟨trivial, ⟨trivial, ⟨trivial, trivial⟩⟩⟩
theorem runs5 (N : Nat) (x : S5.ta.den) : run C5 S5 (L5 N) Go.Proofs.Try.f5 x = F5 N := by kernel_rfl

/-! ### 3: incognito/incognitolaw21.MemoWith -/
def W3_8 {β : Type} (N : Nat) (x0 : Bool → Option β) (x1 : (List Int) → Int → Int → (List Int) → Option β) : Nat → (List Int) → Int → Int → (List Int) → (List Int) → Int → Int → Option β
  | 0, _, _, _, _, _, _, _ => none
  | n + 1, t0, t1, t2, t7, t8, t23, t24 =>
  bif decide (t24 < t23) then
    bif ((decide ((0 : Int) ≤ t24)) && (decide (t24 < (((List.length t7) : Nat) : Int)))) then
      bif ((decide ((0 : Int) ≤ t24)) && (decide (t24 < (((List.length t0) : Nat) : Int)))) then
        bif ((List.getD t7 (Int.toNat t24) (0 : Int)) != (List.getD t0 (Int.toNat t24) (0 : Int))) then
          x0 false
        else
          W3_8 N x0 x1 n t0 t1 t2 t7 t8 t23 (Go.IntKind.wrap .i64 (t24 + (1 : Int)))
      else
        none
    else
      none
  else
    x1 t0 t1 t2 t8
def L3 (N : Nat) : Loops (Bool × Unit) := fun k ρ K => match Nat.beq k 8 with
  | true => (match adH ρ H3_8.hd with
    | some v => W3_8 N (fun t6 => K .ret (encH [(12, .bo)] (t6, ()))) (fun t0 t1 t2 t8 => K (.exit 0) (encH [(0, (.sl (.int .u64) .no)), (2, (.i .i64)), (4, (.i .i64)), (16, (.sl (.int .u64) .no))] (t0, (t1, (t2, (t8, ())))))) N v.1 v.2.1 v.2.2.1 v.2.2.2.1 v.2.2.2.2.1 v.2.2.2.2.2.1 v.2.2.2.2.2.2.1
    | none => none)
  | false => none
def F3 (N : Nat) (p0 : List Int) (p1 : Int) (p2 : Int) : Option (Bool × Unit) :=
  bif (v6 p0) then
    some (true, ())
  else
    bif decide ((((List.length ([] : List Int)) + (List.length p0)) * 8) ≤ 140737488351232) then
      bif (pre7 (([] : List Int) ++ p0) p1) then
        W3_8 N
          (fun t6 =>
            some (t6, ()))
          (fun t0 t1 t2 t8 =>
            bif decide (t1 ≥ (0 : Int)) then
              bif decide (t1 < (4096 : Int)) then
                bif decide ((Go.IntKind.wrap .i64 (Int.tdiv t1 (64 : Int))) ≥ (((List.length t0) : Nat) : Int)) then
                  bif ((((List.length t8) : Nat) : Int) == (Go.IntKind.wrap .i64 ((Go.IntKind.wrap .i64 (Int.tdiv t1 (64 : Int))) + (1 : Int)))) then
                    bif (pre8 t8 t1) then
                      bif ((v8 t8 t1) == (decide (t1 < (4096 : Int)))) then
                        bif (t2 == t1) then
                          bif decide (t1 < (4096 : Int)) then
                            some (true, ())
                          else
                            bif (pre9 t8 t0) then
                              some ((v9 t8 t0), ())
                            else
                              none
                        else
                          bif (pre8 t8 t2) then
                            bif (pre8 t0 t2) then
                              bif ((v8 t8 t2) == (v8 t0 t2)) then
                                bif decide (t1 < (4096 : Int)) then
                                  some (true, ())
                                else
                                  bif (pre9 t8 t0) then
                                    some ((v9 t8 t0), ())
                                  else
                                    none
                              else
                                some (false, ())
                            else
                              none
                          else
                            none
                      else
                        some (false, ())
                    else
                      none
                  else
                    some (false, ())
                else
                  bif ((((List.length t8) : Nat) : Int) == (((List.length t0) : Nat) : Int)) then
                    bif (pre8 t8 t1) then
                      bif ((v8 t8 t1) == (decide (t1 < (4096 : Int)))) then
                        bif (t2 == t1) then
                          bif decide (t1 < (4096 : Int)) then
                            some (true, ())
                          else
                            bif (pre9 t8 t0) then
                              some ((v9 t8 t0), ())
                            else
                              none
                        else
                          bif (pre8 t8 t2) then
                            bif (pre8 t0 t2) then
                              bif ((v8 t8 t2) == (v8 t0 t2)) then
                                bif decide (t1 < (4096 : Int)) then
                                  some (true, ())
                                else
                                  bif (pre9 t8 t0) then
                                    some ((v9 t8 t0), ())
                                  else
                                    none
                              else
                                some (false, ())
                            else
                              none
                          else
                            none
                      else
                        some (false, ())
                    else
                      none
                  else
                    some (false, ())
              else
                bif ((((List.length t8) : Nat) : Int) == (((List.length t0) : Nat) : Int)) then
                  bif (pre8 t8 t1) then
                    bif ((v8 t8 t1) == (decide (t1 < (4096 : Int)))) then
                      bif (t2 == t1) then
                        bif decide (t1 < (4096 : Int)) then
                          some (true, ())
                        else
                          bif (pre9 t8 t0) then
                            some ((v9 t8 t0), ())
                          else
                            none
                      else
                        bif (pre8 t8 t2) then
                          bif (pre8 t0 t2) then
                            bif ((v8 t8 t2) == (v8 t0 t2)) then
                              bif decide (t1 < (4096 : Int)) then
                                some (true, ())
                              else
                                bif (pre9 t8 t0) then
                                  some ((v9 t8 t0), ())
                                else
                                  none
                            else
                              some (false, ())
                          else
                            none
                        else
                          none
                    else
                      some (false, ())
                  else
                    none
                else
                  some (false, ())
            else
              bif ((((List.length t8) : Nat) : Int) == (((List.length t0) : Nat) : Int)) then
                bif (pre8 t8 t1) then
                  bif ((v8 t8 t1) == false) then
                    bif (t2 == t1) then
                      bif (pre9 t8 t0) then
                        some ((v9 t8 t0), ())
                      else
                        none
                    else
                      bif (pre8 t8 t2) then
                        bif (pre8 t0 t2) then
                          bif ((v8 t8 t2) == (v8 t0 t2)) then
                            bif (pre9 t8 t0) then
                              some ((v9 t8 t0), ())
                            else
                              none
                          else
                            some (false, ())
                        else
                          none
                      else
                        none
                  else
                    some (false, ())
                else
                  none
              else
                some (false, ()))
          N p0 p1 p2 (([] : List Int) ++ p0) (v7 (([] : List Int) ++ p0) p1) (((List.length p0) : Nat) : Int) (0 : Int)
      else
        none
    else
      none
theorem loops3 (N : Nat) : loopsOk C3 (L3 N) Go.Proofs.Try.f3 := ⟨trivial, ⟨⟨trivial, ⟨⟨trivial, trivial⟩, trivial⟩⟩, ⟨⟨trivial, ⟨⟨trivial, trivial⟩, trivial⟩⟩, ⟨trivial, ⟨trivial, ⟨⟨trivial, ⟨loopOk_of H3_8 N (fun K n v => W3_8 N (fun t6 => K .ret (encH [(12, .bo)] (t6, ()))) (fun t0 t1 t2 t8 => K (.exit 0) (encH [(0, (.sl (.int .u64) .no)), (2, (.i .i64)), (4, (.i .i64)), (16, (.sl (.int .u64) .no))] (t0, (t1, (t2, (t8, ())))))) n v.1 v.2.1 v.2.2.1 v.2.2.2.1 v.2.2.2.2.1 v.2.2.2.2.2.1 v.2.2.2.2.2.2.1) (by kernel_rfl) (fun K v => by kernel_rfl) (fun K v => by kernel_rfl) (fun K n v => by kernel_rfl), ⟨trivial, ⟨⟨trivial, trivial⟩, ⟨⟨trivial, ⟨trivial, ⟨⟨trivial, trivial⟩, trivial⟩⟩⟩, trivial⟩⟩⟩⟩⟩, ⟨trivial, ⟨trivial, ⟨⟨trivial, ⟨trivial, trivial⟩⟩, ⟨trivial, trivial⟩⟩⟩⟩⟩⟩⟩⟩⟩⟩
theorem runs3 (N : Nat) (x : S3.ta.den) : run C3 S3 (L3 N) Go.Proofs.Try.f3 x = F3 N x.1 x.2.1 x.2.2.1 := by kernel_rfl

/-! ### 4: incognito/incognitolaw21.MemoHas -/
def L4 (_ : Nat) : Loops (Bool × Unit) := fun _ _ _ => none
def F4 (N : Nat) (p0 : List Int) (p1 : Int) : Option (Bool × Unit) :=
  bif (v6 p0) then
    some (true, ())
  else
    bif (pre10 p0 p1) then
      bif (pre8 p0 p1) then
        bif ((v10 p0 p1) == (v8 p0 p1)) then
          bif (pre11 p0) then
            bif (pre12 p0) then
              some (((v11 p0) == (v12 p0)), ())
            else
              none
          else
            none
        else
          some (false, ())
      else
        none
    else
      none
theorem loops4 (N : Nat) : loopsOk C4 (L4 N) Go.Proofs.Try.f4 := ⟨trivial, ⟨⟨trivial, ⟨⟨trivial, trivial⟩, trivial⟩⟩, ⟨trivial, trivial⟩⟩⟩
theorem runs4 (N : Nat) (x : S4.ta.den) : run C4 S4 (L4 N) Go.Proofs.Try.f4 x = F4 N x.1 x.2.1 := by kernel_rfl

end Go.L21
