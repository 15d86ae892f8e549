/- The abstract machine, part 1: types, values, states and the evaluator. Own text of this session. It imports no program: every theorem holds of any program P. -/
import Derived.OwnWalk
import Derived.Below
import Derived.Deep.Quiet
import Derived.Laws.Rows
import Derived.Laws.Cells
import Derived.Laws.Append
import Derived.Laws.AppendOwn
import Derived.Laws.CopyRow
import Derived.Laws.Entries
import Derived.KernelRfl
set_option linter.unusedVariables false
namespace Go.Abs
open Go

/-- Types of plain data. A struct is a chain 'pr a (pr b .. un)'. -/
inductive Ty where
  | int (k : IntKind) | bool | str | sl (t : Ty) | un | pr (a b : Ty) | o1
  deriving DecidableEq, Inhabited

@[reducible] def Ty.den : Ty → Type
  | .int _ => Int
  | .bool => Bool
  | .str => ByteArray
  | .sl t => List t.den
  | .un => Unit
  | .pr a b => a.den × b.den
  | .o1 => Unit

def Ty.size : Ty → Nat
  | .un => 0
  | .pr a b => a.size + b.size
  | _ => 1

def Ty.isAgg : Ty → Bool
  | .un => true
  | .pr _ _ => true
  | _ => false

def zeroD : (t : Ty) → t.den
  | .int _ => (0 : Int)
  | .bool => false
  | .str => ByteArray.empty
  | .sl _ => []
  | .un => ()
  | .pr a b => (zeroD a, zeroD b)
  | .o1 => ()

inductive Tag where
  | no | full | own (g : Nat) | nl | nn
  deriving Inhabited

inductive AVal where
  | i (k : IntKind) (n : Int) | b (x : Bool) | s (x : ByteArray)
  | sl (t : Ty) (xs : t.sl.den) (g : Tag)
  | un | pr (a b : AVal)
  | bx (k off : Nat)
  | bi (k i off : Nat)
  | pt (t : Ty) (x : t.den)
  | tu (a : AVal)
  | nls | cn (v : Value) | fn (f : Nat) | junk
  | ar (t : Ty) (xs : t.sl.den)
  | os (k n : Nat)
  | nd
  | cl (f : Nat) (a b : AVal)

/-- An array is laid like a struct of as many parts. -/
@[reducible] def arrTy (t : Ty) : Nat → Ty
  | 0 => .un
  | n + 1 => .pr t (arrTy t n)

def arrL (t : Ty) : (n : Nat) → (arrTy t n).den → List t.den
  | 0, _ => []
  | n + 1, x => x.1 :: arrL t n x.2

def enc : (t : Ty) → t.den → AVal
  | .int k, n => .i k n
  | .bool, x => .b x
  | .str, x => .s x
  | .sl t, xs => .sl t xs .no
  | .un, _ => .un
  | .pr a b, x => .pr (enc a x.1) (enc b x.2)
  | .o1, _ => .junk

/-- The zero value: its slices have no room. -/
def zeroA : Ty → AVal
  | .int k => .i k 0
  | .bool => .b false
  | .str => .s ByteArray.empty
  | .sl t => .sl t [] .full
  | .un => .un
  | .pr a b => .pr (zeroA a) (zeroA b)
  | .o1 => .junk

def dec : (t : Ty) → AVal → Option t.den
  | .int k, .i j n => match decEq k j with | .isTrue _ => some n | .isFalse _ => none
  | .bool, .b x => some x
  | .str, .s x => some x
  | .sl t, .sl u xs _ => match decEq u t with | .isTrue h => some (h ▸ xs) | .isFalse _ => none
  | .sl _, .nls => some []
  | .un, .un => some ()
  | .pr a b, .pr x y => match dec a x with
    | some u => match dec b y with | some v => some (u, v) | none => none
    | none => none
  | _, _ => none

/-- Has the value the type's shape? -/
def hasTy : Ty → AVal → Bool
  | .int k, .i j _ => match decEq k j with | .isTrue _ => true | .isFalse _ => false
  | .bool, .b _ => true
  | .str, .s _ => true
  | .sl t, .sl u _ _ => match decEq u t with | .isTrue _ => true | .isFalse _ => false
  | .sl _, .nls => true
  | .sl _, .os _ _ => true
  | .un, .un => true
  | .pr a b, .pr x y => match hasTy a x with | true => hasTy b y | false => false
  | .o1, .bx _ _ => true
  | .o1, .cn _ => true
  | .o1, .fn _ => true
  | .o1, .junk => true
  | _, _ => false

/-- One cell. -/
def leaf : AVal → Bool
  | .un => false
  | .pr _ _ => false
  | .tu _ => false
  | .ar _ _ => false
  | .nd => false
  | _ => true

/-- A value laid out as the chain of its cells, ahead of another chain. -/
def flat : AVal → AVal → AVal
  | .un, acc => acc
  | .pr a b, acc => flat a (flat b acc)
  | x, acc => .pr x acc

def unflat : Ty → AVal → Option (AVal × AVal)
  | .un, c => some (.un, c)
  | .pr a b, c => match unflat a c with
    | some (x, c1) => match unflat b c1 with
      | some (y, c2) => some (.pr x y, c2)
      | none => none
    | none => none
  | _, .pr x c => match leaf x with | true => some (x, c) | false => none
  | _, _ => none

def dropA : Nat → AVal → Option AVal
  | 0, c => some c
  | n + 1, .pr x c => match leaf x with | true => dropA n c | false => none
  | _ + 1, _ => none

/-- A chain written over another one's head. -/
def overA : AVal → AVal → Option AVal
  | .un, c => some c
  | .pr x r, .pr y c => match leaf x, leaf y with
    | true, true => match overA r c with | some c' => some (.pr x c') | none => none
    | _, _ => none
  | _, _ => none

def overAt : Nat → AVal → AVal → Option AVal
  | 0, n, c => overA n c
  | k + 1, n, .pr x c => match leaf x with
    | true => match overAt k n c with | some c' => some (.pr x c') | none => none
    | false => none
  | _ + 1, _, _ => none

def ptField : (t : Ty) → t.den → Nat → Option AVal
  | .pr a _, x, 0 => some (.pt a x.1)
  | .pr _ b, x, n + 1 => ptField b x.2 n
  | _, _, _ => none

/-- Where field n of a struct begins, and its type. -/
def fieldOf : Ty → Nat → Option (Nat × Ty)
  | .pr a _, 0 => some (0, a)
  | .pr a b, n + 1 => match fieldOf b n with | some (o, t) => some (a.size + o, t) | none => none
  | _, _ => none

/-- Part n of a struct's value. -/
def nthA : AVal → Nat → Option AVal
  | .pr x _, 0 => some x
  | .pr _ r, n + 1 => nthA r n
  | _, _ => none

def setNthA : AVal → Nat → AVal → Option AVal
  | .pr _ r, 0, v => some (.pr v r)
  | .pr x r, n + 1, v => match setNthA r n v with | some r' => some (.pr x r') | none => none
  | _, _, _ => none

/-- No tag of its own is left. -/
def strip (g : Nat) : AVal → AVal
  | .sl t xs (.own d) => match Nat.beq d g with | true => .sl t xs .no | false => .sl t xs (.own d)
  | .pr a b => .pr (strip g a) (strip g b)
  | .tu a => .tu (strip g a)
  | .cl f a b => .cl f (strip g a) (strip g b)
  | x => x

/-- What names box k is of no use any more. -/
def killA (k : Nat) : AVal → AVal
  | .bx j o => match Nat.beq j k with | true => .junk | false => .bx j o
  | .bi j i o => match Nat.beq j k with | true => .junk | false => .bi j i o
  | .os j n => match Nat.beq j k with | true => .junk | false => .os j n
  | .pr a b => .pr (killA k a) (killA k b)
  | .tu a => .tu (killA k a)
  | .cl f a b => .cl f (killA k a) (killA k b)
  | x => x

def mentions (k : Nat) : AVal → Bool
  | .bx j _ => Nat.beq j k
  | .bi j _ _ => Nat.beq j k
  | .os j _ => Nat.beq j k
  | .pr a b => match mentions k a with | true => true | false => mentions k b
  | .tu a => mentions k a
  | .cl _ a b => match mentions k a with | true => true | false => mentions k b
  | _ => false

/-! ### States: what temporaries and boxes hold -/
abbrev St := List (Nat × AVal)
@[reducible] def tr (t : Nat) : Nat := 2 * t
@[reducible] def br (k : Nat) : Nat := 2 * k + 1

def get : St → Nat → Option AVal
  | [], _ => none
  | (r, v) :: l, q => match Nat.beq r q with | true => some v | false => get l q

def put (q : Nat) (v : AVal) : St → St
  | [] => [(q, v)]
  | (r, u) :: l => match Nat.beq r q with | true => (r, v) :: l | false => (r, u) :: put q v l

def puts : St → St → St
  | [], ρ => ρ
  | (q, v) :: W, ρ => puts W (put q v ρ)

def mem (q : Nat) : List Nat → Bool
  | [] => false
  | r :: l => match Nat.beq r q with | true => true | false => mem q l

/-- Which boxes a value names, all of them kept? -/
def closedIn (keep : List Nat) : AVal → Bool
  | .bx j _ => mem (br j) keep
  | .bi j _ _ => mem (br j) keep
  | .os j _ => mem (br j) keep
  | .pr a b => match closedIn keep a with | true => closedIn keep b | false => false
  | .tu a => closedIn keep a
  | .cl _ a b => match closedIn keep a with | true => closedIn keep b | false => false
  | _ => true

/-- What is kept; a box that names one that isn't kept: nothing. -/
def focusOn (keep : List Nat) (ρ : St) : List Nat → Option St
  | [] => some []
  | r :: l => match get ρ r with
    | none => focusOn keep ρ l
    | some v => match closedIn keep v, Nat.beq (r % 2) 0 with
      | true, _ => match focusOn keep ρ l with | some m => some ((r, v) :: m) | none => none
      | false, true => focusOn keep ρ l
      | false, false => none

def stripAll (g : Nat) : St → St
  | [] => []
  | (r, v) :: l => (r, strip g v) :: stripAll g l

def killAll (k : Nat) : St → St
  | [] => []
  | (r, v) :: l => (r, killA k v) :: killAll k l

/-! ### Shapes: what a state looks like at a loop's head -/
inductive Sh where
  | i (k : IntKind) | bo | st | sl (t : Ty) (g : Tag) | un | pr (p q : Sh) | bx (k off : Nat) | pt (t : Ty) | ar (t : Ty) | os (k : Nat) | nls | fn (f : Nat) | cl (f : Nat) (p q : Sh) | jk

@[reducible] def Sh.den : Sh → Type
  | .i _ => Int
  | .bo => Bool
  | .st => ByteArray
  | .sl t _ => List t.den
  | .un => Unit
  | .pr p q => p.den × q.den
  | .bx _ _ => Unit
  | .pt t => t.den
  | .ar t => List t.den
  | .os _ => Nat
  | .nls => Unit
  | .jk => Unit
  | .fn _ => Unit
  | .cl _ p q => p.den × q.den

def encS : (s : Sh) → s.den → AVal
  | .i k, n => .i k n
  | .bo, x => .b x
  | .st, x => .s x
  | .sl t g, xs => .sl t xs g
  | .un, _ => .un
  | .pr p q, x => .pr (encS p x.1) (encS q x.2)
  | .bx k off, _ => .bx k off
  | .pt t, x => .pt t x
  | .ar t, xs => .ar t xs
  | .os k, n => .os k n
  | .nls, _ => .nls
  | .jk, _ => .junk
  | .fn f, _ => .fn f
  | .cl f p q, x => .cl f (encS p x.1) (encS q x.2)

/-- What is known as g' does for g. -/
def tagFits : Tag → Tag → Bool
  | .no, _ => true
  | .full, .full => true
  | .own d, .own e => Nat.beq d e
  | _, _ => false

/-- A value seen as one of that shape. -/
def adS : (s : Sh) → AVal → Option s.den
  | .i k, A => match A with | .i j n => (match decEq k j with | .isTrue _ => some n | .isFalse _ => none) | _ => none
  | .bo, A => match A with | .b x => some x | _ => none
  | .st, A => match A with | .s x => some x | _ => none
  | .sl t g, A => match A with | .sl u xs g' => (match decEq u t, tagFits g g' with | .isTrue h, true => some (h ▸ xs) | _, _ => none) | _ => none
  | .un, A => match A with | .un => some () | _ => none
  | .pr p q, A => match A with
    | .pr x y => (match adS p x with
      | some u => match adS q y with | some v => some (u, v) | none => none
      | none => none)
    | _ => none
  | .bx k off, A => match A with | .bx j o => (match Nat.beq k j, Nat.beq off o with | true, true => some () | _, _ => none) | _ => none
  | .pt t, A => match A with | .pt u x => (match decEq u t with | .isTrue h => some (h ▸ x) | .isFalse _ => none) | _ => none
  | .ar t, A => match A with | .ar u xs => (match decEq u t with | .isTrue h => some (h ▸ xs) | .isFalse _ => none) | _ => none
  | .os k, A => match A with | .os j n => (match Nat.beq k j with | true => some n | false => none) | _ => none
  | .nls, A => match A with | .nls => some () | _ => none
  | .jk, A => match A with | .junk => some () | _ => none
  | .fn f, A => match A with | .fn g => (match Nat.beq f g with | true => some () | false => none) | _ => none
  | .cl f p q, A => match A with
    | .cl g x y => (match Nat.beq f g with
      | true => (match adS p x with
        | some u => match adS q y with | some v => some (u, v) | none => none
        | none => none)
      | false => none)
    | _ => none

abbrev HS := List (Nat × Sh)
@[reducible] def HS.den : HS → Type
  | [] => Unit
  | (_, s) :: l => s.den × HS.den l

def encH : (l : HS) → HS.den l → St
  | [], _ => []
  | (r, s) :: l, v => (r, encS s v.1) :: encH l v.2

def adH (ρ : St) : (l : HS) → Option (HS.den l)
  | [] => some ()
  | (r, s) :: l => match get ρ r with
    | some A => match adS s A with
      | some u => match adH ρ l with | some v => some (u, v) | none => none
      | none => none
    | none => none

def boxesIn (ks : List Nat) : Sh → Bool
  | .bx k _ => mem (br k) ks
  | .os k => mem (br k) ks
  | .pr a b => match boxesIn ks a with | true => boxesIn ks b | false => false
  | .cl _ a b => match boxesIn ks a with | true => boxesIn ks b | false => false
  | _ => true

def keysH : HS → List Nat
  | [] => []
  | (r, _) :: l => r :: keysH l

def okH (ks : List Nat) : HS → Bool
  | [] => true
  | (_, s) :: l => match boxesIn ks s with | true => okH ks l | false => false

/-- Where a slice without room is to be the one of its tag, inside of what is put together: now it is. -/
def ownN : Sh → AVal → Option (Nat × AVal)
  | .sl _ (.own d), .sl u xs .full => some (d, .sl u xs (.own d))
  | .pr p q, .pr a b => match ownN p a with
    | some (d, a') => some (d, .pr a' (strip d b))
    | none => match ownN q b with
      | some (d, b') => some (d, .pr (strip d a) b')
      | none => none
  | _, _ => none

/-- Where a slice without room is to be the one of its tag: now it is. -/
def retag : HS → St → St
  | [], ρ => ρ
  | (r, s) :: l, ρ => match get ρ r, Nat.beq (r % 2) 0 with
    | some A, true => match s, A with
      | .sl _ (.own d), .sl u xs .full => retag l (put r (.sl u xs (.own d)) (stripAll d ρ))
      | _, _ => retag l ρ
    | some A, false => match ownN s A with
      | some (d, A') => retag l (put r A' (stripAll d ρ))
      | none => retag l ρ
    | none, _ => retag l ρ

def adapt (hs : HS) (ρ : St) : Option (HS.den hs) := match okH (keysH hs) hs with
  | true => adH (retag hs ρ) hs
  | false => none

structure Head where
  hd : HS
  exits : List (Nat × HS)

/-! ### What is known of the program -/
/-- A function's contract: of what it is handed in (a chain), under 'pre', it answers 'val'; 'multi': not just one result. -/
structure Spec where
  ta : Ty
  tr : Ty
  multi : Bool
  pre : ta.den → Bool
  val : ta.den → tr.den

/-- The contract of a function that may write into what it is handed: what its state is like when it begins ('tr i': parameter i; 'br k': a box) and when it is left ('tr i': result i). 'pins': these boxes stay where they are. -/
structure XSpec where
  hin : HS
  hout : HS
  np : Nat
  nr : Nat
  multi : Bool
  pins : List Nat
  pre : HS.den hin → Bool
  val : HS.den hin → HS.den hout

/-- A call by such a contract: which boxes are handed in (here, there), and which ones are new behind it (there, here). -/
structure XCall where
  f : Nat
  X : XSpec
  ins : List (Nat × Nat)
  news : List (Nat × Nat)

structure Cfg where
  nt : Nat                       -- temporaries
  tab : List (Nat × Ty)          -- types
  eb : List (Nat × Nat)          -- slice types: the bytes of an element
  glob : List (Nat × AVal)       -- package variables: pointers to what they hold
  specs : List (Nat × Spec)
  clones : List (Nat × (Ty × Nat))   -- functions that copy a slice: its elements, an element's bytes
  keep : List Nat
  own : List Nat                 -- the slots whose new slices are owned
  heads : List (Nat × Head)      -- what is known at each loop's head, by its first region
  calls : List (Nat × XCall) := []   -- calls by contracts of that kind, by their slots
  arrs : List (Nat × (Ty × Nat)) := []   -- array types: what they hold, how many

def look {α : Type} : List (Nat × α) → Nat → Option α
  | [], _ => none
  | (r, v) :: l, q => match Nat.beq r q with | true => some v | false => look l q

def ofConst : Value → Option AVal
  | .int k n => some (.i k n)
  | .bool b => some (.b b)
  | .string s => some (.s s)
  | .slice none 0 0 => some .nls
  | .pointer none => some (.cn (.pointer none))
  | .nilFunc => some (.cn .nilFunc)
  | .nilIface => some (.cn .nilIface)
  | _ => none

def opnd (C : Cfg) (ρ : St) : Operand → Option AVal
  | .tmp t => get ρ (tr t)
  | .const v => ofConst v
  | .global g => look C.glob g
  | .func f => some (.fn f)

def rdOf : Operand → List Nat
  | .tmp t => [tr t]
  | _ => []

/-- An untyped nil becomes one of type T. -/
def typed (C : Cfg) (T : Nat) : AVal → AVal
  | .nls => match look C.tab T with | some (.sl t) => .sl t [] .full | _ => .nls
  | x => x

def args (C : Cfg) (ρ : St) : List Operand → Option AVal
  | [] => some .un
  | x :: l => match opnd C ρ x with
    | some v => match args C ρ l with | some r => some (.pr v r) | none => none
    | none => none

section
variable {α : Type}

/-- '==' field by field. -/
def eqA : AVal → AVal → Option Bool
  | .i j a, .i k c => match decEq j k with | .isTrue _ => some (a == c) | .isFalse _ => none
  | .b a, .b c => some (a == c)
  | .s a, .s c => some (a == c)
  | .un, .un => some true
  | .pr a r, .pr c q => match eqA a c with
    | some x => match eqA r q with | some y => some (x && y) | none => none
    | none => none
  | _, _ => none

def intBin (op : BinOp) (k : IntKind) (a c : Int) (K : AVal → Option α) : Option α :=
  match op with
  | .add => K (.i k (k.wrap (a + c)))
  | .sub => K (.i k (k.wrap (a - c)))
  | .mul => K (.i k (k.wrap (a * c)))
  | .quo => bif c == 0 then none else K (.i k (k.wrap (a.tdiv c)))
  | .rem => bif c == 0 then none else K (.i k (a.tmod c))
  | .eql => K (.b (a == c))
  | .neq => K (.b (a != c))
  | .lss => K (.b (decide (a < c)))
  | .leq => K (.b (decide (a ≤ c)))
  | .gtr => K (.b (decide (a > c)))
  | .geq => K (.b (decide (a ≥ c)))
  | .and => K (.i k (bits .and k a c))
  | .or => K (.i k (bits .or k a c))
  | .xor => K (.i k (bits .xor k a c))
  | .andNot => K (.i k (bits .andNot k a c))
  | .shl => bif decide (c < 0) then none else K (.i k (k.wrap (a * 2 ^ (min c.toNat k.bits))))
  | .shr => bif decide (c < 0) then none else K (.i k (a.fdiv (2 ^ (min c.toNat k.bits))))

def strBin (op : BinOp) (a c : ByteArray) (K : AVal → Option α) : Option α :=
  match op with
  | .eql => K (.b (a.toList == c.toList))
  | .neq => K (.b (!(a.toList == c.toList)))
  | .lss => K (.b (Op.bytesLess a.toList c.toList))
  | .leq => K (.b (Op.bytesLess a.toList c.toList || a.toList == c.toList))
  | .gtr => K (.b (!(Op.bytesLess a.toList c.toList || a.toList == c.toList)))
  | .geq => K (.b (!(Op.bytesLess a.toList c.toList)))
  | .add => bif decide (a.size + c.size ≤ 140737488355328) then K (.s (a ++ c)) else none
  | _ => none

def isSl : Option Ty → Bool
  | some (.sl _) => true
  | _ => false

/-- Is the slice nil? -/
def nilB : Tag → Option Bool
  | .nl => some true
  | .nn => some false
  | .no => none
  | .full => none
  | .own _ => none

def bin (C : Cfg) (op : BinOp) (T : Nat) (x y : AVal) (K : AVal → Option α) : Option α :=
  match x, y with
  | .i j a, .i k c => match op with
    | .shl => intBin .shl j a c K
    | .shr => intBin .shr j a c K
    | _ => match decEq j k with | .isTrue _ => intBin op j a c K | .isFalse _ => none
  | .s a, .s c => strBin op a c K
  | .b a, .b c => match look C.tab T, op with
    | some .bool, .eql => K (.b (a == c))
    | some .bool, .neq => K (.b (!(a == c)))
    | _, _ => none
  | .pr a r, .pr c q => match look C.tab T with
    | some t => match hasTy t (.pr a r), hasTy t (.pr c q) with
      | true, true => match op, eqA (.pr a r) (.pr c q) with
        | .eql, some z => K (.b z)
        | .neq, some z => K (.b (!z))
        | _, _ => none
      | _, _ => none
    | none => none
  | .sl u xs g, .nls => match isSl (look C.tab T), nilB g with
    | true, some y => match op with
      | .eql => K (.b y)
      | .neq => K (.b (!y))
      | _ => none
    | _, _ => none
  | _, _ => none

/-- The state behind an operation, and its footprint (what it reads, what it writes); 'none': it may look at everything. -/
abbrev Foot := Option (List Nat × (List Nat × List Nat))   -- what is read, what is written, which boxes' names are of no use any more

def coerce : Ty → AVal → AVal
  | .sl t, .nls => .sl t [] .full
  | _, x => x

def typedAt (C : Cfg) (T : Nat) (v : AVal) : AVal := match look C.tab T with | some t => coerce t v | none => v

def setD (ρ : St) (t : Nat) (v : AVal) (rd : List Nat) (K : St → Foot → Option α) : Option α := K (put (tr t) v ρ) (some (rd, [tr t], []))

def buildParts (C : Cfg) (ρ : St) (t : Ty) : List (Nat × Operand) → AVal → Option AVal
  | [], acc => some acc
  | (i, x) :: l, acc => match opnd C ρ x, fieldOf t i with
    | some v, some (_, u) => match hasTy u (coerce u v) with
      | true => match setNthA acc i (coerce u v) with | some acc' => buildParts C ρ t l acc' | none => none
      | false => none
    | _, _ => none

/-- The elements of a slice literal, none left out. -/
def sliceParts (C : Cfg) (ρ : St) (t : Ty) : Nat → List (Nat × Operand) → Option (List t.den)
  | _, [] => some []
  | n, (i, x) :: l => match Nat.beq i n with
    | true => match opnd C ρ x with
      | some v => match dec t (coerce t v) with
        | some d => match sliceParts C ρ t (n + 1) l with | some r => some (d :: r) | none => none
        | none => none
      | none => none
    | false => none

def rdParts : List (Nat × Operand) → List Nat
  | [] => []
  | (_, x) :: l => rdOf x ++ rdParts l

def rdAll : List Operand → List Nat
  | [] => []
  | x :: l => rdOf x ++ rdAll l

/-- What is handed in, as plain data. -/
def callArgs (C : Cfg) (ρ : St) : (t : Ty) → List Operand → Option t.den
  | .un, [] => some ()
  | .pr a b, x :: l => match opnd C ρ x with
    | some v => match dec a v with
      | some u => match callArgs C ρ b l with | some r => some (u, r) | none => none
      | none => none
    | none => none
  | _, _ => none

def resOne : (t : Ty) → t.den → AVal
  | .pr a .un, y => enc a y.1
  | _, _ => .nd

def resA (S : Spec) (y : S.tr.den) : AVal := match S.multi with | true => .tu (enc S.tr y) | false => resOne S.tr y

def sub {β : Type} (xs : List β) (l h : Int) : List β := (xs.take h.toNat).drop l.toNat

def evCall (C : Cfg) (ρ : St) (d : Nat) (ty : Nat) (c : Call) (K : St → Foot → Option α) : Option α :=
  match c.callee with
  | .value (.func f) => match look C.clones f with
   | some te => match c.args.toList with
    | [x] => match opnd C ρ x, get ρ (br d) with
      | some v, none => match dec (.sl te.1) v with
        | some xs => bif decide (xs.length * te.2 ≤ 140737488351232) then
            K (put (tr d) (.os d xs.length) (put (br d) (.ar te.1 xs) ρ)) (some (br d :: rdOf x, [br d, tr d], []))
          else none
        | none => none
      | _, _ => none
    | _ => none
   | none => match look C.specs f with
    | some S => match callArgs C ρ S.ta c.args.toList with
      | some x => bif S.pre x then setD ρ d (resA S (S.val x)) (rdAll c.args.toList) K else none
      | none => none
    | none => none
  | .builtin .len => match c.args.toList, c.argTypes.toList with
    | [x], [T] => match look C.tab T, opnd C ρ x with
      | some (.sl _), some (.sl _ xs _) => setD ρ d (.i .i64 (xs.length : Int)) (rdOf x) K
      | some (.sl _), some .nls => setD ρ d (.i .i64 0) (rdOf x) K
      | some .str, some (.s s) => setD ρ d (.i .i64 (s.size : Int)) (rdOf x) K
      | some (.sl _), some (.os _ n) => setD ρ d (.i .i64 (n : Int)) (rdOf x) K
      | _, _ => none
    | _, _ => none
  | .builtin .min => match c.args.toList with
    | [x, y] => match opnd C ρ x, opnd C ρ y with
      | some (.i k a), some (.i j b) => setD ρ d (.i k (if b < a then b else a)) (rdOf x ++ rdOf y) K
      | _, _ => none
    | _ => none
  | .builtin .max => match c.args.toList with
    | [x, y] => match opnd C ρ x, opnd C ρ y with
      | some (.i k a), some (.i j b) => setD ρ d (.i k (if b > a then b else a)) (rdOf x ++ rdOf y) K
      | _, _ => none
    | _ => none
  | .builtin .append => match c.args.toList, c.argTypes.toList with
    | [x, y], [T, U] => match Nat.beq T U, look C.tab T, look C.eb T with
      | true, some (.sl t), some eb => match opnd C ρ x, opnd C ρ y with
        | some vx, some vy => match coerce (.sl t) vx, dec (.sl t) vy with
          | .os k n, some ys => match get ρ (br k), Nat.ble 1 t.size && (Nat.ble 1 eb && Nat.blt k C.nt) with
            | some (.ar u xs), true => match decEq u t with
              | .isTrue h => bif decide (n = xs.length) && decide ((xs.length + ys.length) * eb ≤ 140737488351232) then
                  K (put (tr d) (.os k (xs.length + ys.length)) (put (br k) (.ar t ((h ▸ xs) ++ ys)) (killAll k ρ))) (some (br k :: (rdOf x ++ rdOf y), [br k, tr d], [k]))
                else none
              | .isFalse _ => none
            | _, _ => none
          | .sl u xs g, some ys => match decEq u t, Nat.ble 1 t.size && Nat.ble 1 eb with
            | .isTrue h, true => bif decide ((xs.length + ys.length) * eb ≤ 140737488351232) then
                match g with
                | .no => none
                | .nl => none
                | .nn => none
                | .full => K (put (tr d) (.sl t ((h ▸ xs) ++ ys) (.own d)) (stripAll d ρ)) none
                | .own e => K (put (tr d) (.sl t ((h ▸ xs) ++ ys) (.own e)) (stripAll e ρ)) none
              else none
            | _, _ => none
          | _, _ => none
        | _, _ => none
      | _, _, _ => none
    | _, _ => none
  | _ => none

/-! ### Calls by an 'XSpec' -/
def leafs : AVal → Bool
  | .un => true
  | .pr a b => match leaf a with | true => leafs b | false => false
  | _ => false

/-- The same value, its boxes called otherwise. -/
def renA (m : List (Nat × Nat)) : AVal → AVal
  | .bx j o => match look m j with | some k => .bx k o | none => .junk
  | .bi j i o => match look m j with | some k => .bi k i o | none => .junk
  | .os j n => match look m j with | some k => .os k n | none => .junk
  | .sl t xs (.own _) => .sl t xs .no
  | .pr a b => .pr (renA m a) (renA m b)
  | .tu a => .tu (renA m a)
  | .cl f a b => .cl f (renA m a) (renA m b)
  | x => x

def appA : AVal → AVal → AVal
  | .pr x r, b => .pr x (appA r b)
  | _, b => b

def tupSt : Nat → AVal → St
  | n, .pr x r => (tr n, x) :: tupSt (n + 1) r
  | _, _ => []

def boxSt (m : List (Nat × Nat)) (ρ : St) : List (Nat × Nat) → Option St
  | [] => some []
  | (j, k) :: l => match get ρ (br j) with
    | some A => match boxSt m ρ l with | some r => some ((br k, renA m A) :: r) | none => none
    | none => none

def swapL : List (Nat × Nat) → List (Nat × Nat)
  | [] => []
  | (a, b) :: l => (b, a) :: swapL l

def fsts : List (Nat × Nat) → List Nat
  | [] => []
  | (a, _) :: l => a :: fsts l

def nodupN : List Nat → Bool
  | [] => true
  | a :: l => match mem a l with | true => false | false => nodupN l

/-- Each one once, here and there. -/
def oneOne (l : List (Nat × Nat)) : Bool := match nodupN (fsts l) with | true => nodupN (fsts (swapL l)) | false => false

/-- Those that stay, and those that don't. -/
def stays (pins : List Nat) : List (Nat × Nat) → List (Nat × Nat)
  | [] => []
  | (j, k) :: l => match mem k pins with | true => (j, k) :: stays pins l | false => stays pins l
def goes (pins : List Nat) : List (Nat × Nat) → List Nat
  | [] => []
  | (j, k) :: l => match mem k pins with | true => goes pins l | false => j :: goes pins l

def oneVal : AVal → Bool
  | .tu _ => false
  | .nd => false
  | _ => true

def resChain (σ : St) : Nat → Nat → Option AVal
  | _, 0 => some .un
  | i, n + 1 => match get σ (tr i) with
    | some A => match oneVal A, resChain σ (i + 1) n with | true, some r => some (.pr A r) | _, _ => none
    | none => none

/-- The boxes behind the call, laid into the state. -/
def outSt (b : List (Nat × Nat)) (σ : St) : List (Nat × Nat) → St → Option St
  | [], ρ => some ρ
  | (k, j) :: l, ρ => match get σ (br k) with
    | some A => outSt b σ l (put (br j) (renA b A) ρ)
    | none => none

def brs : List Nat → List Nat
  | [] => []
  | j :: l => br j :: brs l

def fresh (nt : Nat) (ρ : St) : List Nat → Bool
  | [] => true
  | j :: l => match get ρ (br j), Nat.blt j nt with | none, true => fresh nt ρ l | _, _ => false

def allLt (nt : Nat) : List Nat → Bool
  | [] => true
  | j :: l => match Nat.blt j nt with | true => allLt nt l | false => false

def delA (q : Nat) : St → St
  | [] => []
  | (r, v) :: l => match Nat.beq r q with | true => delA q l | false => (r, v) :: delA q l

def consume : List Nat → St → St
  | [], ρ => ρ
  | j :: l, ρ => consume l (delA (br j) (killAll j ρ))

def calleeOf : AVal → Option (Nat × (AVal × AVal))
  | .fn f => some (f, (.un, .un))
  | .cl f a b => match leafs a, leafs b with | true, true => some (f, (a, b)) | _, _ => none
  | _ => none

def lenA : AVal → Nat
  | .pr _ r => lenA r + 1
  | _ => 0

def allGe (n : Nat) : List Nat → Bool
  | [] => true
  | k :: l => match Nat.ble n k with | true => allGe n l | false => false

def resX (X : XSpec) : AVal → Option AVal
  | .pr A .un => match X.multi with | false => some A | true => none
  | .pr A (.pr B r) => match X.multi with | true => some (.tu (.pr A (.pr B r))) | false => none
  | .un => match X.multi with | true => some (.tu .un) | false => none
  | _ => none

/-- What is handed in, as the callee's state. -/
def xin (C : Cfg) (ρ : St) (xc : XCall) (g : Operand) (l : List Operand) : Option (HS.den xc.X.hin) :=
  match opnd C ρ g, args C ρ l, boxSt xc.ins ρ xc.ins with
  | some F, some ar, some bs => match calleeOf F with
    | some (f, a, b) => match Nat.beq f xc.f, Nat.beq (lenA (appA a (appA ar b))) xc.X.np && allGe xc.X.np xc.X.pins with
      | true, true => adapt xc.X.hin (tupSt 0 (renA xc.ins (appA a (appA ar b))) ++ bs)
      | _, _ => none
    | none => none
  | _, _, _ => none

/-- Is the call's table in order? -/
def xok (C : Cfg) (ρ : St) (xc : XCall) : Bool :=
  match oneOne xc.ins, oneOne (swapL (stays xc.X.pins xc.ins) ++ xc.news) with
  | true, true => match fresh C.nt ρ (fsts (swapL xc.news)) with | true => allLt C.nt (goes xc.X.pins xc.ins) | false => false
  | _, _ => false

/-- The state behind the call. -/
def xout (ρ : St) (d : Nat) (xc : XCall) (σ : St) : Option St :=
  match resChain σ 0 xc.X.nr with
  | some ch => match resX xc.X (renA (swapL (stays xc.X.pins xc.ins) ++ xc.news) ch) with
    | some A => match outSt (swapL (stays xc.X.pins xc.ins) ++ xc.news) σ (swapL (stays xc.X.pins xc.ins) ++ xc.news) (consume (goes xc.X.pins xc.ins) ρ) with
      | some ρ' => some (put (tr d) A ρ')
      | none => none
    | none => none
  | none => none

def xfoot (d : Nat) (xc : XCall) (g : Operand) (l : List Operand) : Foot :=
  some (brs (fsts (swapL xc.news)) ++ (brs (fsts xc.ins) ++ (rdOf g ++ rdAll l)), tr d :: (brs (goes xc.X.pins xc.ins) ++ brs (fsts (swapL (swapL (stays xc.X.pins xc.ins) ++ xc.news)))), goes xc.X.pins xc.ins)

/-- The function that is called. -/
def calleeAt (C : Cfg) (ρ : St) (c : Call) : Option Nat := match c.callee with
  | .value g => match opnd C ρ g with
    | some F => match calleeOf F with
      | some (f, _) => some f
      | none => none
    | none => none
  | _ => none

/-- The contract at a slot, for a function. -/
def pickX (d f : Nat) : List (Nat × XCall) → Option XCall
  | [] => none
  | (e, xc) :: l => match Nat.beq e d, Nat.beq xc.f f with | true, true => some xc | _, _ => pickX d f l

def evX (C : Cfg) (ρ : St) (d : Nat) (xc : XCall) (c : Call) (K : St → Foot → Option α) : Option α :=
  match c.callee with
  | .value g => match xok C ρ xc, xin C ρ xc g c.args.toList with
    | true, some v => bif xc.X.pre v then
        match xout ρ d xc (encH xc.X.hout (xc.X.val v)) with
        | some ρ' => K ρ' (xfoot d xc g c.args.toList)
        | none => none
      else none
    | _, _ => none
  | _ => none

def opt (C : Cfg) (ρ : St) (n : Int) : Option Operand → Option AVal
  | none => some (.i .i64 n)
  | some x => opnd C ρ x

def evOp (C : Cfg) (ρ : St) (o : Oper) (K : St → Foot → Option α) : Option α :=
  match o.op, o.dst with
  | .move x, some d => match opnd C ρ x with | some v => setD ρ d (typedAt C o.type v) (rdOf x) K | none => none
  | .assign x, some d => match opnd C ρ x with | some v => setD ρ d (typedAt C o.type v) (rdOf x) K | none => none
  | .pick c a b, some d => match opnd C ρ c with
    | some (.b x) => bif x then (match opnd C ρ a with | some v => setD ρ d v (rdOf c ++ rdOf a ++ rdOf b) K | none => none)
        else (match opnd C ρ b with | some v => setD ρ d v (rdOf c ++ rdOf a ++ rdOf b) K | none => none)
    | _ => none
  | .alloc T, some d => match look C.tab T, get ρ (br d) with
    | some t, none => K (put (tr d) (.bx d 0) (put (br d) (flat (zeroA t) .un) ρ)) (some ([br d], [br d, tr d], []))
    | _, _ => none
  | .box T x, some d => match look C.tab T, get ρ (br d), opnd C ρ x with
    | some t, none, some v => match hasTy t (coerce t v) with
      | true => K (put (tr d) (.bx d 0) (put (br d) (flat (coerce t v) .un) ρ)) (some (br d :: rdOf x, [br d, tr d], []))
      | false => none
    | _, _, _ => none
  | .build T parts, some d => match look C.tab T with
    | some t => match t.isAgg with
      | true => match buildParts C ρ t parts.toList (zeroA t) with
        | some v => setD ρ d v (rdParts parts.toList) K
        | none => none
      | false => none
    | none => none
  | .buildSlice T len parts, some d => match look C.tab T with
    | some (.sl t) => match sliceParts C ρ t 0 parts.toList with
      | some xs => match Nat.beq parts.toList.length len, Nat.ble (len * t.size) 16777216, Nat.ble 1 t.size with
        | true, true, true => match mem d C.own with
          | false => setD ρ d (.sl t xs .full) (rdParts parts.toList) K
          | true => match get ρ (br d) with
            | none => K (put (tr d) (.os d xs.length) (put (br d) (.ar t xs) ρ)) (some (br d :: rdParts parts.toList, [br d, tr d], []))
            | some _ => none
        | _, _, _ => none
      | none => none
    | _ => none
  | .load T x, some d => match look C.tab T, opnd C ρ x with
    | some t, some (.pt u v) => match decEq u t with | .isTrue _ => setD ρ d (enc u v) (rdOf x) K | .isFalse _ => none
    | some t, some (.bx k off) => match get ρ (br k) with
      | some c => match dropA off c with
        | some c1 => match unflat t c1 with
          | some (v, _) => setD ρ d v (br k :: rdOf x) K
          | none => none
        | none => none
      | none => none
    | some t, some (.bi k i off) => match get ρ (br k) with
      | some (.ar u xs) => bif decide (i < xs.length) then
          match dropA off (flat (enc u (xs.getD i (zeroD u))) .un) with
          | some c1 => match unflat t c1 with
            | some (v, _) => setD ρ d v (br k :: rdOf x) K
            | none => none
          | none => none
        else none
      | _ => none
    | _, _ => none
  | .store T x y, none => match look C.tab T, opnd C ρ x, opnd C ρ y with
    | some t, some (.bx k off), some v => match hasTy t (coerce t v), get ρ (br k) with
      | true, some c => match overAt off (flat (coerce t v) .un) c with
        | some c' => K (put (br k) c' ρ) (some (br k :: (rdOf x ++ rdOf y), [br k], []))
        | none => none
      | _, _ => none
    | some t, some (.bi k i off), some v => match hasTy t (coerce t v), get ρ (br k) with
      | true, some (.ar u xs) => bif decide (i < xs.length) then
          match overAt off (flat (coerce t v) .un) (flat (enc u (xs.getD i (zeroD u))) .un) with
          | some c1 => match unflat u c1 with
            | some (e, .un) => match dec u e with
              | some z => K (put (br k) (.ar u (xs.set i z)) ρ) (some (br k :: (rdOf x ++ rdOf y), [br k], []))
              | none => none
            | _ => none
          | none => none
        else none
      | _, _ => none
    | _, _, _ => none
  | .nilCheck x, some d => match opnd C ρ x with
    | some (.pt u v) => setD ρ d (.pt u v) (rdOf x) K
    | some (.bx k off) => setD ρ d (.bx k off) (rdOf x) K
    | some (.bi k i off) => setD ρ d (.bi k i off) (rdOf x) K
    | _ => none
  | .binOp op T x y _, some d => match opnd C ρ x, opnd C ρ y with
    | some a, some b => bin C op T a b fun v => setD ρ d v (rdOf x ++ rdOf y) K
    | _, _ => none
  | .unOp .not _ x, some d => match opnd C ρ x with | some (.b a) => setD ρ d (.b (!a)) (rdOf x) K | _ => none
  | .unOp .neg _ x, some d => match opnd C ρ x with | some (.i k a) => setD ρ d (.i k (k.wrap (0 - a))) (rdOf x) K | _ => none
  | .convert S T x, some d => match look C.tab S, look C.tab T, opnd C ρ x with
    | some _, some (.int k), some (.i _ a) => setD ρ d (.i k (k.wrap a)) (rdOf x) K
    | _, _, _ => none
  | .makeSlice T n m, some d => match look C.tab T, look C.eb T, opnd C ρ n, opnd C ρ m, get ρ (br d) with
    | some (.sl t), some eb, some (.i .i64 a), some (.i .i64 b), none => match Nat.ble 1 t.size && Nat.ble 1 eb with
      | true => bif decide (0 ≤ a) && (decide (a * eb ≤ 140737488351232) && a == b) then
          K (put (tr d) (.os d a.toNat) (put (br d) (.ar t (List.replicate a.toNat (zeroD t))) ρ)) (some (br d :: (rdOf n ++ rdOf m), [br d, tr d], []))
        else none
      | false => none
    | _, _, _, _, _ => none
  | .slice T x lo hi mx, some d => match look C.tab T, opnd C ρ x with
    | some (.sl u), some (.sl t xs g) => match decEq t u, opt C ρ 0 lo, opt C ρ (xs.length : Int) hi with
      | .isTrue _, some (.i _ l), some (.i _ h) => bif decide (0 ≤ l) && (decide (l ≤ h) && decide (h ≤ (xs.length : Int))) then
          match mx with
          | none => setD ρ d (.sl t (sub xs l h) .no) (rdOf x ++ rdAll (lo.toList ++ hi.toList)) K
          | some m => match hi, opnd C ρ m with
            | some _, some (.i _ q) => bif q == h then setD ρ d (.sl t (sub xs l h) .full) (rdOf x ++ rdAll (lo.toList ++ (hi.toList ++ [m]))) K else none
            | _, _ => none
        else none
      | _, _, _ => none
    | some .str, some (.s s) => match mx, opt C ρ 0 lo, opt C ρ (s.size : Int) hi with
      | none, some (.i _ l), some (.i _ h) => bif decide (0 ≤ l) && (decide (l ≤ h) && decide (h ≤ (s.size : Int))) then
          setD ρ d (.s (s.extract l.toNat h.toNat)) (rdOf x ++ rdAll (lo.toList ++ hi.toList)) K
        else none
      | _, _, _ => none
    | none, some (.pt u v) => match look C.arrs T, lo, hi, mx with
      | some (t, n), none, none, none => match decEq u (arrTy t n) with
        | .isTrue h => setD ρ d (.sl t (arrL t n (h ▸ v)) .no) (rdOf x) K
        | .isFalse _ => none
      | _, _, _, _ => none
    | _, _ => none
  | .fieldAddr S x f, some d => match look C.tab S, opnd C ρ x with
    | some t, some (.pt u v) => match decEq u t with
      | .isTrue _ => match ptField u v f with | some p => setD ρ d p (rdOf x) K | none => none
      | .isFalse _ => none
    | some t, some (.bx k off) => match fieldOf t f with | some (o', _) => setD ρ d (.bx k (off + o')) (rdOf x) K | none => none
    | some t, some (.bi k i off) => match fieldOf t f with | some (o', _) => setD ρ d (.bi k i (off + o')) (rdOf x) K | none => none
    | _, _ => none
  | .field S x f, some d => match look C.tab S, opnd C ρ x with
    | some t, some v => match hasTy t v with
      | true => match nthA v f with | some z => setD ρ d z (rdOf x) K | none => none
      | false => none
    | _, _ => none
  | .indexAddr S x i, some d => match look C.tab S, opnd C ρ x, opnd C ρ i with
    | some (.sl u), some (.sl t xs _), some (.i _ n) => match decEq t u with
      | .isTrue _ => match Nat.ble 1 t.size with
        | true => bif decide (0 ≤ n) && decide (n < (xs.length : Int)) then setD ρ d (.pt t (xs.getD n.toNat (zeroD t))) (rdOf x ++ rdOf i) K else none
        | false => none
      | .isFalse _ => none
    | some (.sl u), some (.os k m), some (.i _ n) => match get ρ (br k) with
      | some (.ar t _) => match decEq t u with
        | .isTrue _ => bif decide (0 ≤ n) && decide (n < (m : Int)) then setD ρ d (.bi k n.toNat 0) (br k :: (rdOf x ++ rdOf i)) K else none
        | .isFalse _ => none
      | _ => none
    | none, some (.pt u v), some (.i _ k) => match look C.arrs S with
      | some (t, n) => match decEq u (arrTy t n) with
        | .isTrue h => bif decide (0 ≤ k) && decide (k < (n : Int)) then setD ρ d (.pt t ((arrL t n (h ▸ v)).getD k.toNat (zeroD t))) (rdOf x ++ rdOf i) K else none
        | .isFalse _ => none
      | none => none
    | _, _, _ => none
  | .index T x i, some d => match look C.tab T, opnd C ρ x, opnd C ρ i with
    | some .str, some (.s s), some (.i _ n) => bif decide (0 ≤ n) && decide (n < (s.size : Int)) then
        setD ρ d (.i .u8 (((s.data.toList.getD n.toNat 0).toNat : Nat) : Int)) (rdOf x ++ rdOf i) K else none
    | _, _, _ => none
  | .extract x n, some d => match opnd C ρ x with
    | some (.tu a) => match nthA a n with | some z => setD ρ d z (rdOf x) K | none => none
    | _ => none
  | .call c, some d => match look C.calls d with
    | some _ => match calleeAt C ρ c with
      | some f => match pickX d f C.calls with
        | some xc => evX C ρ d xc c K
        | none => none
      | none => none
    | none => evCall C ρ d o.type c K
  | .makeFunc (.func f) fs cs, some d => match args C ρ fs.toList, args C ρ cs.toList with
    | some a, some b => match leafs a, leafs b with
      | true, true => setD ρ d (.cl f a b) (rdAll fs.toList ++ rdAll cs.toList) K
      | _, _ => none
    | _, _ => none
  | _, _ => none

def addRd (g : Nat) : Foot → Foot
  | some (r, q) => some (tr g :: r, q)
  | none => none

/-- Which boxes a value names; is nothing of it of no use? -/
def menA : AVal → List Nat
  | .bx j _ => [j]
  | .bi j _ _ => [j]
  | .os j _ => [j]
  | .pr a b => menA a ++ menA b
  | .tu a => menA a
  | .cl _ a b => menA a ++ menA b
  | _ => []
def jfA : AVal → Bool
  | .junk => false
  | .pr a b => match jfA a with | true => jfA b | false => false
  | .tu a => jfA a
  | .cl _ a b => match jfA a with | true => jfA b | false => false
  | _ => true
def menR (ρ : St) : List Nat → List Nat
  | [] => []
  | r :: l => match get ρ r with | some A => menA A ++ menR ρ l | none => menR ρ l
def jfR (ρ : St) : List Nat → Bool
  | [] => true
  | r :: l => match get ρ r with
    | some A => match jfA A with | true => jfR ρ l | false => false
    | none => jfR ρ l
/-- A footprint; is nothing that was read of no use; which boxes are named by what was read and written. -/
abbrev FootM := Foot × (Bool × List Nat)
def footM (ρ ρ' : St) : Foot → FootM
  | some (r, q, kl) => (some (r, q, kl), jfR ρ r, menR ρ r ++ menR ρ' q)
  | none => (none, false, [])

def dstOk (C : Cfg) (o : Oper) : Bool := match o.dst with | some d => Nat.blt d C.nt | none => true

/-- The operations of a region, in their order; what each one read and wrote is kept. -/
def evOps (C : Cfg) (ops : List Oper) : List Oper → St → List FootM → (St → List FootM → Option α) → Option α
  | [], ρ, F, K => K ρ F
  | o :: l, ρ, F, K => match dstOk C o, o.guard with
    | false, _ => none
    | true, none => evOp C ρ o fun ρ' f => evOps C ops l ρ' (footM ρ ρ' f :: F) K
    | true, some (j, w) => match (ops[j]?).bind (·.dst), o.dst with
      | some g, some d => match get ρ (tr g) with
        | some (.b x) => bif x then
            match w with
            | true => evOp C (put (tr g) (.b true) ρ) o fun ρ' f => evOps C ops l ρ' (footM ρ ρ' (addRd g f) :: F) K
            | false => evOps C ops l (put (tr d) .nd (put (tr g) (.b true) ρ)) (footM ρ (put (tr d) .nd (put (tr g) (.b true) ρ)) (some ([tr g], [tr d], [])) :: F) K
          else
            match w with
            | false => evOp C (put (tr g) (.b false) ρ) o fun ρ' f => evOps C ops l ρ' (footM ρ ρ' (addRd g f) :: F) K
            | true => evOps C ops l (put (tr d) .nd (put (tr g) (.b false) ρ)) (footM ρ (put (tr d) .nd (put (tr g) (.b false) ρ)) (some ([tr g], [tr d], [])) :: F) K
        | some .nd => evOps C ops l (put (tr d) .nd ρ) (footM ρ (put (tr d) .nd ρ) (some ([tr g], [tr d], [])) :: F) K
        | _ => none
      | _, _ => none

def meets : List Nat → List Nat → Bool
  | [], _ => false
  | r :: l, q => match mem r q with | true => true | false => meets l q

/-- The first one, then the second one: may they not change places? -/
def clashK (kl kl' : List Nat) (m : List Nat) (j' : Bool) (m' : List Nat) : Bool := match kl, kl' with
  | [], [] => false
  | [], _ :: _ => meets kl' m
  | _ :: _, [] => match j' with | true => meets kl m' | false => true
  | _ :: _, _ :: _ => true

def clash : FootM → FootM → Bool
  | (some (r, q, kl), _, m), (some (r', q', kl'), j', m') => match meets q r' with
    | true => true
    | false => match meets q q' with
      | true => true
      | false => match meets r q' with | true => true | false => clashK kl kl' m j' m'
  | _, _ => true

def ordered1 (m : Nat) : Nat → FootM → List FootM → Bool      -- m: what waits ahead of this one, the others from place i on
  | _, _, [] => true
  | i, f, g :: l => match clash g f with
    | true => match m.testBit i with | true => ordered1 m (i + 1) f l | false => false
    | false => ordered1 m (i + 1) f l

/-- Whatever two operations meet in, the order of theirs is fixed. 'F': in their order; 'ms': the masks. -/
def orderedAll (F : List FootM) : List FootM → List Nat → Nat → Bool
  | [], _, _ => true
  | _ :: _, [], _ => false
  | f :: l, m :: ms, n => match ordered1 m 0 f (F.take n) with | true => orderedAll F l ms (n + 1) | false => false

def maskOf (acc : List Nat) : List Edge → Nat
  | [] => 0
  | e :: l => match Region.binds .any e with
    | true => 2 ^ e.on ||| (acc.getD e.on 0 ||| maskOf acc l)
    | false => maskOf acc l

/-- What waits ahead of each one. -/
def masks : List Oper → List Nat → List Nat
  | [], acc => acc
  | o :: l, acc => masks l (acc ++ [maskOf acc o.after.toList])

def backE (n : Nat) : List Edge → Bool
  | [] => true
  | e :: l => match Region.binds .any e, Nat.blt e.on n with
    | true, false => false
    | _, _ => backE n l

/-- Each one waits for earlier ones alone. -/
def backOk : List Oper → Nat → Bool
  | [], _ => true
  | o :: l, n => match backE n o.after.toList with | true => backOk l (n + 1) | false => false

def drawOk (ops : List Oper) (F : List FootM) : Bool := match backOk ops 0 with | true => orderedAll F F (masks ops []) 0 | false => false

inductive Ex where
  | normal | exit (id : Nat) | ret

def key : Code → Nat
  | .region id _ _ => id
  | .seq a _ => key a
  | .block _ b => key b
  | .loop b => key b
  | _ => 0

/-- Behind a round: the state is brought to the shape of the head, or of the way out. -/
def loopK (H : Head) (r : HS.den H.hd → Option α) (K : Ex → St → Option α) : Ex → St → Option α
  | .normal, ρ' => match adapt H.hd ρ' with | some v => r v | none => none
  | .exit id, ρ' => match look H.exits (id + 1) with
    | some hs => match adapt hs ρ' with | some v => K (.exit id) (encH hs v) | none => none
    | none => none
  | .ret, ρ' => match look H.exits 0 with
    | some hs => match adapt hs ρ' with | some v => K .ret (encH hs v) | none => none
    | none => none

/-- A loop, round by round. -/
def loopN (H : Head) (step : St → (Ex → St → Option α) → Option α) (K : Ex → St → Option α) : Nat → HS.den H.hd → Option α
  | 0, _ => none
  | n + 1, v => step (encH H.hd v) (loopK H (loopN H step K n) K)

/-- 'L': what loops come to, by their first regions. -/
abbrev Loops (α : Type) := Nat → St → (Ex → St → Option α) → Option α

def ev (C : Cfg) (L : Loops α) : Code → St → (Ex → St → Option α) → Option α
  | .skip, ρ, K => K .normal ρ
  | .region _ ops d, ρ, K => match focusOn C.keep ρ C.keep with
    | some ρ1 => evOps C ops.toList ops.toList ρ1 [] fun ρ' F => match d with
      | false => K .normal ρ'
      | true => match drawOk ops.toList F.reverse with | true => K .normal ρ' | false => none
    | none => none
  | .seq a b, ρ, K => ev C L a ρ fun e ρ' => match e with | .normal => ev C L b ρ' K | .exit id => K (.exit id) ρ' | .ret => K .ret ρ'
  | .cond (.tmp t) a b, ρ, K => match get ρ (tr t) with
    | some (.b x) => bif x then ev C L a ρ K else ev C L b ρ K
    | _ => none
  | .block id b, ρ, K => ev C L b ρ fun e ρ' => match e with
    | .normal => K .normal ρ'
    | .exit j => match Nat.beq j id with | true => K .normal ρ' | false => K (.exit j) ρ'
    | .ret => K .ret ρ'
  | .loop b, ρ, K => match look C.heads (key b) with
    | some H => match adapt H.hd ρ with | some v => L (key b) (encH H.hd v) K | none => none
    | none => none
  | .exit id, ρ, K => K (.exit id) ρ
  | .ret, ρ, K => K .ret ρ
  | _, _, _ => none

/-- What 'L' says of a loop is what the loop comes to. -/
def LoopOk (C : Cfg) (L : Loops α) (b : Code) : Prop := match look C.heads (key b) with
  | some H => ∀ (v : HS.den H.hd) (K : Ex → St → Option α) (z : α), L (key b) (encH H.hd v) K = some z → ∃ n, loopN H (fun ρ K => ev C L b ρ K) K n v = some z
  | none => True

def allLoops (p : Code → Prop) : Code → Prop
  | .seq a b => allLoops p a ∧ allLoops p b
  | .cond _ a b => allLoops p a ∧ allLoops p b
  | .block _ b => allLoops p b
  | .loop b => p b ∧ allLoops p b
  | _ => True

def loopsOk (C : Cfg) (L : Loops α) (fn : Func) : Prop := match fn.body with | some c => allLoops (LoopOk C L) c | none => True

theorem loopN_eq {H : Head} {step : St → (Ex → St → Option α) → Option α} {K : Ex → St → Option α} {W : Nat → HS.den H.hd → Option α}
    (h0 : ∀ v, W 0 v = none) (h1 : ∀ n v, step (encH H.hd v) (loopK H (W n) K) = W (n + 1) v) : ∀ n, loopN H step K n = W n
  | 0 => by funext v; exact (h0 v).symm
  | n + 1 => by
    funext v
    rw [← h1 n v, ← loopN_eq h0 h1 n]
    rfl

theorem loopOk_of {C : Cfg} {L : Loops α} {b : Code} (H : Head) (N : Nat) (W : (Ex → St → Option α) → Nat → HS.den H.hd → Option α)
    (hH : look C.heads (key b) = some H) (hL : ∀ K v, L (key b) (encH H.hd v) K = W K N v) (h0 : ∀ K v, W K 0 v = none)
    (h1 : ∀ K n v, ev C L b (encH H.hd v) (loopK H (W K n) K) = W K (n + 1) v) : LoopOk C L b := by
  unfold LoopOk
  rw [hH]
  intro v K z e
  exact ⟨N, by rw [loopN_eq (step := fun ρ K => ev C L b ρ K) (h0 K) (h1 K), ← hL, e]⟩

/-! ### A whole function -/
def params : (t : Ty) → t.den → Nat → St
  | .pr a b, x, n => (tr n, enc a x.1) :: params b x.2 (n + 1)
  | _, _, _ => []

def decP (t : Ty) (A : AVal) (K : t.den → Option α) : Option α := match dec t A with | some u => K u | none => none

/-- A value as plain data; owned slices are read. -/
def decK (ρ : St) : (t : Ty) → AVal → (t.den → Option α) → Option α
  | .pr a b, A, K => match A with
    | .pr x y => decK ρ a x fun u => decK ρ b y fun v => K (u, v)
    | _ => none
  | .sl t, A, K => match A with
    | .os k n => match get ρ (br k) with
      | some (.ar u xs) => (match decEq u t with
        | .isTrue h => bif decide (n = xs.length) then K (h ▸ xs) else none
        | .isFalse _ => none)
      | _ => none
    | A => decP (.sl t) A K
  | t, A, K => decP t A K

def outs (C : Cfg) (ρ : St) : (t : Ty) → List ResultVar → (t.den → Option α) → Option α
  | .un, [], K => K ()
  | .pr a b, .tmp t :: l, K => match get ρ (tr t) with
    | some v => decK ρ a v fun u => outs C ρ b l fun r => K (u, r)
    | none => none
  | .pr a b, .cell p T :: l, K => match look C.tab T, get ρ (tr p) with
    | some t, some (.bx k 0) => match decEq t a, get ρ (br k) with
      | .isTrue _, some c => match unflat a c with
        | some (v, .un) => decK ρ a v fun u => outs C ρ b l fun r => K (u, r)
        | _ => none
      | _, _ => none
    | _, _ => none
  | _, _, _ => none

def runF (C : Cfg) (S : Spec) (L : Loops S.tr.den) (fn : Func) (ρ : St) : Option S.tr.den :=
  match fn.body with
  | some c => ev C L c ρ fun e ρ => match e with | .exit _ => none | _ => outs C ρ S.tr fn.results.toList some
  | none => none

def run (C : Cfg) (S : Spec) (L : Loops S.tr.den) (fn : Func) (x : S.ta.den) : Option S.tr.den := runF C S L fn (params S.ta x 0)

/-- The same, the first one's being nil known. -/
def params0 (g : Tag) : (t : Ty) → t.den → St
  | .pr (.sl u) b, x => (0, .sl u x.1 g) :: params b x.2 1
  | _, _ => []

/-! ### Functions with an 'XSpec' -/
def outsX (C : Cfg) (ρ : St) : List ResultVar → Option AVal
  | [] => some .un
  | .tmp t :: l => match get ρ (tr t) with
    | some v => match outsX C ρ l with | some r => some (.pr v r) | none => none
    | none => none
  | .cell p T :: l => match look C.tab T, get ρ (tr p) with
    | some t, some (.bx k 0) => match get ρ (br k) with
      | some c => match unflat t c with
        | some (v, .un) => match outsX C ρ l with | some r => some (.pr v r) | none => none
        | _ => none
      | none => none
    | _, _ => none

def idL : List Nat → List (Nat × Nat)
  | [] => []
  | k :: l => (k, k) :: idL l

def bind1 (j k : Nat) (m : List (Nat × Nat)) : List (Nat × Nat) := match mem j (fsts m), mem k (fsts (swapL m)) with | false, false => (j, k) :: m | _, _ => m

/-- Which boxes of the callee's are which of the contract's. -/
def bindS : Sh → AVal → List (Nat × Nat) → List (Nat × Nat)
  | .os k, .os j _, m => bind1 j k m
  | .bx k _, .bx j _, m => bind1 j k m
  | .pr p q, .pr a b, m => bindS q b (bindS p a m)
  | _, _, m => m

def bindR (hs : HS) : Nat → AVal → List (Nat × Nat) → List (Nat × Nat)
  | i, .pr A r, m => bindR hs (i + 1) r (match look hs (tr i) with | some s => bindS s A m | none => m)
  | _, _, m => m

/-- An empty slice without room is an owned one. -/
def fixR (hs : HS) : Nat → AVal → Option (AVal × List (Nat × Ty))
  | i, .pr A r => match fixR hs (i + 1) r with
    | some (r', es) => match look hs (tr i) with
      | some (.os k) => match A with
        | .sl t xs .full => match xs with
          | [] => some (.pr (.os k 0) r', (k, t) :: es)
          | _ :: _ => none
        | .nls => match look hs (br k) with
          | some (.ar t) => some (.pr (.os k 0) r', (k, t) :: es)
          | _ => none
        | A => some (.pr A r', es)
      | _ => some (.pr A r', es)
    | none => none
  | _, .un => some (.un, [])
  | _, _ => none

def emptySt : List (Nat × Ty) → St
  | [] => []
  | (k, t) :: l => (br k, .ar t []) :: emptySt l

def fstE : List (Nat × Ty) → List Nat
  | [] => []
  | (k, _) :: l => k :: fstE l

def offE (ks : List Nat) : List Nat → Bool
  | [] => true
  | k :: l => match mem k ks with | true => false | false => offE ks l

/-- Which owned slices are to come out as plain data. -/
def wantS : Sh → AVal → List Nat
  | .sl _ _, .os k _ => [k]
  | .pr p q, .pr a b => wantS p a ++ wantS q b
  | _, _ => []
def wantR (hs : HS) : Nat → AVal → List Nat
  | i, .pr A r => (match look hs (tr i) with | some s => wantS s A | none => []) ++ wantR hs (i + 1) r
  | _, _ => []

/-- An owned slice becomes plain data. -/
def frzOk (k len : Nat) : AVal → Bool
  | .os j n => match Nat.beq j k with | true => decide (n = len) | false => true
  | .pr a b => frzOk k len a && frzOk k len b
  | .tu _ => false
  | .cl _ _ _ => false
  | _ => true
def frzC {α : Type} (k len : Nat) : AVal → Option α → Option α
  | .os j n, K => match Nat.beq j k with | true => bif decide (n = len) then K else none | false => K
  | .pr a b, K => frzC k len a (frzC k len b K)
  | .tu _, _ => none
  | .cl _ _ _, _ => none
  | _, K => K
def frzA (k : Nat) (t : Ty) (xs : t.sl.den) : AVal → AVal
  | .bx j o => match Nat.beq j k with | true => .junk | false => .bx j o
  | .bi j i o => match Nat.beq j k with | true => .junk | false => .bi j i o
  | .os j n => match Nat.beq j k with | true => .sl t xs .no | false => .os j n
  | .pr a b => .pr (frzA k t xs a) (frzA k t xs b)
  | x => x
def frzL {α : Type} (pins : List Nat) : List Nat → St → AVal → (St → AVal → Option α) → Option α
  | [], ρ, ch, K => K ρ ch
  | k :: l, ρ, ch, K => match get ρ (br k), mem k pins with
    | some (.ar t xs), false => frzC k (List.length xs) ch (frzL pins l (consume [k] ρ) (frzA k t xs ch) K)
    | none, _ => frzL pins l ρ ch K
    | _, _ => none

def xleave0 (X : XSpec) (ρ : St) (ch : AVal) : Option (HS.den X.hout) := match oneOne (bindR X.hout 0 ch (idL X.pins)), boxSt (bindR X.hout 0 ch (idL X.pins)) ρ (bindR X.hout 0 ch (idL X.pins)) with
    | true, some bs => match fixR X.hout 0 (renA (bindR X.hout 0 ch (idL X.pins)) ch) with
      | some (ch', es) => match nodupN (fstE es), offE (fsts (swapL (bindR X.hout 0 ch (idL X.pins)))) (fstE es) with
        | true, true => adapt X.hout (tupSt 0 ch' ++ (emptySt es ++ bs))
        | _, _ => none
      | none => none
    | _, _ => none

def xleave (C : Cfg) (X : XSpec) (fn : Func) (ρ : St) : Option (HS.den X.hout) := match outsX C ρ fn.results.toList with
  | some ch => frzL X.pins (wantR X.hout 0 ch) ρ ch (fun ρ ch => xleave0 X ρ ch)
  | none => none

def runX (C : Cfg) (X : XSpec) (L : Loops (HS.den X.hout)) (fn : Func) (v : HS.den X.hin) : Option (HS.den X.hout) := match fn.body with
  | some c => ev C L c (encH X.hin v) fun e ρ => match e with | .exit _ => none | _ => xleave C X fn ρ
  | none => none

def run0 (g : Tag) (C : Cfg) (S : Spec) (L : Loops S.tr.den) (fn : Func) (x : S.ta.den) : Option S.tr.den := runF C S L fn (params0 g S.ta x)

end
end Go.Abs
