/- Slices of values, as a loop over an iterator reads them. Own text of this session. -/
import Derived.Test.YtallccfhkhonbaaDoorOrd
import Derived.Test.YtallccfhkhonbaaDoorAbs25
import Derived.RangeFuncFrom
import Derived.RangeFuncLeaves
import Derived.RangeFuncCalls
import Derived.RangeFuncNested
import Derived.Shelf.Abstract
import Derived.WalkKit
import Derived.OwnWalkIn
import Derived.TacticsInMore
import Derived.LoopNIn
import Derived.LoopIn
set_option linter.unusedVariables false
set_option linter.unusedSimpArgs false
namespace Go.Inc
open Go Go.Abs Go.RowKit

/-- A value in the machine. -/
abbrev aggV (v : Val) : Value := .agg #[.int .i64 v.1, .int .i64 v.2.1, .string v.2.2.1]

/-- A slice of values lies below n0. -/
def SlAt (n0 : Nat) (W : World) (sl : Value) (xs : List Val) : Prop := ∃ ad c, sl = .slice ad xs.length c ∧ ∀ i x, xs[i]? = some x → ∃ b off, ad = some ⟨b, off, none⟩ ∧ b < n0 ∧
  W.cell? ⟨b, off + i * 3, none⟩ = some (.int .i64 x.1) ∧ W.cell? ⟨b, off + i * 3 + 1, none⟩ = some (.int .i64 x.2.1) ∧ W.cell? ⟨b, off + i * 3 + 2, none⟩ = some (.string x.2.2.1)

theorem SlAt.below {n0 : Nat} {A B : World} {sl : Value} {xs : List Val} (h : Below n0 A B) (k : SlAt n0 A sl xs) : SlAt n0 B sl xs := by
  obtain ⟨ad, c, e, k⟩ := k
  refine ⟨ad, c, e, fun i x hx => ?_⟩
  obtain ⟨b, off, e1, e2, e3, e4, e5⟩ := k i x hx
  exact ⟨b, off, e1, e2, (h.cell (p := ⟨b, _, none⟩) e2).trans e3, (h.cell (p := ⟨b, _, none⟩) e2).trans e4, (h.cell (p := ⟨b, _, none⟩) e2).trans e5⟩

/-- The places of a list's keys, and the keys. -/
def kpairs : Nat → List Val → List (Nat × Val)
  | i, k :: _ :: r => (i, k) :: kpairs (i + 2) r
  | _, _ => []

abbrev encP (p : Nat × Val) : Array Value := #[.int .i64 (p.1 : Int), aggV p.2]

theorem kpairs_at {xs : List Val} {i : Nat} (h : i + 1 < xs.length) : ∃ k, xs[i]? = some k ∧ kpairs i (xs.drop i) = (i, k) :: kpairs (i + 2) (xs.drop (i + 2)) := by
  have h1 : xs.drop i = xs[i] :: xs.drop (i + 1) := List.drop_eq_getElem_cons (by omega)
  have h2 : xs.drop (i + 1) = xs[i + 1] :: xs.drop (i + 2) := List.drop_eq_getElem_cons h
  refine ⟨xs[i], List.getElem?_eq_getElem (by omega), ?_⟩
  rw [h1, h2]; rfl
theorem kpairs_end {xs : List Val} {i : Nat} (h : ¬ i + 1 < xs.length) : kpairs i (xs.drop i) = [] := by
  cases h1 : xs.drop i with
  | nil => rfl
  | cons a l =>
    cases l with
    | nil => rfl
    | cons b r =>
      have := congrArg List.length h1
      simp at this; omega

theorem kpairs_mem {xs : List Val} : ∀ (n i : Nat), xs.length ≤ i + n → ∀ p ∈ kpairs i (xs.drop i), p.1 + 1 < xs.length ∧ xs[p.1]? = some p.2
  | 0, i, h, p, hp => by rw [kpairs_end (by omega)] at hp; cases hp
  | n + 1, i, h, p, hp => by
    by_cases hl : i + 1 < xs.length
    · obtain ⟨k, e1, e2⟩ := kpairs_at hl
      rw [e2] at hp
      rcases List.mem_cons.1 hp with rfl | hp
      · exact ⟨hl, e1⟩
      · exact kpairs_mem n (i + 2) (by omega) p hp
    · rw [kpairs_end hl] at hp; cases hp
/-- What a pair gives to what is listed. -/
def scanO (fr to : Val) (xs : List Val) (p : Nat × Val) : List Val := bif !decide (cmpV p.2 fr < 0) && !decide (0 < cmpV p.2 to) then [p.2, xs.getD (p.1 + 1) p.2] else []
theorem scanO_len (fr to : Val) (xs : List Val) (p : Nat × Val) : (scanO fr to xs p).length ≤ 2 := by unfold scanO; cases (!decide (cmpV p.2 fr < 0) && !decide (0 < cmpV p.2 to)) <;> simp
theorem scan_len (fr to : Val) (xs : List Val) : ∀ ps : List (Nat × Val), (ps.flatMap (scanO fr to xs)).length ≤ 2 * ps.length
  | [] => Nat.zero_le _
  | p :: ps => by have := scan_len fr to xs ps; have := scanO_len fr to xs p; simp only [List.flatMap_cons, List.length_append, List.length_cons]; omega
theorem kpairs_len : ∀ (n i : Nat) (l : List Val), l.length ≤ n → (kpairs i l).length ≤ l.length
  | 0, i, [], _ => Nat.le_refl _
  | n + 1, i, [], _ => Nat.le_refl _
  | n + 1, i, [a], _ => Nat.zero_le _
  | n + 1, i, a :: b :: r, h => by have := kpairs_len n (i + 2) r (by simp at h; omega); simp [kpairs]; omega
/-- The cells of a list of values. -/
def cellsV (l : List Val) : List Value := l.flatMap fun v => [.int .i64 v.1, .int .i64 v.2.1, .string v.2.2.1]
theorem cellsV_append (a b : List Val) : cellsV (a ++ b) = cellsV a ++ cellsV b := List.flatMap_append

/-- What a round keeps for the iterator: whatever lay below n0, and the iterator's own box. -/
def Kept (n0 Bn : Nat) (A B : World) : Prop := Below n0 A B ∧ B.heap[Bn]? = A.heap[Bn]?
theorem Kept.trans {n0 Bn : Nat} {A B C : World} (h : Kept n0 Bn A B) (k : Kept n0 Bn B C) : Kept n0 Bn A C := ⟨h.1.trans k.1, k.2.trans h.2⟩
theorem Kept.cell {n0 Bn : Nat} {A B : World} {v : Value} (h : Kept n0 Bn A B) (k : A.cell? ⟨Bn, 0, none⟩ = some v) : B.cell? ⟨Bn, 0, none⟩ = some v := (World.cell?_of_block (w := A) (a := ⟨Bn, 0, none⟩) h.2).trans k
theorem Kept.of_below {n0 Bn : Nat} {A B : World} (h : Below A.heap.size A B) (h1 : n0 ≤ A.heap.size) (h2 : Bn < A.heap.size) : Kept n0 Bn A B := ⟨h.mono h1, h.block Bn h2⟩
theorem Kept.put {n0 Bn : Nat} {w : World} (hn : n0 ≤ w.heap.size) (hb : Bn < w.heap.size) (W : World) (l : Nat) (o o' : Obj) (hl : w.heap.size ≤ l) (h : W.heap[l]? = some o) (h1 : o.isCells = false) (h2 : o.isWalk = false) : Kept n0 Bn W (W.putObj l o') :=
  ⟨belowK_b hn W l o o' hl h h1 h2, World.putObj_heap_other (by omega)⟩
theorem keepsFrom_below {B : Nat} {A C : World} (h : Below A.heap.size A C) : KeepsFrom B A C := ⟨h.size, fun k o _ hk _ => (h.block k (Array.getElem?_eq_some_iff.1 hk).1).trans hk⟩
/-- A row of cells lies as it lay where no row is turned. -/
theorem row_own {β : Type} (B b : Nat) (cs : Array Value) (t : TypeId) : OwnFrom B (fun (_ : β) W => W.heap[b]? = some (.cells cs t (0, 0))) := fun s A C row hs hg hr => by
  have hlt := (Array.getElem?_eq_some_iff.1 hs).1
  refine (hg.block b hlt (fun e => ?_)).trans hs
  obtain ⟨_, o, ho, hc⟩ := hr b e.symm
  rw [hs] at ho; cases ho; cases hc

/-- What is found: the first key that is not ahead; is it the key itself? -/
def findK (key : Val) (n : Nat) : List (Nat × Val) → Nat × Bool
  | [] => (n, false)
  | p :: r => bif decide (cmpV p.2 key < 0) then findK key n r else (p.1, cmpV p.2 key == 0)
theorem findK_app {key : Val} {n : Nat} : ∀ {pre r : List (Nat × Val)}, (∀ p ∈ pre, cmpV p.2 key < 0) → findK key n (pre ++ r) = findK key n r
  | [], r, _ => rfl
  | p :: pre, r, h => by
    rw [List.cons_append, findK, decide_eq_true (h p List.mem_cons_self)]
    exact findK_app (fun q hq => h q (List.mem_cons_of_mem _ hq))
end Go.Inc
