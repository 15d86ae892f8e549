/- The abstract machine, part 28: package variables that are arrays of texts. Own text of this session. -/
import Derived.Test.YtaeinncalendfaaDoorAbs27
set_option linter.unusedVariables false
set_option linter.unusedSimpArgs false
namespace Go.Abs
open Go Go.RowKit

theorem mapM_opt {α β : Type} {f : α → Option β} : ∀ {l : List α} {xs : List β}, l.mapM f = some xs → l.map f = xs.map some
  | [], xs, h => by
    simp only [List.mapM_nil, Option.pure_def, Option.some.injEq] at h
    subst h; rfl
  | a :: l, xs, h => by
    simp only [List.mapM_cons, Option.bind_eq_bind, Option.bind_eq_some_iff, Option.pure_def, Option.some.injEq] at h
    obtain ⟨y, h1, r, h2, h3⟩ := h
    subst h3
    simp only [List.map_cons, h1, mapM_opt h2]

section
variable {P : Program} {H : Type} {enc : TypeId × Value → H} {w : World} {base : Nat} {sp : Nat → Bool} {held : Bool}

theorem trod_text {t n : Nat} {cs : List Value} {x : DataW H × List MemPlace} (ht : P.underlying t = some .string) (h : DataW.trod enc P w base sp held n t cs = some x) : ∃ s : ByteArray, cs = [.string s] ∧ x.1 = .lit (.string s.data.toList) := by
  cases n with
  | zero => simp [DataW.trod] at h
  | succ n =>
    unfold DataW.trod at h
    rw [ht] at h
    split at h <;> simp_all
    all_goals (first | (rw [← h.2]; done) | (obtain ⟨_, rfl⟩ := h; rfl) | (subst h; rfl) | rfl)

theorem trod_strs {T n m E : Nat} {cs : List Value} {p : List MemPlace} {ls : List (List UInt8)} (hT : P.underlying T = some (.array m E)) (hE : P.underlying E = some .string) (c1 : P.cellsOf E = 1) (cT : P.cellsOf T = m)
    (h : DataW.trod enc P w base sp held n T cs = some (.agg (ls.map fun l => .lit (.string l)), p)) : cs = ls.map fun l => .string ⟨l.toArray⟩ := by
  cases n with
  | zero => simp [DataW.trod] at h
  | succ n =>
    unfold DataW.trod at h
    rw [hT] at h
    simp only [c1, cT] at h
    split at h
    case isFalse => cases h
    rename_i hl
    rw [Option.map_eq_some_iff] at h
    obtain ⟨xs, h1, h2⟩ := h
    have h3 := mapM_opt h1
    simp only [Prod.mk.injEq, DataW.agg.injEq] at h2
    have hlen : xs.length = m := by
      have := congrArg List.length h3
      simpa using this.symm
    have hlen2 : ls.length = m := by
      have := congrArg List.length h2.1
      simp only [List.length_map] at this
      omega
    apply List.ext_getElem?
    intro i
    by_cases hi : i < m
    · have g1 : (List.range m)[i]? = some i := List.getElem?_range hi
      have g2 : xs[i]? = some xs[i] := List.getElem?_eq_getElem (by omega)
      have g3 := congrArg (·[i]?) h3
      simp only [List.getElem?_map, g1, g2, Option.map_some, Option.some.injEq] at g3
      obtain ⟨s, e1, e2⟩ := trod_text hE g3
      have g4 := congrArg (·[i]?) h2.1
      simp only [List.getElem?_map, g2, Option.map_some, List.getElem?_eq_getElem (show i < ls.length by omega), Option.some.injEq] at g4
      rw [e2] at g4
      simp only [DataW.lit.injEq, Lit.string.injEq] at g4
      have e3 : (cs.drop (i * 1)).take 1 = [cs[i]] := by
        rw [Nat.mul_one, List.drop_eq_getElem_cons (by omega)]; rfl
      rw [e3] at e1
      simp only [List.cons.injEq, and_true] at e1
      rw [List.getElem?_eq_getElem (by omega), List.getElem?_map, List.getElem?_eq_getElem (show i < ls.length by omega), e1, ← g4]
      simp
    · rw [List.getElem?_eq_none (by omega), List.getElem?_eq_none (by rw [List.length_map]; omega)]

theorem str_back (L : List ByteArray) : (L.map fun s => s.data.toList).map (fun l => Value.string ⟨l.toArray⟩) = L.map Value.string := by
  rw [List.map_map]
  congr 1

/-- What an array of texts is, cell by cell. -/
theorem rep_strs {V : Vis} : ∀ {n : Nat} {x : (arrTy .str n).den}, RepT V (arrTy .str n) x ((arrL .str n x).map Value.string)
  | 0, _ => rfl
  | n + 1, x => ⟨[.string x.1], (arrL .str n x.2).map Value.string, rfl, rfl, rep_strs⟩
end
end Go.Abs
