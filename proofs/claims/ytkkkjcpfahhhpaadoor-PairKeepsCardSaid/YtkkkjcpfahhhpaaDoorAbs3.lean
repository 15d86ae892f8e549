/- The abstract machine, part 3: what is known of types; the state's relation to the machine. Own text of this session. -/
import Derived.Test.YtkkkjcpfahhhpaaDoorAbs2
import Derived.Laws.StructEq
set_option linter.unusedVariables false
set_option linter.unusedSimpArgs false
namespace Go.Abs
open Go Go.RowKit

def zOk1 : Ty → Value → Bool
  | .int k, .int j n => decide (j = k) && n == 0
  | .bool, .bool b => !b
  | .str, .string s => s.size == 0
  | .sl _, .slice none 0 0 => true
  | .o1, v => v.oneCell'
  | _, _ => false

def zList : Ty → List Value → Option (List Value)
  | .un, l => some l
  | .pr a b, l => (zList a l).bind (zList b)
  | t, v :: r => if zOk1 t v = true then some r else none
  | _, [] => none

def zOk (t : Ty) (z : Option Value) : Bool :=
  match t, z with
  | .un, some (.agg cs) => cs.size == 0
  | .pr a b, some (.agg cs) => match zList (.pr a b) cs.toList with | some [] => true | _ => false
  | .un, _ => false
  | .pr _ _, _ => false
  | t, some v => zOk1 t v
  | _, none => false

def infoOk (P : Program) (t : Ty) (T : Nat) : Bool := match P.info? T with | some i => i.size == t.size && zOk t i.zero | none => false

def structOk (P : Program) (T : Nat) : Bool := !P.stoodInHeld T && !P.eqGuardType P.depth T

/-- The type T is t (a struct's fields: from an offset on). -/
def chk (P : Program) : Ty → Nat ⊕ (List Field × Nat) → Bool
  | .int k, .inl T => infoOk P (.int k) T && (match P.underlying T with | some (.int j) => decide (j = k) | _ => false)
  | .bool, .inl T => infoOk P .bool T && (match P.underlying T with | some .bool => true | _ => false)
  | .str, .inl T => infoOk P .str T && (match P.underlying T with | some .string => true | _ => false)
  | .sl t, .inl T => infoOk P (.sl t) T && (match P.underlying T with | some (.slice E) => chk P t (.inl E) | _ => false)
  | .o1, .inl T => infoOk P .o1 T && (match P.underlying T with | some (.pointer _) => true | some (.map _ _) => true | some (.func _ _ _) => true | some (.interface _) => true | _ => false)
  | .un, .inl T => infoOk P .un T && (structOk P T && (match P.underlying T with | some (.struct fs) => fs.toList.isEmpty | _ => false))
  | .pr a b, .inl T => infoOk P (.pr a b) T && (structOk P T && (match P.underlying T with
    | some (.struct fs) => match fs.toList with
      | f :: r => f.offset == 0 && (f.name != "_" && (decide (1 ≤ a.size) && (chk P a (.inl f.type) && chk P b (.inr (r, a.size)))))
      | [] => false
    | _ => false))
  | .un, .inr ([], _) => true
  | .pr a b, .inr (f :: r, off) => f.offset == off && (f.name != "_" && (decide (1 ≤ a.size) && (chk P a (.inl f.type) && chk P b (.inr (r, off + a.size)))))
  | _, .inr _ => false

section
variable {P : Program}

theorem chk_info {t : Ty} {T : Nat} (h : chk P t (.inl T) = true) : ∃ i, P.info? T = some i ∧ i.size = t.size ∧ zOk t i.zero = true := by
  have h' : infoOk P t T = true := by cases t <;> simp only [chk, Bool.and_eq_true] at h <;> exact h.1
  unfold infoOk at h'
  split at h'
  · rename_i i hi
    simp only [Bool.and_eq_true, beq_iff_eq] at h'
    exact ⟨i, hi, h'.1, h'.2⟩
  · cases h'

theorem chk_size {t : Ty} {T : Nat} (h : chk P t (.inl T) = true) (w : World) : (sizeOf T).run P w = .ok t.size w := by
  obtain ⟨i, hi, hs, _⟩ := chk_info h
  simp [sizeOf, typeInfo, hi, hs]

theorem chk_und {t : Ty} {T : Nat} (h : chk P t (.inl T) = true) : ∃ d, P.underlying T = some d ∧ (match d with | .struct _ => t.isAgg = true | .array _ _ => False | _ => t.isAgg = false) := by
  cases t <;> simp only [chk, Bool.and_eq_true] at h
  case int k => obtain ⟨_, h⟩ := h; split at h <;> first | (cases h; done) | (rename_i hu; exact ⟨_, hu, rfl⟩)
  case bool => obtain ⟨_, h⟩ := h; split at h <;> first | (cases h; done) | (rename_i hu; exact ⟨_, hu, rfl⟩)
  case str => obtain ⟨_, h⟩ := h; split at h <;> first | (cases h; done) | (rename_i hu; exact ⟨_, hu, rfl⟩)
  case sl t => obtain ⟨_, h⟩ := h; split at h <;> first | (cases h; done) | (rename_i hu; exact ⟨_, hu, rfl⟩)
  case un => obtain ⟨_, _, h⟩ := h; split at h <;> first | (cases h; done) | (rename_i hu; exact ⟨_, hu, rfl⟩)
  case pr a b => obtain ⟨_, _, h⟩ := h; split at h <;> first | (cases h; done) | (rename_i hu; exact ⟨_, hu, rfl⟩)
  case o1 => obtain ⟨_, h⟩ := h; split at h <;> first | (cases h; done) | (rename_i hu; exact ⟨_, hu, rfl⟩)

theorem chk_agg {t : Ty} {T : Nat} (h : chk P t (.inl T) = true) (w : World) : (isAgg T).run P w = .ok t.isAgg w := by
  obtain ⟨d, hd, hk⟩ := chk_und h
  unfold isAgg
  rw [Sem.run_bind, run_underlying hd, Result.andThen_ok]
  cases d <;> simp only [Sem.run_pure] <;> first | rw [hk] | exact hk.elim

theorem chk_sl {t : Ty} {T : Nat} (h : chk P (.sl t) (.inl T) = true) : ∃ E, P.underlying T = some (.slice E) ∧ chk P t (.inl E) = true := by
  simp only [chk, Bool.and_eq_true] at h
  obtain ⟨_, h⟩ := h
  split at h
  · rename_i E hu; exact ⟨E, hu, h⟩
  · cases h

theorem chk_flds : ∀ {t : Ty} {l : List Field} {off f o : Nat} {u : Ty}, chk P t (.inr (l, off)) = true → fieldOf t f = some (o, u) →
    ∃ fd, l[f]? = some fd ∧ fd.offset = off + o ∧ chk P u (.inl fd.type) = true ∧ 1 ≤ u.size ∧ fd.name ≠ "_"
  | .pr a b, [], off, _, _, _, h, _ => by simp [chk] at h
  | .pr a b, fd :: r, off, 0, _, _, h, e => by
    simp only [chk, Bool.and_eq_true, beq_iff_eq, bne_iff_ne, decide_eq_true_eq] at h
    simp only [fieldOf, Option.some.injEq, Prod.mk.injEq] at e
    obtain ⟨rfl, rfl⟩ := e
    exact ⟨fd, rfl, h.1, h.2.2.2.1, h.2.2.1, h.2.1⟩
  | .pr a b, fd :: r, off, f + 1, _, _, h, e => by
    simp only [chk, Bool.and_eq_true, beq_iff_eq, bne_iff_ne, decide_eq_true_eq] at h
    simp only [fieldOf] at e
    split at e
    · rename_i o' t' he
      simp only [Option.some.injEq, Prod.mk.injEq] at e
      obtain ⟨rfl, rfl⟩ := e
      obtain ⟨fd', h1, h2, h3⟩ := chk_flds h.2.2.2.2 he
      exact ⟨fd', by simpa using h1, by rw [h2]; omega, h3⟩
    · cases e

theorem chk_field {t : Ty} {S f o : Nat} {u : Ty} (h : chk P t (.inl S) = true) (e : fieldOf t f = some (o, u)) :
    ∃ fs fd, P.underlying S = some (.struct fs) ∧ fs[f]? = some fd ∧ fd.offset = o ∧ chk P u (.inl fd.type) = true ∧ 1 ≤ u.size := by
  cases t with
  | pr a b =>
    simp only [chk, Bool.and_eq_true] at h
    obtain ⟨_, _, h⟩ := h
    split at h
    · rename_i fs hu
      split at h
      · rename_i g r hl
        have h' : chk P (.pr a b) (.inr (fs.toList, 0)) = true := by
          rw [hl]; simp only [Bool.and_eq_true] at h; simp only [chk, Bool.and_eq_true, Nat.zero_add]; exact h
        obtain ⟨fd, h1, h2, h3, h4, _⟩ := chk_flds h' e
        exact ⟨fs, fd, hu, by simpa using h1, by omega, h3, h4⟩
      · cases h
    · cases h
  | _ => simp [fieldOf] at e

/-! ### Zero values -/
theorem zero_one {x : Ctx} {t : Ty} {v : Value} (ht : t.isAgg = false) (h : zOk1 t v = true) : RepCs x (zeroA t) [v] := by
  cases t <;> simp only [Ty.isAgg, Bool.true_eq_false] at ht
  case int k =>
    cases v <;> simp only [zOk1, Bool.and_eq_true, decide_eq_true_eq, beq_iff_eq, Bool.false_eq_true] at h
    obtain ⟨rfl, rfl⟩ := h; rfl
  case bool =>
    cases v <;> simp only [zOk1, Bool.false_eq_true] at h
    rename_i b; cases b <;> simp at h; rfl
  case str =>
    cases v <;> simp only [zOk1, Bool.false_eq_true, beq_iff_eq] at h
    rename_i s
    have : s = ByteArray.empty := by
      cases s with | mk d => have : d = #[] := Array.eq_empty_of_size_eq_zero h; subst this; rfl
    subst this; rfl
  case sl t =>
    unfold zOk1 at h
    split at h <;> first | (cases h; done) | skip
    all_goals (simp_all; try (exact ⟨⟨none, 0, [], rfl, Nat.le_refl _, rfl, fun j v e => by simp at e⟩, fun v e => by cases e; exact ⟨none, 0, rfl⟩⟩))
  case o1 => exact ⟨v, rfl, h⟩

theorem zero_list {x : Ctx} : ∀ {t : Ty} {l r : List Value}, zList t l = some r → ∃ c, l = c ++ r ∧ RepCs x (zeroA t) c := by
  intro t
  induction t with
  | un => intro l r h; simp only [zList, Option.some.injEq] at h; exact ⟨[], by simp [h], rfl⟩
  | pr a b iha ihb =>
    intro l r h
    simp only [zList] at h
    cases hm : zList a l with
    | none => simp [hm] at h
    | some m =>
      simp only [hm, Option.bind_some] at h
      obtain ⟨c1, e1, r1⟩ := iha hm
      obtain ⟨c2, e2, r2⟩ := ihb h
      exact ⟨c1 ++ c2, by rw [e1, e2, List.append_assoc], c1, c2, rfl, r1, r2⟩
  | _ =>
    intro l r h
    cases l with
    | nil => simp [zList] at h
    | cons v l =>
      simp only [zList] at h
      split at h
      · rename_i hz
        cases h
        exact ⟨[v], rfl, zero_one rfl hz⟩
      · cases h

theorem zero_rep1 {x : Ctx} {t : Ty} {z : Option Value} (ha : t.isAgg = false) (hz : ∀ v, zOk t (some v) = true → zOk1 t v = true) (h : zOk t z = true) :
    ∃ v, z = some v ∧ RepCs x (zeroA t) v.cells.toList := by
  cases z with
  | none => cases t <;> simp [zOk] at h
  | some v =>
    have h1 := hz v h
    refine ⟨v, rfl, ?_⟩
    have hc : v.cells = #[v] := by cases v <;> first | rfl | (cases t <;> simp [zOk1, Value.oneCell', Ty.isAgg] at h1 ha)
    rw [hc]; exact zero_one ha h1

theorem zero_rep {x : Ctx} {t : Ty} {z : Option Value} (h : zOk t z = true) : ∃ v, z = some v ∧ RepCs x (zeroA t) v.cells.toList := by
  cases t
  case un =>
    unfold zOk at h
    split at h <;> first | (cases h; done) | skip
    all_goals (simp_all; try rfl)
  case pr a b =>
    unfold zOk at h
    split at h <;> first | (cases h; done) | skip
    all_goals simp_all
    rename_i cs
    split at h
    · rename_i hz
      obtain ⟨c, e, r⟩ := zero_list (x := x) hz
      simp only [List.append_nil] at e
      simp only [Value.cells]; rw [e]; exact r
    · cases h
  case int k => exact zero_rep1 rfl (fun _ h => h) h
  case bool => exact zero_rep1 rfl (fun _ h => h) h
  case str => exact zero_rep1 rfl (fun _ h => h) h
  case sl t => exact zero_rep1 rfl (fun _ h => h) h
  case o1 => exact zero_rep1 rfl (fun _ h => h) h
end
end Go.Abs
