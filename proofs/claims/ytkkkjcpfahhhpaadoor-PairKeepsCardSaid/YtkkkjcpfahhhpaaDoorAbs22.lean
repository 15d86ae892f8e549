/- The abstract machine, part 22: calls that may write into what they are handed: states whose boxes are called otherwise. Own text of this session. -/
import Derived.Test.YtkkkjcpfahhhpaaDoorAbs21
set_option linter.unusedVariables false
set_option linter.unusedSimpArgs false
namespace Go.Abs
open Go Go.RowKit

section
variable {P : Program} {gl : List (Nat × AVal)} {C : Cfg} {V0 V : Vis} {w0 : Base} {w : World} {x : Ctx} {ρ : St} {a : Act} {nt : Nat}
variable {α : Type} {z : α}

/-! ### Tables -/
theorem look_in {α : Type} {a : Nat} {b : α} : ∀ {l : List (Nat × α)}, look l a = some b → (a, b) ∈ l
  | [], h => by cases h
  | (q, v) :: l, h => by
    simp only [look] at h
    split at h
    · rename_i e; rw [beq_true] at e; subst e; cases h; exact List.mem_cons_self
    · exact List.mem_cons_of_mem _ (look_in h)

theorem in_fsts {a b : Nat} : ∀ {l : List (Nat × Nat)}, (a, b) ∈ l → a ∈ fsts l
  | (q, v) :: l, h => by
    rcases List.mem_cons.1 h with h | h
    · cases h; exact List.mem_cons_self
    · exact List.mem_cons_of_mem _ (in_fsts h)

theorem in_look {a b : Nat} : ∀ {l : List (Nat × Nat)}, nodupN (fsts l) = true → (a, b) ∈ l → look l a = some b
  | (q, v) :: l, hn, h => by
    simp only [fsts, nodupN] at hn
    split at hn
    · cases hn
    rename_i hq
    simp only [look]
    rcases List.mem_cons.1 h with h | h
    · cases h; rw [Nat.beq_refl]
    · split
      · rename_i e; rw [beq_true] at e; subst e
        rw [mem_iff.2 (in_fsts h)] at hq; cases hq
      · exact in_look hn h

theorem in_swap {a b : Nat} : ∀ {l : List (Nat × Nat)}, (a, b) ∈ swapL l ↔ (b, a) ∈ l
  | [] => by simp [swapL]
  | (q, v) :: l => by
    simp only [swapL, List.mem_cons, Prod.mk.injEq, in_swap (l := l)]
    exact ⟨fun h => h.imp (fun h => ⟨h.2, h.1⟩) id, fun h => h.imp (fun h => ⟨h.2, h.1⟩) id⟩

theorem swap_swap : ∀ l : List (Nat × Nat), swapL (swapL l) = l
  | [] => rfl
  | (a, b) :: l => by simp only [swapL, swap_swap l]

/-- What is one to one, read either way. -/
theorem one_look {l : List (Nat × Nat)} (h : oneOne l = true) {a b : Nat} : look l a = some b ↔ look (swapL l) b = some a := by
  unfold oneOne at h
  split at h
  case h_2 => cases h
  rename_i h1
  exact ⟨fun e => in_look h (in_swap.2 (look_in e)), fun e => in_look h1 (in_swap.1 (look_in e))⟩
theorem one_in {l : List (Nat × Nat)} (h : oneOne l = true) {a b : Nat} : look l a = some b ↔ (a, b) ∈ l := by
  unfold oneOne at h
  split at h
  case h_2 => cases h
  rename_i h1
  exact ⟨look_in, in_look h1⟩

/-! ### Values whose boxes are called otherwise -/
theorem RepCs.ren {x x' : Ctx} {m : List (Nat × Nat)} (hV : VLe x.V x'.V) (hs : ∀ j k, look m j = some k → x'.sg k = x.sg j) : ∀ {A cs}, RepCs x A cs → RepCs x' (renA m A) cs
  | .i _ _, _, e => e
  | .b _, _, e => e
  | .s _, _, e => e
  | .sl t xs g, _, ⟨r, q⟩ => by
    cases g with
    | no => exact ⟨r.mono hV, fun v e => trivial⟩
    | full => exact ⟨r.mono hV, fun v e => q v e⟩
    | nl => exact ⟨r.mono hV, fun v e => q v e⟩
    | nn => exact ⟨r.mono hV, fun v e => q v e⟩
    | own g => exact ⟨r.mono hV, fun v e => trivial⟩
  | .un, _, e => e
  | .pr a b, _, ⟨c1, c2, e, r, s⟩ => ⟨c1, c2, e, RepCs.ren hV hs r, RepCs.ren hV hs s⟩
  | .cl f a b, _, ⟨c1, c2, e, r, s⟩ => ⟨c1, c2, e, RepCs.ren hV hs r, RepCs.ren hV hs s⟩
  | .bx j off, cs, ⟨bl, sz, e, r, z⟩ => by
    simp only [renA]
    split
    · rename_i k hk; exact ⟨bl, sz, (hs j k hk).trans e, r, z⟩
    · exact ⟨_, r, rfl⟩
  | .bi j i off, cs, ⟨bl, sz, e, r, z⟩ => by
    simp only [renA]
    split
    · rename_i k hk; exact ⟨bl, sz, (hs j k hk).trans e, r, z⟩
    · exact ⟨_, r, rfl⟩
  | .pt t d, _, ⟨bl, off, es, e, r, s⟩ => ⟨bl, off, es, e, r.mono hV, s.mono hV⟩
  | .nls, _, e => e
  | .cn _, _, e => e
  | .fn _, _, e => e
  | .junk, _, e => e
  | .ar t xs, _, ⟨c1, c2, e, r, s⟩ => ⟨c1, c2, e, RepArr.imp (fun _ _ q => q.mono hV) r, s⟩
  | .os j n, cs, ⟨bl, sz, ad, e, r, z⟩ => by
    simp only [renA]
    split
    · rename_i k hk; exact ⟨bl, sz, ad, (hs j k hk).trans e, r, z⟩
    · exact ⟨_, r, rfl⟩

theorem ren_men {m : List (Nat × Nat)} {k : Nat} : ∀ {A : AVal}, mentions k (renA m A) = true → ∃ j, look m j = some k ∧ mentions j A = true := by
  intro A
  induction A with
  | bx j o =>
    intro h; simp only [renA] at h
    split at h
    · rename_i k' hk; simp only [mentions, beq_true] at h; subst h; exact ⟨j, hk, by simp [mentions]⟩
    · simp [mentions] at h
  | bi j i o =>
    intro h; simp only [renA] at h
    split at h
    · rename_i k' hk; simp only [mentions, beq_true] at h; subst h; exact ⟨j, hk, by simp [mentions]⟩
    · simp [mentions] at h
  | os j n =>
    intro h; simp only [renA] at h
    split at h
    · rename_i k' hk; simp only [mentions, beq_true] at h; subst h; exact ⟨j, hk, by simp [mentions]⟩
    · simp [mentions] at h
  | pr p q ihp ihq =>
    intro h
    simp only [renA, mentions] at h
    split at h
    · rename_i hm; obtain ⟨j, h1, h2⟩ := ihp hm; exact ⟨j, h1, by simp only [mentions, h2]⟩
    · obtain ⟨j, h1, h2⟩ := ihq h
      refine ⟨j, h1, ?_⟩
      simp only [mentions]
      split
      · rfl
      · exact h2
  | cl f p q ihp ihq =>
    intro h
    simp only [renA, mentions] at h
    split at h
    · rename_i hm; obtain ⟨j, h1, h2⟩ := ihp hm; exact ⟨j, h1, by simp only [mentions, h2]⟩
    · obtain ⟨j, h1, h2⟩ := ihq h
      refine ⟨j, h1, ?_⟩
      simp only [mentions]
      split
      · rfl
      · exact h2
  | tu p ih => intro h; exact ih h
  | sl t xs g => intro h; cases g <;> simp [renA, mentions] at h
  | _ => intro h; simp [renA, mentions] at h

theorem ren_ar {m : List (Nat × Nat)} {A : AVal} {t : Ty} {xs : t.sl.den} (e : renA m A = .ar t xs) : A = .ar t xs := by
  cases A with
  | sl u ys g => cases g <;> cases e
  | bx j o => simp only [renA] at e; split at e <;> cases e
  | bi j i o => simp only [renA] at e; split at e <;> cases e
  | os j n => simp only [renA] at e; split at e <;> cases e
  | ar u ys => exact e
  | _ => cases e

theorem RepV1.ren {x x' : Ctx} {m : List (Nat × Nat)} (hV : VLe x.V x'.V) (hs : ∀ j k, look m j = some k → x'.sg k = x.sg j) {A v} (h : RepV1 x A v) : RepV1 x' (renA m A) v := by
  cases A with
  | un => exact h
  | pr a b => obtain ⟨cs, e, r⟩ := h; exact ⟨cs, e, RepCs.ren (A := .pr a b) hV hs r⟩
  | ar t xs => exact h.elim
  | tu a => exact h.elim
  | nd => exact h.elim
  | bx j o =>
    have := RepCs.ren (A := .bx j o) hV hs h
    revert this; simp only [renA]; split <;> exact id
  | bi j i o =>
    have := RepCs.ren (A := .bi j i o) hV hs h
    revert this; simp only [renA]; split <;> exact id
  | os j n =>
    have := RepCs.ren (A := .os j n) hV hs h
    revert this; simp only [renA]; split <;> exact id
  | sl t xs g =>
    have := RepCs.ren (A := .sl t xs g) hV hs h
    revert this; cases g <;> exact id
  | cl f a b => exact RepCs.ren (A := .cl f a b) hV hs h
  | i q n => exact RepCs.ren (A := .i q n) hV hs h
  | b q => exact RepCs.ren (A := .b q) hV hs h
  | s q => exact RepCs.ren (A := .s q) hV hs h
  | pt t d => exact RepCs.ren (A := .pt t d) hV hs h
  | nls => exact RepCs.ren (A := .nls) hV hs h
  | cn q => exact RepCs.ren (A := .cn q) hV hs h
  | fn q => exact RepCs.ren (A := .fn q) hV hs h
  | junk => exact RepCs.ren (A := .junk) hV hs h

theorem RepTup.ren {x x' : Ctx} {m : List (Nat × Nat)} (hV : VLe x.V x'.V) (hs : ∀ j k, look m j = some k → x'.sg k = x.sg j) : ∀ {A vs}, RepTup x A vs → RepTup x' (renA m A) vs
  | .un, _, e => e
  | .pr a b, _, ⟨v, r, e, q, s⟩ => ⟨v, r, e, q.ren hV hs, RepTup.ren hV hs s⟩

theorem RepV.ren {x x' : Ctx} {m : List (Nat × Nat)} (hV : VLe x.V x'.V) (hs : ∀ j k, look m j = some k → x'.sg k = x.sg j) {A v} (h : RepV x A v) : RepV x' (renA m A) v := by
  cases A with
  | tu l => obtain ⟨vs, e, r⟩ := h; exact ⟨vs, e, r.ren hV hs⟩
  | nd => exact h
  | ar t xs => exact h.elim
  | bx j o =>
    have := RepV1.ren (A := .bx j o) hV hs h
    revert this; simp only [renA]; split <;> exact id
  | bi j i o =>
    have := RepV1.ren (A := .bi j i o) hV hs h
    revert this; simp only [renA]; split <;> exact id
  | os j n =>
    have := RepV1.ren (A := .os j n) hV hs h
    revert this; simp only [renA]; split <;> exact id
  | sl t xs g =>
    have := RepV1.ren (A := .sl t xs g) hV hs h
    revert this; cases g <;> exact id
  | un => exact RepV1.ren (A := .un) hV hs h
  | pr a b => exact RepV1.ren (A := .pr a b) hV hs h
  | cl f a b => exact RepV1.ren (A := .cl f a b) hV hs h
  | i q n => exact RepV1.ren (A := .i q n) hV hs h
  | b q => exact RepV1.ren (A := .b q) hV hs h
  | s q => exact RepV1.ren (A := .s q) hV hs h
  | pt t d => exact RepV1.ren (A := .pt t d) hV hs h
  | nls => exact RepV1.ren (A := .nls) hV hs h
  | cn q => exact RepV1.ren (A := .cn q) hV hs h
  | fn q => exact RepV1.ren (A := .fn q) hV hs h
  | junk => exact RepV1.ren (A := .junk) hV hs h

/-! ### Lists of values -/
def RepL (x : Ctx) : AVal → List Value → Prop
  | .un, vs => vs = []
  | .pr A r, vs => ∃ v l, vs = v :: l ∧ RepV x A v ∧ RepL x r l
  | _, _ => False

theorem RepL.ren {x x' : Ctx} {m : List (Nat × Nat)} (hV : VLe x.V x'.V) (hs : ∀ j k, look m j = some k → x'.sg k = x.sg j) : ∀ {A vs}, RepL x A vs → RepL x' (renA m A) vs
  | .un, _, e => e
  | .pr a b, _, ⟨v, r, e, q, s⟩ => ⟨v, r, e, q.ren hV hs, RepL.ren hV hs s⟩

theorem repL_app {x : Ctx} : ∀ {A B : AVal} {us vs}, RepL x A us → RepL x B vs → RepL x (appA A B) (us ++ vs)
  | .un, B, us, vs, h, k => by rw [show us = [] from h]; exact k
  | .pr p r, B, us, vs, ⟨v, l, e, q, s⟩, k => by subst e; exact ⟨v, l ++ vs, rfl, q, repL_app s k⟩

theorem repL_leafs {x : Ctx} : ∀ {A : AVal} {us : List Value}, leafs A = true → RepCs x A us → RepL x A us
  | .un, us, _, h => h
  | .pr p r, us, hl, h => by
    simp only [leafs] at hl
    split at hl
    case h_2 => cases hl
    rename_i hp
    obtain ⟨c1, c2, e, h1, h2⟩ := h
    obtain ⟨v, rfl⟩ : ∃ v, c1 = [v] := by
      cases p <;> simp only [leaf] at hp <;> (try cases hp)
      case i => exact ⟨_, h1⟩
      case b => exact ⟨_, h1⟩
      case s => exact ⟨_, h1⟩
      case sl => obtain ⟨⟨_, _, _, e, _⟩, _⟩ := h1; exact ⟨_, e⟩
      case bx => obtain ⟨_, _, _, e, _⟩ := h1; exact ⟨_, e⟩
      case bi => obtain ⟨_, _, _, e, _⟩ := h1; exact ⟨_, e⟩
      case pt => obtain ⟨_, _, _, e, _⟩ := h1; exact ⟨_, e⟩
      case nls => exact ⟨_, h1⟩
      case cn => exact ⟨_, h1.1⟩
      case fn => exact ⟨_, h1⟩
      case junk => obtain ⟨v, e, _⟩ := h1; exact ⟨v, e⟩
      case os => obtain ⟨_, _, _, _, e, _⟩ := h1; exact ⟨_, e⟩
      case cl => obtain ⟨_, _, e, _⟩ := h1; exact ⟨_, e⟩
    refine ⟨v, c2, e, ?_, repL_leafs hl h2⟩
    cases p <;> simp only [leaf] at hp <;> first | exact h1 | cases hp

theorem args_repL (hC : CfgOk P gl C) (h : R gl V0 w0 nt x ρ a w) : ∀ {l : List Operand} {A : AVal}, args C ρ l = some A → RepL x A (l.map a.eval) ∧ ∀ k, mentions k A = true → ∃ A', get ρ (br k) = some A'
  | [], A, e => by cases e; exact ⟨rfl, fun k m => by simp [mentions] at m⟩
  | X :: l, A, e => by
    simp only [args] at e
    split at e
    case h_2 => cases e
    rename_i v hv
    split at e
    case h_2 => cases e
    rename_i r hr
    cases e
    obtain ⟨h1, h2⟩ := opnd_rep hC h hv
    obtain ⟨h3, h4⟩ := args_repL hC h hr
    refine ⟨⟨_, _, rfl, h1, h3⟩, fun k m => ?_⟩
    simp only [mentions] at m
    split at m
    · rename_i hm; exact h2 k hm
    · exact h4 k m

theorem get_tup : ∀ {A : AVal} {n r : Nat} {B : AVal}, get (tupSt n A) r = some B → ∃ i, r = tr (n + i)
  | .pr p q, n, r, B, e => by
    simp only [tupSt, get] at e
    split at e
    · rename_i h; rw [beq_true] at h; exact ⟨0, h.symm⟩
    · obtain ⟨i, hi⟩ := get_tup e; exact ⟨i + 1, by rw [hi]; congr 1; omega⟩
  | .un, _, _, _, e => by cases e
  | .i _ _, _, _, _, e => by cases e
  | .b _, _, _, _, e => by cases e
  | .s _, _, _, _, e => by cases e
  | .sl _ _ _, _, _, _, e => by cases e
  | .bx _ _, _, _, _, e => by cases e
  | .bi _ _ _, _, _, _, e => by cases e
  | .pt _ _, _, _, _, e => by cases e
  | .tu _, _, _, _, e => by cases e
  | .nls, _, _, _, e => by cases e
  | .cn _, _, _, _, e => by cases e
  | .fn _, _, _, _, e => by cases e
  | .junk, _, _, _, e => by cases e
  | .ar _ _, _, _, _, e => by cases e
  | .os _ _, _, _, _, e => by cases e
  | .nd, _, _, _, e => by cases e
  | .cl _ _ _, _, _, _, e => by cases e

theorem get_app {l m : St} {r : Nat} : get (l ++ m) r = match get l r with | some A => some A | none => get m r := by
  induction l with
  | nil => rfl
  | cons p l ih =>
    obtain ⟨q, v⟩ := p
    simp only [List.cons_append, get]
    split
    · rfl
    · exact ih

theorem tup_rep {x : Ctx} : ∀ {A : AVal} {vs : List Value} {n i : Nat} {B : AVal}, RepL x A vs → get (tupSt n A) (tr (n + i)) = some B → (∃ v, vs[i]? = some v ∧ RepV x B v) ∧ ∀ k, mentions k B = true → mentions k A = true
  | .pr p q, vs, n, i, B, ⟨v, l, e, h1, h2⟩, g => by
    subst e
    simp only [tupSt, get] at g
    split at g
    · rename_i hq
      rw [beq_true] at hq
      have := tr_inj hq
      have : i = 0 := by omega
      subst this; cases g
      exact ⟨⟨v, rfl, h1⟩, fun k m => by simp only [mentions, m]⟩
    · rename_i hq
      rw [beq_false] at hq
      obtain ⟨j, rfl⟩ : ∃ j, i = j + 1 := ⟨i - 1, by have : i ≠ 0 := fun h => hq (by rw [h]; rfl); omega⟩
      have : n + (j + 1) = n + 1 + j := by omega
      rw [this] at g
      obtain ⟨⟨u, g1, g2⟩, g3⟩ := tup_rep h2 g
      refine ⟨⟨u, by simpa using g1, g2⟩, fun k m => ?_⟩
      simp only [mentions]
      split
      · rfl
      · exact g3 k m
  | .un, _, _, _, _, _, g => by cases g

theorem get_boxSt {m : List (Nat × Nat)} : ∀ {l : List (Nat × Nat)} {bs : St}, boxSt m ρ l = some bs → (∀ r B, get bs r = some B → ∃ j k A, (j, k) ∈ l ∧ r = br k ∧ get ρ (br j) = some A ∧ B = renA m A) ∧ ∀ j k, (j, k) ∈ l → ∃ B, get bs (br k) = some B
  | [], bs, e => by cases e; exact ⟨(fun r B h => by cases h), (fun j k h => by cases h)⟩
  | (j, k) :: l, bs, e => by
    simp only [boxSt] at e
    split at e
    case h_2 => cases e
    rename_i A hA
    split at e
    case h_2 => cases e
    rename_i r hr
    cases e
    obtain ⟨h1, h2⟩ := get_boxSt hr
    refine ⟨fun q B h => ?_, fun j' k' h => ?_⟩
    · simp only [get] at h
      split at h
      · rename_i hq; rw [beq_true] at hq; cases h; exact ⟨j, k, A, List.mem_cons_self, hq.symm, hA, rfl⟩
      · obtain ⟨j', k', A', g1, g2⟩ := h1 q B h; exact ⟨j', k', A', List.mem_cons_of_mem _ g1, g2⟩
    · simp only [get]
      split
      · exact ⟨_, rfl⟩
      · rename_i hq
        rw [beq_false] at hq
        rcases List.mem_cons.1 h with h | h
        · cases h; exact absurd rfl hq
        · exact h2 j' k' h

/-- A context whose boxes are called otherwise. -/
def renC (m : List (Nat × Nat)) (x : Ctx) : Ctx := { V := x.V, sg := fun k => match look (swapL m) k with | some j => x.sg j | none => none, tg := fun _ => none }

theorem renC_sg {m : List (Nat × Nat)} (h1 : oneOne m = true) {j k : Nat} (h : look m j = some k) : (renC m x).sg k = x.sg j := by
  simp only [renC, (one_look h1).1 h]

/-- **A state whose boxes are called otherwise**, and whose slots are a list's. -/
theorem R.ren {V1 : Vis} {B : Base} {m : List (Nat × Nat)} {ch : AVal} {vs : List Value} {bs : St} (h : R gl V0 w0 nt x ρ a w) (h1 : oneOne m = true) (hb : boxSt m ρ m = some bs) (hv : RepL x ch vs)
    (hgrow : VLe V1 x.V) (hold : ∀ b o, b < B.w.heap.size → ¬ B.D b → x.V b o = V1 b o) (hown : ∀ j k bl sz, (j, k) ∈ m → x.sg j = some (bl, sz) → sz.2 ≠ 0 → B.own bl) (hbel : B.But w) (hgok : GlobOk gl V1)
    (hpin : ∀ k p, B.pin k = some p → (renC m x).sg k = some p) (hpk : ∀ k p, B.pin k = some p → vs.length ≤ k) :
    R gl V1 B vs.length (renC m x) (tupSt 0 (renA m ch) ++ bs) { tmps := vs.toArray, defers := [] } w := by
  have hsg : ∀ j k, look m j = some k → (renC m x).sg k = x.sg j := fun j k e => renC_sg h1 e
  have hback : ∀ k p, (renC m x).sg k = some p → ∃ j, (j, k) ∈ m ∧ x.sg j = some p := fun k p e => by
    simp only [renC] at e
    split at e
    · rename_i j hj; exact ⟨j, (one_in h1).1 ((one_look h1).2 hj), e⟩
    · cases e
  obtain ⟨b1, b2⟩ := get_boxSt hb
  have hbr : ∀ k, get (tupSt 0 (renA m ch) ++ bs) (br k) = get bs (br k) := fun k => by
    rw [get_app]
    cases e : get (tupSt 0 (renA m ch)) (br k) with
    | none => rfl
    | some B => obtain ⟨i, hi⟩ := get_tup e; exact absurd hi.symm tr_br
  have hmen : ∀ {A : AVal} {k : Nat}, mentions k (renA m A) = true → ∃ B, get (tupSt 0 (renA m ch) ++ bs) (br k) = some B := fun {A k} hm => by
    obtain ⟨j, g1, g2⟩ := ren_men hm
    rw [hbr]
    exact b2 j k ((one_in h1).1 g1)
  refine ⟨⟨h.good.vis, hgrow, hold, ?_, ?_, ?_, (fun g v s e => by cases e), (fun g g' bl n c s n' c' s' e => by cases e), hbel, ?_, hgok, hpin⟩, ?_, rfl, rfl, hpk⟩
  · intro k A e
    rw [hbr] at e
    obtain ⟨j, k', A', g1, g2, g3, rfl⟩ := b1 _ _ e
    have := br_inj g2; subst this
    obtain ⟨bl, sz, q1, q2⟩ := h.good.box j A' g3
    refine ⟨bl, sz, (hsg j k ((one_in h1).2 g1)).trans q1, ?_⟩
    rcases q2 with ⟨hz, t, rfl, ht⟩ | ⟨hz, cs, E, q3, q4, q5⟩
    · exact .inl ⟨hz, t, rfl, ht⟩
    · exact .inr ⟨hz, cs, E, q3, RepCs.ren (x := x) (x' := renC m x) (VLe.refl _) hsg q4, fun t xs e => q5 _ _ (ren_ar e)⟩
  · intro k bl sz e hz
    obtain ⟨j, g1, g2⟩ := hback k _ e
    obtain ⟨s1, s2, s3⟩ := h.good.sgs j bl sz g2 hz
    exact ⟨hown j k bl sz g1 g2 hz, s2, s3⟩
  · intro k k' bl sz sz' e e' hz hz'
    obtain ⟨j, g1, g2⟩ := hback k _ e
    obtain ⟨j', g1', g2'⟩ := hback k' _ e'
    have := h.good.inj _ _ _ _ _ g2 g2' hz hz'
    subst this
    have q1 := (one_in h1).2 g1
    have q2 := (one_in h1).2 g1'
    rw [q1] at q2; exact Option.some.inj q2
  · intro r A k e hm
    rw [get_app] at e
    split at e
    · rename_i A' hA
      cases e
      obtain ⟨i, rfl⟩ := get_tup hA
      obtain ⟨_, g3⟩ := tup_rep (n := 0) (RepL.ren (x := x) (m := m) (x' := renC m x) (VLe.refl _) hsg hv) hA
      exact hmen (g3 k hm)
    · obtain ⟨j, k', A', g1, g2, g3, rfl⟩ := b1 _ _ e
      exact hmen hm
  · intro t A e
    rw [get_app] at e
    split at e
    · rename_i A' hA
      cases e
      obtain ⟨⟨v, g1, g2⟩, _⟩ := tup_rep (n := 0) (i := t) (RepL.ren (x := x) (m := m) (x' := renC m x) (VLe.refl _) hsg hv) (by rw [Nat.zero_add]; exact hA)
      rw [Array.getD_eq_getD_getElem?, List.getElem?_toArray, g1]
      exact g2
    · obtain ⟨j, k', A', g1, g2, _⟩ := b1 _ _ e
      exact absurd g2 tr_br

end
end Go.Abs
