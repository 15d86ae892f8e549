/- The abstract machine, part 2: how abstract values stand to the world. Own text of this session. -/
import Derived.Test.YtkkkjcpfahhhpaaDoorAbs1
set_option linter.unusedVariables false
namespace Go.Abs
open Go Go.RowKit

abbrev Vis := Nat → Nat → Option Value

def RepArr {β : Type} (R : β → List Value → Prop) : List β → List Value → Prop
  | [], es => es = []
  | x :: xs, es => ∃ c1 c2, es = c1 ++ c2 ∧ R x c1 ∧ RepArr R xs c2

def Reads (V : Vis) (a : Option Addr) (es : List Value) : Prop := ∀ j v, es[j]? = some v → ∃ bl off, a = some ⟨bl, off, none⟩ ∧ V bl (off + j) = some v

def RepT (V : Vis) : (t : Ty) → t.den → List Value → Prop
  | .int k, n, cs => cs = [.int k n]
  | .bool, x, cs => cs = [.bool x]
  | .str, x, cs => cs = [.string x]
  | .sl t, xs, cs => ∃ a c es, cs = [.slice a xs.length c] ∧ xs.length ≤ c ∧ RepArr (RepT V t) xs es ∧ Reads V a es
  | .un, _, cs => cs = []
  | .pr a b, x, cs => ∃ c1 c2, cs = c1 ++ c2 ∧ RepT V a x.1 c1 ∧ RepT V b x.2 c2
  | .o1, _, cs => ∃ v, cs = [v] ∧ v.oneCell' = true

def VLe (V V' : Vis) : Prop := ∀ b o v, V b o = some v → V' b o = some v
theorem VLe.refl (V : Vis) : VLe V V := fun _ _ _ h => h
theorem VLe.trans {V V' V'' : Vis} (h : VLe V V') (k : VLe V' V'') : VLe V V'' := fun b o v e => k b o v (h b o v e)

theorem RepArr.imp {β : Type} {R R' : β → List Value → Prop} (h : ∀ x cs, R x cs → R' x cs) : ∀ {xs : List β} {es}, RepArr R xs es → RepArr R' xs es
  | [], _, e => e
  | x :: xs, _, ⟨c1, c2, e, r, s⟩ => ⟨c1, c2, e, h _ _ r, RepArr.imp h s⟩

theorem Reads.mono {V V' : Vis} {a es} (h : VLe V V') (r : Reads V a es) : Reads V' a es := fun j v e => by
  obtain ⟨bl, off, rfl, hv⟩ := r j v e
  exact ⟨bl, off, rfl, h _ _ _ hv⟩

theorem RepT.mono {V V' : Vis} (h : VLe V V') : ∀ {t : Ty} {x : t.den} {cs}, RepT V t x cs → RepT V' t x cs
  | .int _, _, _, e => e
  | .bool, _, _, e => e
  | .str, _, _, e => e
  | .sl t, _, _, ⟨a, c, es, e, l, r, s⟩ => ⟨a, c, es, e, l, r.imp fun _ _ q => RepT.mono h q, s.mono h⟩
  | .un, _, _, e => e
  | .pr a b, _, _, ⟨c1, c2, e, r, s⟩ => ⟨c1, c2, e, RepT.mono h r, RepT.mono h s⟩
  | .o1, _, _, e => e

theorem RepT.len {V : Vis} : ∀ {t : Ty} {x : t.den} {cs}, RepT V t x cs → cs.length = t.size
  | .int _, _, _, e => by rw [e]; rfl
  | .bool, _, _, e => by rw [e]; rfl
  | .str, _, _, e => by rw [e]; rfl
  | .sl t, _, _, ⟨a, c, es, e, _⟩ => by rw [e]; rfl
  | .un, _, _, e => by rw [e]; rfl
  | .pr a b, _, _, ⟨c1, c2, e, r, s⟩ => by rw [e, List.length_append, RepT.len r, RepT.len s]; rfl
  | .o1, _, _, ⟨v, e, _⟩ => by rw [e]; rfl

theorem RepT.one {V : Vis} : ∀ {t : Ty} {x : t.den} {cs}, RepT V t x cs → ∀ v ∈ cs, v.oneCell' = true
  | .int _, _, _, e, v, m => by rw [e] at m; simp at m; subst m; rfl
  | .bool, _, _, e, v, m => by rw [e] at m; simp at m; subst m; rfl
  | .str, _, _, e, v, m => by rw [e] at m; simp at m; subst m; rfl
  | .sl t, _, _, ⟨a, c, es, e, _⟩, v, m => by rw [e] at m; simp at m; subst m; rfl
  | .un, _, _, e, v, m => by rw [e] at m; simp at m
  | .pr a b, _, _, ⟨c1, c2, e, r, s⟩, v, m => by
    rw [e, List.mem_append] at m
    rcases m with m | m
    · exact RepT.one r v m
    · exact RepT.one s v m
  | .o1, _, _, ⟨u, e, h⟩, v, m => by rw [e] at m; simp at m; subst m; exact h

theorem RepArr.len {β : Type} {R : β → List Value → Prop} {s : Nat} (h : ∀ x cs, R x cs → cs.length = s) : ∀ {xs : List β} {es}, RepArr R xs es → es.length = xs.length * s
  | [], _, e => by rw [e]; simp
  | x :: xs, _, ⟨c1, c2, e, r, q⟩ => by rw [e, List.length_append, h _ _ r, RepArr.len h q, List.length_cons, Nat.add_mul, Nat.one_mul, Nat.add_comm]

theorem RepArr.get {β : Type} {R : β → List Value → Prop} {s : Nat} (h : ∀ x cs, R x cs → cs.length = s) (d : β) : ∀ {xs : List β} {es}, RepArr R xs es → ∀ i, i < xs.length →
    ∃ c, R (xs.getD i d) c ∧ ∀ j v, c[j]? = some v → es[i * s + j]? = some v
  | [], _, _, i, hi => by simp at hi
  | x :: xs, _, ⟨c1, c2, e, r, q⟩, 0, _ => ⟨c1, r, fun j v hv => by
      rw [e, Nat.zero_mul, Nat.zero_add, List.getElem?_append_left (by rcases List.getElem?_eq_some_iff.1 hv with ⟨h, _⟩; exact h)]; exact hv⟩
  | x :: xs, _, ⟨c1, c2, e, r, q⟩, i + 1, hi => by
    obtain ⟨c, hc, hg⟩ := RepArr.get h d q i (by simpa using hi)
    refine ⟨c, hc, fun j v hv => ?_⟩
    rw [e, List.getElem?_append_right (by rw [h _ _ r, Nat.add_mul]; omega), ← hg j v hv]
    congr 1
    rw [h _ _ r, Nat.add_mul]; omega

theorem RepArr.append {β : Type} {R : β → List Value → Prop} : ∀ {xs ys : List β} {es fs}, RepArr R xs es → RepArr R ys fs → RepArr R (xs ++ ys) (es ++ fs)
  | [], _, _, _, e, q => by rw [e]; exact q
  | x :: xs, ys, _, _, ⟨c1, c2, e, r, s⟩, q => ⟨c1, c2 ++ _, by rw [e, List.append_assoc], r, RepArr.append s q⟩

theorem RepArr.drop {β : Type} {R : β → List Value → Prop} {s : Nat} (h : ∀ x cs, R x cs → cs.length = s) : ∀ (n : Nat) {xs : List β} {es}, RepArr R xs es → RepArr R (xs.drop n) (es.drop (n * s))
  | 0, xs, es, q => by simpa using q
  | n + 1, [], es, q => by rw [show es = [] from q]; simp [RepArr]
  | n + 1, x :: xs, _, ⟨c1, c2, e, r, q⟩ => by
    show RepArr R (xs.drop n) _
    have : (c1 ++ c2).drop s = c2 := by rw [← h _ _ r]; simp
    rw [e, Nat.add_mul, Nat.one_mul, Nat.add_comm (n * s) s, ← List.drop_drop, this]
    exact RepArr.drop h n q

theorem RepArr.take {β : Type} {R : β → List Value → Prop} {s : Nat} (h : ∀ x cs, R x cs → cs.length = s) : ∀ (n : Nat) {xs : List β} {es}, RepArr R xs es → RepArr R (xs.take n) (es.take (n * s))
  | 0, xs, es, q => by simp [RepArr]
  | n + 1, [], es, q => by rw [show es = [] from q]; simp [RepArr]
  | n + 1, x :: xs, _, ⟨c1, c2, e, r, q⟩ => by
    refine ⟨c1, c2.take (n * s), ?_, r, RepArr.take h n q⟩
    rw [e, Nat.add_mul, Nat.one_mul, Nat.add_comm, ← h _ _ r, List.take_length_add_append]

theorem RepArr.one {β : Type} {R : β → List Value → Prop} (h : ∀ x cs, R x cs → ∀ v ∈ cs, v.oneCell' = true) : ∀ {xs : List β} {es}, RepArr R xs es → ∀ v ∈ es, v.oneCell' = true
  | [], _, e, v, m => by rw [show _ = [] from e] at m; simp at m
  | x :: xs, _, ⟨c1, c2, e, r, q⟩, v, m => by
    rw [e, List.mem_append] at m
    rcases m with m | m
    · exact h _ _ r v m
    · exact RepArr.one h q v m

theorem Reads.drop {V : Vis} {bl off n : Nat} {es : List Value} (h : Reads V (some ⟨bl, off, none⟩) es) : Reads V (some ⟨bl, off + n, none⟩) (es.drop n) := fun j v e => by
  rw [List.getElem?_drop] at e
  obtain ⟨b, o, h1, h2⟩ := h _ _ e
  simp only [Option.some.injEq, Addr.mk.injEq, and_true] at h1
  obtain ⟨rfl, rfl⟩ := h1
  exact ⟨_, _, rfl, by rw [← h2]; congr 1; omega⟩

theorem Reads.take {V : Vis} {a : Option Addr} {n : Nat} {es : List Value} (h : Reads V a es) : Reads V a (es.take n) := fun j v e => by
  rw [List.getElem?_take] at e
  split at e
  · exact h _ _ e
  · cases e

/-! ### Values -/
structure Ctx where
  V : Vis
  sg : Nat → Option (Nat × Nat × Nat)      -- boxes: the block, an array's element size, its room (0: there is no block)
  tg : Nat → Option (Value × Nat)    -- tags: the slice, and the size of its elements

def TagOk (x : Ctx) (t : Ty) : Tag → Value → Prop
  | .no, _ => True
  | .full, v => ∃ a n, v = .slice a n n
  | .nl, v => ∃ n c, v = .slice none n c
  | .nn, v => ∃ a n c, v = .slice (some a) n c
  | .own g, v => x.tg g = some (v, t.size)

def RepCs (x : Ctx) : AVal → List Value → Prop
  | .i k n, cs => cs = [.int k n]
  | .b a, cs => cs = [.bool a]
  | .s a, cs => cs = [.string a]
  | .sl t xs g, cs => RepT x.V (.sl t) xs cs ∧ ∀ v, cs = [v] → TagOk x t g v
  | .un, cs => cs = []
  | .pr a b, cs => ∃ c1 c2, cs = c1 ++ c2 ∧ RepCs x a c1 ∧ RepCs x b c2
  | .bx k off, cs => ∃ bl sz, x.sg k = some (bl, sz) ∧ cs = [.pointer (some ⟨bl, off, none⟩)] ∧ sz.2 ≠ 0
  | .bi k i off, cs => ∃ bl sz, x.sg k = some (bl, sz) ∧ cs = [.pointer (some ⟨bl, i * sz.1 + off, none⟩)] ∧ sz.2 ≠ 0
  | .pt t d, cs => ∃ bl off es, cs = [.pointer (some ⟨bl, off, none⟩)] ∧ RepT x.V t d es ∧ Reads x.V (some ⟨bl, off, none⟩) es
  | .tu _, _ => False
  | .nls, cs => cs = [.slice none 0 0]
  | .cn v, cs => cs = [v] ∧ v.oneCell' = true
  | .fn f, cs => cs = [.func (.func f) #[] #[]]
  | .junk, cs => ∃ v, cs = [v] ∧ v.oneCell' = true
  | .ar t xs, cs => ∃ c1 c2, cs = c1 ++ c2 ∧ RepArr (RepT x.V t) xs c1 ∧ ∀ v ∈ c2, v.oneCell' = true
  | .os k n, cs => ∃ bl sz ad, x.sg k = some (bl, sz) ∧ cs = [.slice ad n sz.2] ∧ n ≤ sz.2 ∧ (sz.2 ≠ 0 → ad = some ⟨bl, 0, none⟩)
  | .nd, _ => False
  | .cl f a b, cs => ∃ us vs : List Value, cs = [.func (.func f) us.toArray vs.toArray] ∧ RepCs x a us ∧ RepCs x b vs

/-- A value that is neither a tuple nor none. -/
def RepV1 (x : Ctx) (A : AVal) (v : Value) : Prop :=
  match A with
  | .un => v = .agg #[]
  | .pr a b => ∃ cs : List Value, v = .agg cs.toArray ∧ RepCs x (.pr a b) cs
  | .ar _ _ => False
  | A => RepCs x A [v]

def RepTup (x : Ctx) : AVal → List Value → Prop
  | .un, vs => vs = []
  | .pr a b, vs => ∃ v r, vs = v :: r ∧ RepV1 x a v ∧ RepTup x b r
  | _, _ => False

def RepV (x : Ctx) (A : AVal) (v : Value) : Prop :=
  match A with
  | .tu l => ∃ vs : List Value, v = .tuple vs.toArray ∧ RepTup x l vs
  | .nd => v = undef
  | A => RepV1 x A v

/-- The one context goes on from the other: what was seen is seen, boxes and tags are as they were. -/
structure CLe (x x' : Ctx) : Prop where
  V : VLe x.V x'.V
  sg : ∀ k p, x.sg k = some p → x'.sg k = some p
  tg : ∀ g p, x.tg g = some p → x'.tg g = some p

theorem CLe.refl (x : Ctx) : CLe x x := ⟨VLe.refl _, fun _ _ h => h, fun _ _ h => h⟩

theorem TagOk.mono {x x' : Ctx} (h : CLe x x') {t g v} (k : TagOk x t g v) : TagOk x' t g v := by
  cases g with
  | no => trivial
  | full => exact k
  | nl => exact k
  | nn => exact k
  | own g => exact h.tg _ _ k

theorem RepCs.mono {x x' : Ctx} (h : CLe x x') : ∀ {A cs}, RepCs x A cs → RepCs x' A cs
  | .i _ _, _, e => e
  | .b _, _, e => e
  | .s _, _, e => e
  | .sl t xs g, _, ⟨r, k⟩ => ⟨r.mono h.V, fun v e => (k v e).mono h⟩
  | .un, _, e => e
  | .pr a b, _, ⟨c1, c2, e, r, s⟩ => ⟨c1, c2, e, RepCs.mono h r, RepCs.mono h s⟩
  | .bx k off, _, ⟨bl, sz, e, r⟩ => ⟨bl, sz, h.sg _ _ e, r⟩
  | .bi k i off, _, ⟨bl, sz, e, r⟩ => ⟨bl, sz, h.sg _ _ e, r⟩
  | .pt t d, _, ⟨bl, off, es, e, r, s⟩ => ⟨bl, off, es, e, r.mono h.V, s.mono h.V⟩
  | .nls, _, e => e
  | .cn _, _, e => e
  | .fn _, _, e => e
  | .junk, _, e => e
  | .ar t xs, _, ⟨c1, c2, e, r, s⟩ => ⟨c1, c2, e, RepArr.imp (fun _ _ q => q.mono h.V) r, s⟩
  | .os k n, _, ⟨bl, sz, c, e, r⟩ => ⟨bl, sz, c, h.sg _ _ e, r⟩
  | .cl f a b, _, ⟨us, vs, e, r, s⟩ => ⟨us, vs, e, RepCs.mono h r, RepCs.mono h s⟩

theorem RepV1.mono {x x' : Ctx} (h : CLe x x') {A v} (k : RepV1 x A v) : RepV1 x' A v := by
  unfold RepV1 at *
  split at k
  · exact k
  · obtain ⟨cs, e, r⟩ := k; exact ⟨cs, e, r.mono h⟩
  · exact k
  · exact k.mono h

theorem RepTup.mono {x x' : Ctx} (h : CLe x x') : ∀ {A vs}, RepTup x A vs → RepTup x' A vs
  | .un, _, e => e
  | .pr a b, _, ⟨v, r, e, k, s⟩ => ⟨v, r, e, k.mono h, RepTup.mono h s⟩

theorem RepV.mono {x x' : Ctx} (h : CLe x x') {A v} (k : RepV x A v) : RepV x' A v := by
  unfold RepV at *
  split at k
  · obtain ⟨vs, e, r⟩ := k; exact ⟨vs, e, r.mono h⟩
  · exact k
  · exact k.mono h

/-! ### Typed values -/
theorem repCs_enc {x : Ctx} : ∀ {t : Ty} {d : t.den} {cs}, RepT x.V t d cs → RepCs x (enc t d) cs
  | .int _, _, _, e => e
  | .bool, _, _, e => e
  | .str, _, _, e => e
  | .sl t, _, _, e => ⟨e, fun _ _ => trivial⟩
  | .un, _, _, e => e
  | .pr a b, _, _, ⟨c1, c2, e, r, s⟩ => ⟨c1, c2, e, repCs_enc r, repCs_enc s⟩
  | .o1, _, _, e => e

theorem repT_dec {x : Ctx} : ∀ {t : Ty} {A : AVal} {d : t.den} {cs}, dec t A = some d → RepCs x A cs → RepT x.V t d cs := by
  intro t
  induction t with
  | int k =>
    intro A d cs h r
    cases A <;> simp only [dec] at h <;> try (cases h)
    rename_i j n
    split at h
    · rename_i e _; subst e; cases h; exact r
    · cases h
  | bool => intro A d cs h r; cases A <;> simp only [dec] at h <;> (try cases h); exact r
  | str => intro A d cs h r; cases A <;> simp only [dec] at h <;> (try cases h); exact r
  | sl t ih =>
    intro A d cs h r
    cases A <;> simp only [dec] at h <;> (try cases h)
    · rename_i u xs g
      split at h
      · rename_i e _; subst e; cases h; exact r.1
      · cases h
    · exact ⟨none, 0, [], r, Nat.le_refl _, rfl, fun j v e => by simp at e⟩
  | un => intro A d cs h r; cases A <;> simp only [dec] at h <;> (try cases h); exact r
  | pr a b iha ihb =>
    intro A d cs h r
    cases A <;> simp only [dec] at h <;> (try cases h)
    rename_i p q
    split at h
    · rename_i u hu
      split at h
      · rename_i v hv
        cases h
        obtain ⟨c1, c2, e, r1, r2⟩ := r
        exact ⟨c1, c2, e, iha hu r1, ihb hv r2⟩
      · cases h
    · cases h
  | o1 => intro A d cs h r; cases A <;> simp only [dec] at h <;> cases h

end Go.Abs
