/- The abstract machine, part 15: regions whose order is open. Own text of this session. -/
import Derived.Test.YtkkkjcpfahhhpaaDoorAbs14
set_option linter.unusedVariables false
set_option linter.unusedSimpArgs false
namespace Go.Abs
open Go Go.RowKit

section
variable {P : Program} {gl : List (Nat × AVal)} {C : Cfg} {V0 V : Vis} {w0 : Base} {w : World} {x : Ctx} {ρ ρ2 : St} {a : Act} {nt : Nat}
variable {α : Type} {K : St → Foot → Option α} {z : α} {d ty : Nat} {ps : String} {af : Array Edge} {gd : Option (Nat × Bool)}

/-- Boxes whose names are of no use any more. -/
def killL : List Nat → AVal → AVal
  | [], A => A
  | k :: l, A => killL l (killA k A)

theorem map_kill0 : ∀ (o : Option AVal), o.map (killL []) = o
  | none => rfl
  | some _ => rfl

/-- What an operation comes to hangs on what it reads alone. -/
def Local (C : Cfg) (ρ : St) (o : Oper) {α : Type} (K : St → Foot → Option α) (z : α) : Prop :=
  ∃ ρ1 f, K ρ1 f = some z ∧ (∀ (β : Type) (K' : St → Foot → Option β), evOp C ρ o K' = K' ρ1 f) ∧
    (∀ rd wr kl, f = some (rd, wr, kl) → (∀ r, r ∉ wr → get ρ1 r = (get ρ r).map (killL kl)) ∧ ∀ ρ2, (∀ r, r ∈ rd → get ρ2 r = get ρ r) →
      ∃ ρ3, (∀ (β : Type) (K' : St → Foot → Option β), evOp C ρ2 o K' = K' ρ3 f) ∧ (∀ r, r ∈ wr → get ρ3 r = get ρ1 r) ∧ (∀ r, r ∉ wr → get ρ3 r = (get ρ2 r).map (killL kl))) ∧
    (f = none → ∀ ρ2, (∀ r, get ρ2 r = get ρ r) → ∃ ρ3, (∀ (β : Type) (K' : St → Foot → Option β), evOp C ρ2 o K' = K' ρ3 f) ∧ ∀ r, get ρ3 r = get ρ1 r)

theorem local_set {o : Oper} {v : AVal} {rd : List Nat} (e : setD ρ d v rd K = some z)
    (h : ∀ ρ2, (∀ r, r ∈ rd → get ρ2 r = get ρ r) → ∀ (β : Type) (K' : St → Foot → Option β), evOp C ρ2 o K' = setD ρ2 d v rd K') : Local C ρ o K z := by
  refine ⟨_, _, e, h ρ (fun _ _ => rfl), (fun rd' wr kl hf => ?_), (fun hf => by cases hf)⟩
  cases hf
  simp only [map_kill0]
  refine ⟨fun r hr => ?_, fun ρ2 ha => ⟨_, h ρ2 ha, fun r hr => ?_, fun r hr => ?_⟩⟩
  · rw [get_put, if_neg (fun e => hr (by simp [e]))]
  · simp only [List.mem_singleton] at hr; subst hr
    rw [get_put, get_put, if_pos rfl, if_pos rfl]
  · rw [get_put, if_neg (fun e => hr (by simp [e]))]

/-- Two resources written. -/
theorem local_two {o : Oper} {q1 q2 : Nat} {v1 v2 : AVal} {rd : List Nat} (e : K (put q1 v1 (put q2 v2 ρ)) (some (rd, [q2, q1], [])) = some z)
    (h : ∀ ρ2, (∀ r, r ∈ rd → get ρ2 r = get ρ r) → ∀ (β : Type) (K' : St → Foot → Option β), evOp C ρ2 o K' = K' (put q1 v1 (put q2 v2 ρ2)) (some (rd, [q2, q1], []))) : Local C ρ o K z := by
  refine ⟨_, _, e, h ρ (fun _ _ => rfl), (fun rd' wr kl hf => ?_), (fun hf => by cases hf)⟩
  cases hf
  simp only [map_kill0]
  refine ⟨fun r hr => ?_, fun ρ2 ha => ⟨_, h ρ2 ha, fun r hr => ?_, fun r hr => ?_⟩⟩
  · rw [get_put, if_neg (fun e => hr (by simp [e])), get_put, if_neg (fun e => hr (by simp [e]))]
  · simp only [get_put]
    split
    · rfl
    · split
      · rfl
      · rename_i h1 h2
        simp only [List.mem_cons, List.not_mem_nil, or_false] at hr
        rcases hr with rfl | rfl
        · exact absurd rfl h2
        · exact absurd rfl h1
  · rw [get_put, if_neg (fun e => hr (by simp [e])), get_put, if_neg (fun e => hr (by simp [e]))]

theorem local_one {o : Oper} {q : Nat} {v : AVal} {rd : List Nat} (e : K (put q v ρ) (some (rd, [q], [])) = some z)
    (h : ∀ ρ2, (∀ r, r ∈ rd → get ρ2 r = get ρ r) → ∀ (β : Type) (K' : St → Foot → Option β), evOp C ρ2 o K' = K' (put q v ρ2) (some (rd, [q], []))) : Local C ρ o K z := by
  refine ⟨_, _, e, h ρ (fun _ _ => rfl), (fun rd' wr kl hf => ?_), (fun hf => by cases hf)⟩
  cases hf
  simp only [map_kill0]
  refine ⟨fun r hr => ?_, fun ρ2 ha => ⟨_, h ρ2 ha, fun r hr => ?_, fun r hr => ?_⟩⟩
  · rw [get_put, if_neg (fun e => hr (by simp [e]))]
  · simp only [List.mem_singleton] at hr; subst hr
    rw [get_put, get_put, if_pos rfl, if_pos rfl]
  · rw [get_put, if_neg (fun e => hr (by simp [e]))]

theorem local_all {o : Oper} {g d : Nat} {v : AVal} (e : K (put d v (stripAll g ρ)) none = some z)
    (h : ∀ ρ2, (∀ r, get ρ2 r = get ρ r) → ∀ (β : Type) (K' : St → Foot → Option β), evOp C ρ2 o K' = K' (put d v (stripAll g ρ2)) none) : Local C ρ o K z :=
  ⟨_, _, e, h ρ (fun _ => rfl), (fun rd wr kl hf => by cases hf), (fun _ ρ2 ha => ⟨_, h ρ2 ha, fun r => by rw [get_put, get_put, get_strip, get_strip, ha]⟩)⟩

theorem local_kill {o : Oper} {k q1 q2 : Nat} {v B : AVal} {rd : List Nat} (e : K (put q1 v (put q2 B (killAll k ρ))) (some (rd, [q2, q1], [k])) = some z)
    (h : ∀ ρ2, (∀ r, r ∈ rd → get ρ2 r = get ρ r) → ∀ (β : Type) (K' : St → Foot → Option β), evOp C ρ2 o K' = K' (put q1 v (put q2 B (killAll k ρ2))) (some (rd, [q2, q1], [k]))) : Local C ρ o K z := by
  have hkl : ∀ o : Option AVal, o.map (killL [k]) = o.map (killA k) := fun _ => rfl
  refine ⟨_, _, e, h ρ (fun _ _ => rfl), (fun rd' wr kl hf => ?_), (fun hf => by cases hf)⟩
  cases hf
  simp only [hkl]
  refine ⟨fun r hr => ?_, fun ρ2 ha => ⟨_, h ρ2 ha, fun r hr => ?_, fun r hr => ?_⟩⟩
  · rw [get_put, if_neg (fun e => hr (by simp [e])), get_put, if_neg (fun e => hr (by simp [e])), get_kill]
  · simp only [get_put]
    split
    · rfl
    · split
      · rfl
      · rename_i h1 h2
        simp only [List.mem_cons, List.not_mem_nil, or_false] at hr
        rcases hr with rfl | rfl
        · exact absurd rfl h2
        · exact absurd rfl h1
  · rw [get_put, if_neg (fun e => hr (by simp [e])), get_put, if_neg (fun e => hr (by simp [e])), get_kill]

theorem opnd_loc {X : Operand} {A : AVal} (e : opnd C ρ X = some A) (h : ∀ r, r ∈ rdOf X → get ρ2 r = get ρ r) : opnd C ρ2 X = some A := by
  rw [← e]
  cases X with
  | tmp t => exact h _ (by simp [rdOf])
  | _ => rfl

theorem opt_loc {X : Option Operand} {n : Int} {A : AVal} (e : opt C ρ n X = some A) (h : ∀ r, r ∈ rdAll X.toList → get ρ2 r = get ρ r) : opt C ρ2 n X = some A := by
  cases X with
  | none => exact e
  | some X => exact opnd_loc e (fun r hr => h r (by simpa [rdAll] using hr))

theorem buildParts_loc {t : Ty} : ∀ {l : List (Nat × Operand)} {acc : AVal}, (∀ r, r ∈ rdParts l → get ρ2 r = get ρ r) → buildParts C ρ2 t l acc = buildParts C ρ t l acc
  | [], acc, h => rfl
  | (i, X) :: l, acc, h => by
    have h1 : opnd C ρ2 X = opnd C ρ X := by
      cases X with
      | tmp t => exact h _ (by simp [rdParts, rdOf])
      | _ => rfl
    simp only [buildParts, h1]
    have := fun acc => buildParts_loc (t := t) (l := l) (acc := acc) (fun r hr => h r (by simp [rdParts, hr]))
    simp only [this]

theorem sliceParts_loc {t : Ty} : ∀ {l : List (Nat × Operand)} {n : Nat}, (∀ r, r ∈ rdParts l → get ρ2 r = get ρ r) → sliceParts C ρ2 t n l = sliceParts C ρ t n l
  | [], n, h => rfl
  | (i, X) :: l, n, h => by
    have h1 : opnd C ρ2 X = opnd C ρ X := by
      cases X with
      | tmp t => exact h _ (by simp [rdParts, rdOf])
      | _ => rfl
    simp only [sliceParts, h1, sliceParts_loc (t := t) (l := l) (n := n + 1) (fun r hr => h r (by simp [rdParts, hr]))]

theorem callArgs_loc : ∀ {t : Ty} {l : List Operand}, (∀ r, r ∈ rdAll l → get ρ2 r = get ρ r) → callArgs C ρ2 t l = callArgs C ρ t l
  | .un, [], h => rfl
  | .pr p q, X :: l, h => by
    have h1 : opnd C ρ2 X = opnd C ρ X := by
      cases X with
      | tmp t => exact h _ (by simp [rdAll, rdOf])
      | _ => rfl
    simp only [callArgs, h1, callArgs_loc (t := q) (l := l) (fun r hr => h r (by simp [rdAll, hr]))]
  | .un, _ :: _, _ => rfl
  | .pr _ _, [], _ => rfl
  | .int _, l, _ => by cases l <;> rfl
  | .bool, l, _ => by cases l <;> rfl
  | .str, l, _ => by cases l <;> rfl
  | .sl _, l, _ => by cases l <;> rfl
  | .o1, l, _ => by cases l <;> rfl

theorem intBin_dir {op : BinOp} {k : IntKind} {m n : Int} {Kb : AVal → Option α} (e : intBin op k m n Kb = some z) : ∃ v, Kb v = some z ∧ ∀ (β : Type) (K' : AVal → Option β), intBin op k m n K' = K' v := by
  cases op <;> simp only [intBin] at e ⊢
  case quo => cases h : n == 0 <;> rw [h] at e <;> first | (cases e; done) | exact ⟨_, e, fun _ _ => rfl⟩
  case rem => cases h : n == 0 <;> rw [h] at e <;> first | (cases e; done) | exact ⟨_, e, fun _ _ => rfl⟩
  case shl => cases h : decide (n < 0) <;> rw [h] at e <;> first | (cases e; done) | exact ⟨_, e, fun _ _ => rfl⟩
  case shr => cases h : decide (n < 0) <;> rw [h] at e <;> first | (cases e; done) | exact ⟨_, e, fun _ _ => rfl⟩
  all_goals exact ⟨_, e, fun _ _ => rfl⟩

theorem strBin_dir {op : BinOp} {m n : ByteArray} {Kb : AVal → Option α} (e : strBin op m n Kb = some z) : ∃ v, Kb v = some z ∧ ∀ (β : Type) (K' : AVal → Option β), strBin op m n K' = K' v := by
  cases op <;> simp only [strBin] at e ⊢ <;> (try (cases e; done))
  case add => cases h : decide (m.size + n.size ≤ 140737488355328) <;> rw [h] at e <;> first | (cases e; done) | exact ⟨_, e, fun _ _ => rfl⟩
  all_goals exact ⟨_, e, fun _ _ => rfl⟩

theorem bin_dir {op : BinOp} {T : Nat} {A B : AVal} {Kb : AVal → Option α} (e : bin C op T A B Kb = some z) : ∃ v, Kb v = some z ∧ ∀ (β : Type) (K' : AVal → Option β), bin C op T A B K' = K' v := by
  unfold bin at e ⊢
  split at e
  · split at e
    · exact intBin_dir e
    · exact intBin_dir e
    · split at e
      · exact intBin_dir e
      · cases e
  · exact strBin_dir e
  · split at e
    · rename_i h; exact ⟨_, e, fun _ _ => by simp only [h]⟩
    · rename_i h; exact ⟨_, e, fun _ _ => by simp only [h]⟩
    · cases e
  · split at e
    case h_2 => cases e
    rename_i t ht
    split at e
    case h_2 => cases e
    rename_i h1 h2
    split at e
    · rename_i q hq; exact ⟨_, e, fun _ _ => by simp only [ht, h1, h2, hq]⟩
    · rename_i q hq; exact ⟨_, e, fun _ _ => by simp only [ht, h1, h2, hq]⟩
    · cases e
  · split at e
    · rename_i y h1 h2
      cases op <;> first | (cases e; done) | exact ⟨_, e, fun _ _ => by simp only [h1, h2]⟩
    · cases e
  · cases e


theorem args_loc : ∀ {l : List Operand}, (∀ r, r ∈ rdAll l → get ρ2 r = get ρ r) → args C ρ2 l = args C ρ l
  | [], h => rfl
  | X :: l, h => by
    have h1 : opnd C ρ2 X = opnd C ρ X := by
      cases X with
      | tmp t => exact h _ (by simp [rdAll, rdOf])
      | _ => rfl
    simp only [args, h1, args_loc (l := l) (fun r hr => h r (by simp [rdAll, hr]))]

theorem mem_brs {j : Nat} : ∀ {l : List Nat}, j ∈ l → br j ∈ brs l
  | q :: l, h => by
    rcases List.mem_cons.1 h with rfl | h
    · exact List.mem_cons_self
    · exact List.mem_cons_of_mem _ (mem_brs h)

theorem boxSt_loc {m : List (Nat × Nat)} : ∀ {l : List (Nat × Nat)}, (∀ r, r ∈ brs (fsts l) → get ρ2 r = get ρ r) → boxSt m ρ2 l = boxSt m ρ l
  | [], h => rfl
  | (j, k) :: l, h => by
    simp only [boxSt, h (br j) (by simp [fsts, brs]), boxSt_loc (l := l) (fun r hr => h r (by simp [fsts, brs, hr]))]

theorem fresh_loc {n : Nat} : ∀ {l : List Nat}, (∀ r, r ∈ brs l → get ρ2 r = get ρ r) → fresh n ρ2 l = fresh n ρ l
  | [], h => rfl
  | j :: l, h => by simp only [fresh, h (br j) (by simp [brs]), fresh_loc (l := l) (fun r hr => h r (by simp [brs, hr]))]

theorem xin_loc {xc : XCall} {g : Operand} {l : List Operand} (h : ∀ r, r ∈ brs (fsts xc.ins) ++ (rdOf g ++ rdAll l) → get ρ2 r = get ρ r) : xin C ρ2 xc g l = xin C ρ xc g l := by
  have h1 : opnd C ρ2 g = opnd C ρ g := by
    cases g with
    | tmp t => exact h _ (by simp [rdOf])
    | _ => rfl
  unfold xin
  rw [h1, args_loc (l := l) (fun r hr => h r (by simp [hr])), boxSt_loc (fun r hr => h r (by simp [hr]))]

theorem xok_loc {xc : XCall} (h : ∀ r, r ∈ brs (fsts (swapL xc.news)) → get ρ2 r = get ρ r) : xok C ρ2 xc = xok C ρ xc := by
  unfold xok
  rw [fresh_loc h]

theorem outSt_loc {b : List (Nat × Nat)} {σ : St} : ∀ {l : List (Nat × Nat)} {ρ ρ' : St}, outSt b σ l ρ = some ρ' → (∀ r, r ∉ brs (fsts (swapL l)) → get ρ' r = get ρ r) ∧
    ∀ ρ2, ∃ ρ3, outSt b σ l ρ2 = some ρ3 ∧ (∀ r, r ∈ brs (fsts (swapL l)) → get ρ3 r = get ρ' r) ∧ (∀ r, r ∉ brs (fsts (swapL l)) → get ρ3 r = get ρ2 r)
  | [], ρ, ρ', e => by cases e; exact ⟨fun _ _ => rfl, fun ρ2 => ⟨ρ2, rfl, (fun r hr => by simp [swapL, fsts, brs] at hr), fun _ _ => rfl⟩⟩
  | (k, j) :: l, ρ, ρ', e => by
    simp only [outSt] at e
    split at e
    case h_2 => cases e
    rename_i A hA
    obtain ⟨h1, h2⟩ := outSt_loc e
    refine ⟨fun r hr => ?_, fun ρ2 => ?_⟩
    · simp only [swapL, fsts, brs, List.mem_cons, not_or] at hr
      rw [h1 r hr.2, get_put, if_neg (fun h => hr.1 h.symm)]
    · obtain ⟨ρ3, g1, g2, g3⟩ := h2 (put (br j) (renA b A) ρ2)
      refine ⟨ρ3, by simp only [outSt, hA]; exact g1, fun r hr => ?_, fun r hr => ?_⟩
      · by_cases hm : r ∈ brs (fsts (swapL l))
        · exact g2 r hm
        · rw [g3 r hm, h1 r hm]
          simp only [swapL, fsts, brs, List.mem_cons] at hr
          have hr' := hr.resolve_right hm
          rw [get_put, get_put, if_pos hr'.symm, if_pos hr'.symm]
      · simp only [swapL, fsts, brs, List.mem_cons, not_or] at hr
        rw [g3 r hr.2, get_put, if_neg (fun h => hr.1 h.symm)]

theorem consume_ext : ∀ {l : List Nat} {ρ ρ2 : St}, (∀ r, get ρ2 r = get ρ r) → ∀ r, get (consume l ρ2) r = get (consume l ρ) r
  | [], ρ, ρ2, h => h
  | j :: l, ρ, ρ2, h => by
    simp only [consume]
    exact consume_ext (fun r => by rw [get_del, get_del, get_kill, get_kill, h r])

theorem get_consume : ∀ {l : List Nat} {ρ : St} {r : Nat}, (r ∉ brs l → get (consume l ρ) r = (get ρ r).map (killL l)) ∧ (r ∈ brs l → get (consume l ρ) r = none)
  | [], ρ, r => ⟨fun _ => (map_kill0 _).symm, fun h => by cases h⟩
  | j :: l, ρ, r => by
    obtain ⟨h1, h2⟩ := get_consume (l := l) (ρ := delA (br j) (killAll j ρ)) (r := r)
    refine ⟨fun h => ?_, fun h => ?_⟩
    · simp only [brs, List.mem_cons, not_or] at h
      show get (consume l _) r = _
      rw [h1 h.2, get_del, if_neg (fun e => h.1 e.symm), get_kill, Option.map_map]; rfl
    · show get (consume l _) r = none
      by_cases hr : r ∈ brs l
      · exact h2 hr
      · simp only [brs, List.mem_cons] at h
        have := h.resolve_right hr
        subst this
        rw [h1 hr, get_del, if_pos rfl]; rfl

theorem xout_loc {xc : XCall} {σ ρ1 : St} (e : xout ρ d xc σ = some ρ1) :
    (∀ r, r ∉ tr d :: (brs (goes xc.X.pins xc.ins) ++ brs (fsts (swapL (swapL (stays xc.X.pins xc.ins) ++ xc.news)))) → get ρ1 r = (get ρ r).map (killL (goes xc.X.pins xc.ins))) ∧
    ∀ ρ2, ∃ ρ3, xout ρ2 d xc σ = some ρ3 ∧ (∀ r, r ∈ tr d :: (brs (goes xc.X.pins xc.ins) ++ brs (fsts (swapL (swapL (stays xc.X.pins xc.ins) ++ xc.news)))) → get ρ3 r = get ρ1 r) ∧
      (∀ r, r ∉ tr d :: (brs (goes xc.X.pins xc.ins) ++ brs (fsts (swapL (swapL (stays xc.X.pins xc.ins) ++ xc.news)))) → get ρ3 r = (get ρ2 r).map (killL (goes xc.X.pins xc.ins))) := by
  unfold xout at e ⊢
  split at e
  case h_2 => cases e
  rename_i ch hch
  split at e
  case h_2 => cases e
  rename_i A hA
  split at e
  case h_2 => cases e
  rename_i ρ' ho
  cases e
  obtain ⟨h1, h2⟩ := outSt_loc ho
  refine ⟨fun r hr => ?_, fun ρ2 => ?_⟩
  · simp only [List.mem_cons, List.mem_append, not_or] at hr
    rw [get_put, if_neg (fun h => hr.1 h.symm), h1 r hr.2.2]
    exact get_consume.1 hr.2.1
  · obtain ⟨ρ3, g1, g2, g3⟩ := h2 (consume (goes xc.X.pins xc.ins) ρ2)
    refine ⟨put (tr d) A ρ3, ?_, fun r hr => ?_, fun r hr => ?_⟩
    · show (match outSt _ σ _ _ with | some ρ' => some (put (tr d) A ρ') | none => none) = _
      rw [g1]
    · rw [get_put, get_put]
      split
      · rfl
      · rename_i hne
        have hr' := (List.mem_cons.1 hr).resolve_left fun h => hne h.symm
        by_cases hm : r ∈ brs (fsts (swapL (swapL (stays xc.X.pins xc.ins) ++ xc.news)))
        · exact g2 r hm
        · have hgo := (List.mem_append.1 hr').resolve_right hm
          rw [g3 r hm, h1 r hm, get_consume.2 hgo, get_consume.2 hgo]
    · simp only [List.mem_cons, List.mem_append, not_or] at hr
      rw [get_put, if_neg (fun h => hr.1 h.symm), g3 r hr.2.2]
      exact get_consume.1 hr.2.1

theorem xout_ext {xc : XCall} {σ ρ1 : St} (e : xout ρ d xc σ = some ρ1) (h : ∀ r, get ρ2 r = get ρ r) : ∃ ρ3, xout ρ2 d xc σ = some ρ3 ∧ ∀ r, get ρ3 r = get ρ1 r := by
  unfold xout at e ⊢
  split at e
  case h_2 => cases e
  rename_i ch hch
  split at e
  case h_2 => cases e
  rename_i A hA
  split at e
  case h_2 => cases e
  rename_i ρ' ho
  cases e
  obtain ⟨h1, h2⟩ := outSt_loc ho
  obtain ⟨ρ3, g1, g2, g3⟩ := h2 (consume (goes xc.X.pins xc.ins) ρ2)
  refine ⟨put (tr d) A ρ3, by simp only [hch, hA, g1], fun r => ?_⟩
  rw [get_put, get_put]
  split
  · rfl
  · by_cases hm : r ∈ brs (fsts (swapL (swapL (stays xc.X.pins xc.ins) ++ xc.news)))
    · exact g2 r hm
    · rw [g3 r hm, h1 r hm]; exact consume_ext h r

theorem xin_callee {c : Call} {xc : XCall} {g : Operand} {v : HS.den xc.X.hin} (hg : c.callee = .value g) (h : xin C ρ xc g c.args.toList = some v) : calleeAt C ρ c = some xc.f := by
  unfold xin at h
  split at h
  case h_2 => cases h
  rename_i F ar bs hF hA hB
  split at h
  case h_2 => cases h
  rename_i f A B hcal
  split at h
  case h_2 => cases h
  rename_i hff _
  rw [beq_true] at hff; subst hff
  simp only [calleeAt, hg, hF, hcal]

theorem evX_local {c : Call} {xc xc0 : XCall} (hx0 : look C.calls d = some xc0) (hx : pickX d xc.f C.calls = some xc) (e : evX C ρ d xc c K = some z) : Local C ρ ⟨some d, .call c, ty, ps, af, gd⟩ K z := by
  have hE : ∀ (ρ : St) (β : Type) (K' : St → Foot → Option β), calleeAt C ρ c = some xc.f → evOp C ρ ⟨some d, .call c, ty, ps, af, gd⟩ K' = evX C ρ d xc c K' := fun ρ β K' h => by simp only [evOp, hx0, h, hx]
  unfold evX at e
  split at e
  case h_2 => cases e
  rename_i g hg
  split at e
  case h_2 => cases e
  rename_i v hok hin
  cases hp : xc.X.pre v with
  | false => rw [hp] at e; cases e
  | true =>
    rw [hp] at e; simp only [cond_true] at e
    split at e
    case h_2 => cases e
    rename_i ρ1 ho
    have hrun : ∀ (ρ2 ρ3 : St), xok C ρ2 xc = true → xin C ρ2 xc g c.args.toList = some v → xout ρ2 d xc (encH xc.X.hout (xc.X.val v)) = some ρ3 →
        ∀ (β : Type) (K' : St → Foot → Option β), evOp C ρ2 ⟨some d, .call c, ty, ps, af, gd⟩ K' = K' ρ3 (xfoot d xc g c.args.toList) := fun ρ2 ρ3 q1 q2 q3 β K' => by
      rw [hE _ _ _ (xin_callee hg q2)]
      unfold evX
      simp only [hg, q1, q2, hp, cond_true, q3]
    refine ⟨ρ1, _, e, hrun ρ ρ1 hok hin ho, fun rd wr kl hf => ?_, fun hf ρ2 ha => ?_⟩
    · unfold xfoot at hf
      cases hf
      obtain ⟨h1, h2⟩ := xout_loc ho
      refine ⟨h1, fun ρ2 ha => ?_⟩
      obtain ⟨ρ3, g1, g2, g3⟩ := h2 ρ2
      refine ⟨ρ3, ?_, g2, g3⟩
      have := hrun ρ2 ρ3 (by rw [xok_loc (fun r hr => ha r (List.mem_append_left _ hr))]; exact hok) (by rw [xin_loc (fun r hr => ha r (List.mem_append_right _ hr))]; exact hin) g1
      intro β K'
      rw [this β K']
    · obtain ⟨ρ3, g1, g2⟩ := xout_ext ho ha
      refine ⟨ρ3, ?_, g2⟩
      exact hrun ρ2 ρ3 (by rw [xok_loc (fun r hr => ha r)]; exact hok) (by rw [xin_loc (fun r hr => ha r)]; exact hin) g1

theorem evOp_local {o : Oper} (e : evOp C ρ o K = some z) : Local C ρ o K z := by
  obtain ⟨dst, op, ty, ps, af, gd⟩ := o
  cases dst with
  | none =>
    cases op <;> simp only [evOp] at e <;> (try (cases e; done))
    case store T X Y =>
      split at e
      · rename_i t k off A hT hX hY
        split at e
        case h_2 => cases e
        rename_i c hA hc
        split at e
        case h_2 => cases e
        rename_i c' hov
        refine local_one e fun ρ2 ha β K' => ?_
        have q1 := opnd_loc hX (ρ2 := ρ2) (fun r hr => ha r (by simp [hr]))
        have q2 := opnd_loc hY (ρ2 := ρ2) (fun r hr => ha r (by simp [hr]))
        have q3 := (ha (br k) (by simp)).trans hc
        simp only [evOp, hT, q1, q2, q3, hA, hov]
      · rename_i t k i off A hT hX hY
        split at e
        case h_2 => cases e
        rename_i u xs hA hc
        cases hi : decide (i < List.length xs) with
        | false => rw [hi] at e; cases e
        | true =>
          rw [hi] at e; simp only [cond_true] at e
          split at e
          case h_2 => cases e
          rename_i c1 hov
          split at e
          case h_2 => cases e
          rename_i e1 hun
          split at e
          case h_2 => cases e
          rename_i y hd
          refine local_one e fun ρ2 ha β K' => ?_
          have q1 := opnd_loc hX (ρ2 := ρ2) (fun r hr => ha r (by simp [hr]))
          have q2 := opnd_loc hY (ρ2 := ρ2) (fun r hr => ha r (by simp [hr]))
          have q3 := (ha (br k) (by simp)).trans hc
          simp only [evOp, hT, q1, q2, q3, hA, hi, cond_true, hov, hun, hd]
      · cases e
  | some d =>
    cases op
    case move X =>
      simp only [evOp] at e
      split at e
      · rename_i v hv
        exact local_set e fun ρ2 ha β K' => by simp only [evOp, opnd_loc hv ha]
      · cases e
    case assign X =>
      simp only [evOp] at e
      split at e
      · rename_i v hv
        exact local_set e fun ρ2 ha β K' => by simp only [evOp, opnd_loc hv ha]
      · cases e
    case pick c A B =>
      simp only [evOp] at e
      split at e
      · rename_i b hb
        cases b with
        | true =>
          simp only [cond_true] at e
          split at e
          · rename_i v hv
            exact local_set e fun ρ2 ha β K' => by simp only [evOp, opnd_loc hb (ρ2 := ρ2) (fun r hr => ha r (by simp [hr])), opnd_loc hv (ρ2 := ρ2) (fun r hr => ha r (by simp [hr])), cond_true]
          · cases e
        | false =>
          simp only [cond_false] at e
          split at e
          · rename_i v hv
            exact local_set e fun ρ2 ha β K' => by simp only [evOp, opnd_loc hb (ρ2 := ρ2) (fun r hr => ha r (by simp [hr])), opnd_loc hv (ρ2 := ρ2) (fun r hr => ha r (by simp [hr])), cond_false]
          · cases e
      · cases e
    case alloc T =>
      simp only [evOp] at e
      split at e
      · rename_i t hT hn
        refine local_two e fun ρ2 ha β K' => ?_
        have q := (ha (br d) (by simp)).trans hn
        simp only [evOp, hT, q]
      · cases e
    case box T X =>
      simp only [evOp] at e
      split at e
      · rename_i t v hT hn hX
        split at e
        · rename_i hA
          refine local_two e fun ρ2 ha β K' => ?_
          have q := (ha (br d) (by simp)).trans hn
          have q1 := opnd_loc hX (ρ2 := ρ2) (fun r hr => ha r (by simp [hr]))
          simp only [evOp, hT, q, q1, hA]
        · cases e
      · cases e
    case build T parts =>
      simp only [evOp] at e
      split at e
      · rename_i t hT
        split at e
        · rename_i hA
          split at e
          · rename_i v hv
            exact local_set e fun ρ2 ha β K' => by simp only [evOp, hT, hA, buildParts_loc ha, hv]
          · cases e
        · cases e
      · cases e
    case buildSlice T len parts =>
      simp only [evOp] at e
      split at e
      · rename_i t hT
        split at e
        · rename_i xs hxs
          split at e
          · rename_i b1 b2 b3
            split at e
            · rename_i ho
              exact local_set e fun ρ2 ha β K' => by simp only [evOp, hT, sliceParts_loc ha, hxs, b1, b2, b3, ho]
            · rename_i ho
              split at e
              · rename_i hn
                refine local_two e fun ρ2 ha β K' => ?_
                have q := (ha (br d) (by simp)).trans hn
                have q2 := sliceParts_loc (C := C) (ρ2 := ρ2) (ρ := ρ) (t := t) (l := parts.toList) (n := 0) (fun r hr => ha r (List.mem_cons_of_mem _ hr))
                simp only [evOp, hT, q2, hxs, b1, b2, b3, ho, q]
              · cases e
          · cases e
        · cases e
      · cases e
    case load T X =>
      simp only [evOp] at e
      split at e
      · rename_i t u v hT hX
        split at e
        · rename_i hu hu'
          exact local_set e fun ρ2 ha β K' => by simp only [evOp, hT, opnd_loc hX ha, hu']
        · cases e
      · rename_i t k off hT hX
        split at e
        case h_2 => cases e
        rename_i c hc
        split at e
        case h_2 => cases e
        rename_i c1 hd1
        split at e
        case h_2 => cases e
        rename_i v c2 hu
        refine local_set e fun ρ2 ha β K' => ?_
        have q := (ha (br k) (by simp)).trans hc
        simp only [evOp, hT, opnd_loc hX (ρ2 := ρ2) (fun r hr => ha r (by simp [hr])), q, hd1, hu]
      · rename_i t k i off hT hX
        split at e
        case h_2 => cases e
        rename_i u xs hc
        cases hi : decide (i < List.length xs) with
        | false => rw [hi] at e; cases e
        | true =>
          rw [hi] at e; simp only [cond_true] at e
          split at e
          case h_2 => cases e
          rename_i c1 hd1
          split at e
          case h_2 => cases e
          rename_i v c2 hu
          refine local_set e fun ρ2 ha β K' => ?_
          have q := (ha (br k) (by simp)).trans hc
          simp only [evOp, hT, opnd_loc hX (ρ2 := ρ2) (fun r hr => ha r (by simp [hr])), q, hi, cond_true, hd1, hu]
      · cases e
    case nilCheck X =>
      simp only [evOp] at e
      split at e
      · rename_i u v hX; exact local_set e fun ρ2 ha β K' => by simp only [evOp, opnd_loc hX ha]
      · rename_i k o hX; exact local_set e fun ρ2 ha β K' => by simp only [evOp, opnd_loc hX ha]
      · rename_i k i o hX; exact local_set e fun ρ2 ha β K' => by simp only [evOp, opnd_loc hX ha]
      · cases e
    case binOp op T X Y U =>
      simp only [evOp] at e
      split at e
      · rename_i A B hA hB
        obtain ⟨v, e', hv⟩ := bin_dir e
        exact local_set e' fun ρ2 ha β K' => by simp only [evOp, opnd_loc hA (ρ2 := ρ2) (fun r hr => ha r (by simp [hr])), opnd_loc hB (ρ2 := ρ2) (fun r hr => ha r (by simp [hr])), hv]
      · cases e
    case unOp op T X =>
      cases op <;> simp only [evOp] at e <;> (try (cases e; done))
      · split at e
        · rename_i k n hX; exact local_set e fun ρ2 ha β K' => by simp only [evOp, opnd_loc hX ha]
        · cases e
      · split at e
        · rename_i n hX; exact local_set e fun ρ2 ha β K' => by simp only [evOp, opnd_loc hX ha]
        · cases e
    case convert S T X =>
      simp only [evOp] at e
      split at e
      · rename_i t1 k k' n hS hT hX; exact local_set e fun ρ2 ha β K' => by simp only [evOp, hS, hT, opnd_loc hX ha]
      · cases e
    case makeSlice T N M =>
      simp only [evOp] at e
      split at e
      case h_2 => cases e
      rename_i t eb n m hT hE hN hM hn
      split at e
      case h_2 => cases e
      rename_i hsz
      cases hc : (decide (0 ≤ n) && (decide (n * (eb : Int) ≤ 140737488351232) && n == m)) with
      | false => rw [hc] at e; cases e
      | true =>
        rw [hc] at e; simp only [cond_true] at e
        refine local_two e fun ρ2 ha β K' => ?_
        have q := (ha (br d) (by simp)).trans hn
        simp only [evOp, hT, hE, opnd_loc hN (ρ2 := ρ2) (fun r hr => ha r (by simp [hr])), opnd_loc hM (ρ2 := ρ2) (fun r hr => ha r (by simp [hr])), q, hsz, hc, cond_true]
    case slice T X lo hi mx =>
      simp only [evOp] at e
      split at e
      · rename_i u t xs g hT hX
        split at e
        case h_2 => cases e
        rename_i _ _ _ hu k1 l k2 hh hu' hlo hhi
        cases hc : (decide (0 ≤ l) && (decide (l ≤ hh) && decide (hh ≤ (List.length xs : Int)))) with
        | false => rw [hc] at e; cases e
        | true =>
          rw [hc] at e; simp only [cond_true] at e
          cases mx with
          | none =>
            simp only at e
            exact local_set e fun ρ2 ha β K' => by
              simp only [evOp, hT, opnd_loc hX (ρ2 := ρ2) (fun r hr => ha r (by simp [hr])), hu', opt_loc hlo (ρ2 := ρ2) (fun r hr => ha r (by cases lo <;> simp_all [rdAll])), opt_loc hhi (ρ2 := ρ2) (fun r hr => ha r (by cases lo <;> cases hi <;> simp_all [rdAll])), hc, cond_true]
          | some m =>
            simp only at e
            split at e
            case h_2 => cases e
            rename_i _ _ hi' k3 q hm
            cases hq : q == hh with
            | false => rw [hq] at e; cases e
            | true =>
              rw [hq] at e; simp only [cond_true] at e
              exact local_set e fun ρ2 ha β K' => by
                simp only [evOp, hT, opnd_loc hX (ρ2 := ρ2) (fun r hr => ha r (by simp [hr])), hu', opt_loc hlo (ρ2 := ρ2) (fun r hr => ha r (by cases lo <;> simp_all [rdAll])), opt_loc hhi (ρ2 := ρ2) (fun r hr => ha r (by cases lo <;> simp_all [rdAll])),
                  opnd_loc hm (ρ2 := ρ2) (fun r hr => ha r (by cases lo <;> simp_all [rdAll])), hc, hq, cond_true]
      · rename_i s hT hX
        split at e
        case h_2 => cases e
        rename_i _ _ _ k1 l k2 hh hlo hhi
        cases hc : (decide (0 ≤ l) && (decide (l ≤ hh) && decide (hh ≤ (s.size : Int)))) with
        | false => rw [hc] at e; cases e
        | true =>
          rw [hc] at e; simp only [cond_true] at e
          exact local_set e fun ρ2 ha β K' => by
            simp only [evOp, hT, opnd_loc hX (ρ2 := ρ2) (fun r hr => ha r (by simp [hr])), opt_loc hlo (ρ2 := ρ2) (fun r hr => ha r (by cases lo <;> simp_all [rdAll])), opt_loc hhi (ρ2 := ρ2) (fun r hr => ha r (by cases lo <;> cases hi <;> simp_all [rdAll])), hc, cond_true]
      · rename_i u v hT hX
        split at e
        case h_2 => cases e
        rename_i t n hA
        split at e
        case h_2 => cases e
        rename_i hu hu'
        exact local_set e fun ρ2 ha β K' => by
          simp only [evOp, hT, opnd_loc hX (ρ2 := ρ2) (fun r hr => ha r (by simp [hr])), hA, hu']
      · cases e
    case fieldAddr S X f =>
      simp only [evOp] at e
      split at e
      · rename_i t u v hS hX
        split at e
        case h_2 => cases e
        rename_i hu hu'
        split at e
        case h_2 => cases e
        rename_i p hp
        exact local_set e fun ρ2 ha β K' => by simp only [evOp, hS, opnd_loc hX ha, hu', hp]
      · rename_i t k off hS hX
        split at e
        case h_2 => cases e
        rename_i o u hf
        exact local_set e fun ρ2 ha β K' => by simp only [evOp, hS, opnd_loc hX ha, hf]
      · rename_i t k i off hS hX
        split at e
        case h_2 => cases e
        rename_i o u hf
        exact local_set e fun ρ2 ha β K' => by simp only [evOp, hS, opnd_loc hX ha, hf]
      · cases e
    case field S X f =>
      simp only [evOp] at e
      split at e
      case h_2 => cases e
      rename_i t A hS hX
      split at e
      case h_2 => cases e
      rename_i hA
      split at e
      case h_2 => cases e
      rename_i B hB
      exact local_set e fun ρ2 ha β K' => by simp only [evOp, hS, opnd_loc hX ha, hA, hB]
    case indexAddr S X I =>
      simp only [evOp] at e
      split at e
      · rename_i u t xs g k n hS hX hI
        split at e
        case h_2 => cases e
        rename_i hu hu'
        split at e
        case h_2 => cases e
        rename_i hsz
        cases hc : (decide (0 ≤ n) && decide (n < (List.length xs : Int))) with
        | false => rw [hc] at e; cases e
        | true =>
          rw [hc] at e; simp only [cond_true] at e
          exact local_set e fun ρ2 ha β K' => by
            simp only [evOp, hS, opnd_loc hX (ρ2 := ρ2) (fun r hr => ha r (by simp [hr])), opnd_loc hI (ρ2 := ρ2) (fun r hr => ha r (by simp [hr])), hu', hsz, hc, cond_true]
      · rename_i u k m j n hS hX hI
        split at e
        case h_2 => cases e
        rename_i t xs hb
        split at e
        case h_2 => cases e
        rename_i hu hu'
        cases hc : (decide (0 ≤ n) && decide (n < (m : Int))) with
        | false => rw [hc] at e; cases e
        | true =>
          rw [hc] at e; simp only [cond_true] at e
          refine local_set e fun ρ2 ha β K' => ?_
          have q := (ha (br k) (by simp)).trans hb
          simp only [evOp, hS, opnd_loc hX (ρ2 := ρ2) (fun r hr => ha r (by simp [hr])), opnd_loc hI (ρ2 := ρ2) (fun r hr => ha r (by simp [hr])), q, hu', hc, cond_true]
      · rename_i u v kk k hS hX hI
        split at e
        case h_2 => cases e
        rename_i t n hA
        split at e
        case h_2 => cases e
        rename_i hu hu'
        cases hc : (decide (0 ≤ k) && decide (k < (n : Int))) with
        | false => rw [hc] at e; cases e
        | true =>
          rw [hc] at e; simp only [cond_true] at e
          exact local_set e fun ρ2 ha β K' => by
            simp only [evOp, hS, opnd_loc hX (ρ2 := ρ2) (fun r hr => ha r (by simp [hr])), opnd_loc hI (ρ2 := ρ2) (fun r hr => ha r (by simp [hr])), hA, hu', hc, cond_true]
      · cases e
    case index T X I =>
      simp only [evOp] at e
      split at e
      case h_2 => cases e
      rename_i s k n hT hX hI
      cases hc : (decide (0 ≤ n) && decide (n < (s.size : Int))) with
      | false => rw [hc] at e; cases e
      | true =>
        rw [hc] at e; simp only [cond_true] at e
        exact local_set e fun ρ2 ha β K' => by
          simp only [evOp, hT, opnd_loc hX (ρ2 := ρ2) (fun r hr => ha r (by simp [hr])), opnd_loc hI (ρ2 := ρ2) (fun r hr => ha r (by simp [hr])), hc, cond_true]
    case extract X n =>
      simp only [evOp] at e
      split at e
      case h_2 => cases e
      rename_i A hX
      split at e
      case h_2 => cases e
      rename_i B hB
      exact local_set e fun ρ2 ha β K' => by simp only [evOp, opnd_loc hX ha, hB]
    case makeFunc fn fs cs =>
      cases fn
      case func f =>
        simp only [evOp] at e
        split at e
        case h_2 => cases e
        rename_i A B hA hB
        split at e
        case h_2 => cases e
        rename_i lA lB
        exact local_set e fun ρ2 ha β K' => by
          simp only [evOp, args_loc (ρ2 := ρ2) (l := fs.toList) (fun r hr => ha r (by simp [hr])), args_loc (ρ2 := ρ2) (l := cs.toList) (fun r hr => ha r (by simp [hr])), hA, hB, lA, lB]
      all_goals (simp only [evOp] at e; cases e)
    case call c =>
      simp only [evOp] at e
      split at e
      · rename_i xc0 hx0
        split at e
        case h_2 => cases e
        rename_i f hf
        split at e
        case h_2 => cases e
        rename_i xc hx
        obtain ⟨_, rfl⟩ := pickX_mem hx
        exact evX_local hx0 hx e
      rename_i hxn
      simp only [evCall] at e
      split at e
      · rename_i f hf
        split at e
        · rename_i te hte
          split at e
          case h_2 => cases e
          rename_i X hax
          split at e
          case h_2 => cases e
          rename_i A hX hn
          split at e
          case h_2 => cases e
          rename_i xs hxs
          cases hb : decide (List.length xs * te.2 ≤ 140737488351232) with
          | false => rw [hb] at e; cases e
          | true =>
            rw [hb] at e; simp only [cond_true] at e
            refine local_two e fun ρ2 ha β K' => ?_
            have q := (ha (br d) (by simp)).trans hn
            have q1 := opnd_loc hX (ρ2 := ρ2) (fun r hr => ha r (by simp [hr]))
            simp only [evOp, hxn, evCall, hf, hte, hax, q1, q, hxs, hb, cond_true]
        rename_i hcl
        split at e
        case h_2 => cases e
        rename_i S hS
        split at e
        case h_2 => cases e
        rename_i u hu
        cases hp : S.pre u with
        | false => rw [hp] at e; cases e
        | true =>
          rw [hp] at e; simp only [cond_true] at e
          exact local_set e fun ρ2 ha β K' => by simp only [evOp, hxn, evCall, hf, hcl, hS, callArgs_loc ha, hu, hp, cond_true]
      · rename_i hf
        split at e
        case h_2 => cases e
        rename_i X T ha' ht'
        split at e
        · rename_i hT hX; exact local_set e fun ρ2 ha β K' => by simp only [evOp, hxn, evCall, hf, ha', ht', hT, opnd_loc hX ha]
        · rename_i hT hX; exact local_set e fun ρ2 ha β K' => by simp only [evOp, hxn, evCall, hf, ha', ht', hT, opnd_loc hX ha]
        · rename_i hT hX; exact local_set e fun ρ2 ha β K' => by simp only [evOp, hxn, evCall, hf, ha', ht', hT, opnd_loc hX ha]
        · rename_i hT hX; exact local_set e fun ρ2 ha β K' => by simp only [evOp, hxn, evCall, hf, ha', ht', hT, opnd_loc hX ha]
        · cases e
      · rename_i hf
        split at e
        case h_2 => cases e
        rename_i X Y ha'
        split at e
        case h_2 => cases e
        rename_i hX hY
        exact local_set e fun ρ2 ha β K' => by simp only [evOp, hxn, evCall, hf, ha', opnd_loc hX (ρ2 := ρ2) (fun r hr => ha r (by simp [hr])), opnd_loc hY (ρ2 := ρ2) (fun r hr => ha r (by simp [hr]))]
      · rename_i hf
        split at e
        case h_2 => cases e
        rename_i X Y ha'
        split at e
        case h_2 => cases e
        rename_i hX hY
        exact local_set e fun ρ2 ha β K' => by simp only [evOp, hxn, evCall, hf, ha', opnd_loc hX (ρ2 := ρ2) (fun r hr => ha r (by simp [hr])), opnd_loc hY (ρ2 := ρ2) (fun r hr => ha r (by simp [hr]))]
      · rename_i hf
        split at e
        case h_2 => cases e
        rename_i X Y T U ha' ht'
        split at e
        case h_2 => cases e
        rename_i t eb hTU hT heb
        split at e
        case h_2 => cases e
        rename_i vx vy hX hY
        split at e
        case h_3 => cases e
        · rename_i k n ys hvx hys
          split at e
          case h_2 => cases e
          rename_i u xs hbx hsz
          split at e
          case h_2 => cases e
          rename_i hut hut'
          cases hb : (decide (n = List.length xs) && decide ((List.length xs + List.length ys) * eb ≤ 140737488351232)) with
          | false => rw [hb] at e; cases e
          | true =>
            rw [hb] at e; simp only [cond_true] at e
            exact local_kill e fun ρ2 ha β K' => by
              have q := (ha (br k) List.mem_cons_self).trans hbx
              simp only [evOp, hxn, evCall, hf, ha', ht', hTU, hT, heb, opnd_loc hX (ρ2 := ρ2) (fun r hr => ha r (by simp [hr])), opnd_loc hY (ρ2 := ρ2) (fun r hr => ha r (by simp [hr])), hvx, hys, q, hut', hsz, hb, cond_true]
        rename_i u xs g ys hvx hys
        split at e
        case h_2 => cases e
        rename_i hut hut' hsz
        cases hb : decide ((List.length xs + List.length ys) * eb ≤ 140737488351232) with
        | false => rw [hb] at e; cases e
        | true =>
          rw [hb] at e; simp only [cond_true] at e
          split at e
          · cases e
          · cases e
          · cases e
          · exact local_all e fun ρ2 ha β K' => by
              simp only [evOp, hxn, evCall, hf, ha', ht', hTU, hT, heb, opnd_loc hX (ρ2 := ρ2) (fun r hr => ha r), opnd_loc hY (ρ2 := ρ2) (fun r hr => ha r), hvx, hys, hut', hsz, hb, cond_true]
          · exact local_all e fun ρ2 ha β K' => by
              simp only [evOp, hxn, evCall, hf, ha', ht', hTU, hT, heb, opnd_loc hX (ρ2 := ρ2) (fun r hr => ha r), opnd_loc hY (ρ2 := ρ2) (fun r hr => ha r), hvx, hys, hut', hsz, hb, cond_true]
      · cases e
    all_goals (simp only [evOp] at e; cases e)

end
end Go.Abs
