/- The abstract machine, part 16: regions whose order is open, all orders. Own text of this session. -/
import Derived.Test.YtkkkjcpfahhhpaaDoorAbs15
import Derived.Orders
set_option linter.unusedVariables false
set_option linter.unusedSimpArgs false
namespace Go.Abs
open Go Go.RowKit

section
variable {P : Program} {gl : List (Nat × AVal)} {C : Cfg} {V0 V : Vis} {w0 : Base} {w : World} {x : Ctx} {ρ ρ1 ρ2 : St} {a : Act} {nt : Nat}
variable {α : Type} {z : α} {ops : List Oper}

/-! ### What names nothing that goes -/
theorem killA_id {k : Nat} : ∀ {A : AVal}, k ∉ menA A → killA k A = A := by
  intro A
  induction A with
  | bx j o => intro h; simp only [menA, List.mem_singleton] at h; simp only [killA, beq_false.2 (fun e => h (Eq.symm e) : ¬ j = k)]
  | bi j i o => intro h; simp only [menA, List.mem_singleton] at h; simp only [killA, beq_false.2 (fun e => h (Eq.symm e) : ¬ j = k)]
  | os j n => intro h; simp only [menA, List.mem_singleton] at h; simp only [killA, beq_false.2 (fun e => h (Eq.symm e) : ¬ j = k)]
  | pr a b iha ihb => intro h; simp only [menA, List.mem_append, not_or] at h; simp only [killA, iha h.1, ihb h.2]
  | cl f a b iha ihb => intro h; simp only [menA, List.mem_append, not_or] at h; simp only [killA, iha h.1, ihb h.2]
  | tu a iha => intro h; simp only [menA] at h; simp only [killA, iha h]
  | _ => intro _; rfl

theorem killL_id : ∀ {l : List Nat} {A : AVal}, (∀ k, k ∈ l → k ∉ menA A) → killL l A = A
  | [], A, _ => rfl
  | k :: l, A, h => by
    show killL l (killA k A) = A
    rw [killA_id (h k List.mem_cons_self)]
    exact killL_id (fun q hq => h q (List.mem_cons_of_mem _ hq))

theorem killA_jf {k : Nat} : ∀ {A : AVal}, jfA (killA k A) = true → killA k A = A := by
  intro A
  induction A with
  | bx j o => intro h; simp only [killA] at h ⊢; split at h <;> simp_all [jfA]
  | bi j i o => intro h; simp only [killA] at h ⊢; split at h <;> simp_all [jfA]
  | os j n => intro h; simp only [killA] at h ⊢; split at h <;> simp_all [jfA]
  | pr a b iha ihb =>
    intro h
    simp only [killA, jfA] at h ⊢
    split at h
    · rename_i h1; rw [iha h1, ihb h]
    · cases h
  | cl f a b iha ihb =>
    intro h
    simp only [killA, jfA] at h ⊢
    split at h
    · rename_i h1; rw [iha h1, ihb h]
    · cases h
  | tu a iha => intro h; simp only [killA, jfA] at h ⊢; rw [iha h]
  | _ => intro _; rfl

theorem killL_jf : ∀ {l : List Nat} {A : AVal}, jfA (killL l A) = true → killL l A = A
  | [], A, _ => rfl
  | k :: l, A, h => by
    have h1 : killL l (killA k A) = killA k A := killL_jf h
    show killL l (killA k A) = A
    have h2 : jfA (killL l (killA k A)) = true := h
    rw [h1] at h2 ⊢
    exact killA_jf h2

theorem menR_mem {ρ : St} {k r : Nat} {A : AVal} : ∀ {l : List Nat}, r ∈ l → get ρ r = some A → k ∈ menA A → k ∈ menR ρ l
  | q :: l, hr, hA, hk => by
    simp only [menR]
    rcases List.mem_cons.1 hr with rfl | hr
    · rw [hA]; exact List.mem_append_left _ hk
    · split
      · exact List.mem_append_right _ (menR_mem hr hA hk)
      · exact menR_mem hr hA hk

theorem jfR_mem {ρ : St} {r : Nat} {A : AVal} : ∀ {l : List Nat}, jfR ρ l = true → r ∈ l → get ρ r = some A → jfA A = true
  | q :: l, h, hr, hA => by
    simp only [jfR] at h
    rcases List.mem_cons.1 hr with rfl | hr
    · rw [hA] at h
      simp only at h
      split at h
      · assumption
      · cases h
    · split at h
      · split at h
        · exact jfR_mem h hr hA
        · cases h
      · exact jfR_mem h hr hA

theorem menR_ext {ρ ρ2 : St} : ∀ {l : List Nat}, (∀ r, r ∈ l → get ρ2 r = get ρ r) → menR ρ2 l = menR ρ l
  | [], _ => rfl
  | q :: l, h => by simp only [menR, h q List.mem_cons_self, menR_ext (fun r hr => h r (List.mem_cons_of_mem _ hr))]
theorem jfR_ext {ρ ρ2 : St} : ∀ {l : List Nat}, (∀ r, r ∈ l → get ρ2 r = get ρ r) → jfR ρ2 l = jfR ρ l
  | [], _ => rfl
  | q :: l, h => by simp only [jfR, h q List.mem_cons_self, jfR_ext (fun r hr => h r (List.mem_cons_of_mem _ hr))]
theorem footM_ext {ρ ρ' ρ2 ρ2' : St} {rd wr kl : List Nat} (h1 : ∀ r, r ∈ rd → get ρ2 r = get ρ r) (h2 : ∀ r, r ∈ wr → get ρ2' r = get ρ' r) : footM ρ2 ρ2' (some (rd, wr, kl)) = footM ρ ρ' (some (rd, wr, kl)) := by
  simp only [footM, menR_ext h1, menR_ext h2, jfR_ext h1]

theorem meets_false : ∀ {l q : List Nat}, meets l q = false → ∀ r, r ∈ l → r ∉ q
  | [], q, _, r, hr => by cases hr
  | s :: l, q, h, r, hr => by
    simp only [meets] at h
    split at h
    · cases h
    · rename_i hm
      rcases List.mem_cons.1 hr with rfl | hr
      · intro hq; rw [mem_iff.2 hq] at hm; cases hm
      · exact meets_false h r hr

/-- What was read and written names nothing that goes. -/
theorem kill_same {ρ : St} {kl l m : List Nat} (hm : ∀ r, r ∈ kl → r ∉ m) (hl : ∀ k, k ∈ menR ρ l → k ∈ m) {r : Nat} (hr : r ∈ l) : (get ρ r).map (killL kl) = get ρ r := by
  cases hA : get ρ r with
  | none => rfl
  | some A =>
    show some (killL kl A) = some A
    rw [killL_id (fun k hk hc => hm k hk (hl k (menR_mem hr hA hc)))]

/-- One operation's step, its guard looked at. -/
inductive Stp (C : Cfg) (ops : List Oper) (o : Oper) : St → Foot → St → Prop
  | plain {ρ ρ1 : St} {f : Foot} (hd : dstOk C o = true) (hg : o.guard = none) (h : ∀ (β : Type) (K' : St → Foot → Option β), evOp C ρ o K' = K' ρ1 f) : Stp C ops o ρ f ρ1
  | on {ρ ρ0 ρ1 : St} {f : Foot} {j g d : Nat} {b : Bool} (hd : dstOk C o = true) (hg : o.guard = some (j, b)) (hj : (ops[j]?).bind (·.dst) = some g)
      (hdst : o.dst = some d) (hb : get ρ (tr g) = some (.b b)) (h0 : ∀ r, get ρ0 r = get ρ r)
      (h : ∀ (β : Type) (K' : St → Foot → Option β), evOp C ρ0 o K' = K' ρ1 f) : Stp C ops o ρ (addRd g f) ρ1
  | off {ρ ρ1 : St} {j g d : Nat} {b : Bool} (hd : dstOk C o = true) (hg : o.guard = some (j, b)) (hj : (ops[j]?).bind (·.dst) = some g)
      (hdst : o.dst = some d) (hb : get ρ (tr g) = some (.b !b) ∨ get ρ (tr g) = some .nd) (h : ∀ r, get ρ1 r = get (put (tr d) .nd ρ) r) : Stp C ops o ρ (some ([tr g], [tr d], [])) ρ1

theorem local_dir {o : Oper} {f : Foot} (h : ∀ (β : Type) (K' : St → Foot → Option β), evOp C ρ o K' = K' ρ1 f) :
    (∀ rd wr kl, f = some (rd, wr, kl) → (∀ r, r ∉ wr → get ρ1 r = (get ρ r).map (killL kl)) ∧ ∀ ρ2, (∀ r, r ∈ rd → get ρ2 r = get ρ r) →
      ∃ ρ3, (∀ (β : Type) (K' : St → Foot → Option β), evOp C ρ2 o K' = K' ρ3 f) ∧ (∀ r, r ∈ wr → get ρ3 r = get ρ1 r) ∧ (∀ r, r ∉ wr → get ρ3 r = (get ρ2 r).map (killL kl))) ∧
    (f = none → ∀ ρ2, (∀ r, get ρ2 r = get ρ r) → ∃ ρ3, (∀ (β : Type) (K' : St → Foot → Option β), evOp C ρ2 o K' = K' ρ3 f) ∧ ∀ r, get ρ3 r = get ρ1 r) := by
  obtain ⟨ρ1', f', e, h1, h2⟩ := evOp_local (C := C) (ρ := ρ) (o := o) (K := fun ρ f => some (ρ, f)) (z := (ρ1, f)) (h _ _)
  cases e
  exact h2

theorem Stp.loc {o : Oper} {rd wr kl : List Nat} (h : Stp C ops o ρ (some (rd, wr, kl)) ρ1) : (∀ r, r ∉ wr → get ρ1 r = (get ρ r).map (killL kl)) ∧ ∀ ρ2, (∀ r, r ∈ rd → get ρ2 r = get ρ r) →
    ∃ ρ3, Stp C ops o ρ2 (some (rd, wr, kl)) ρ3 ∧ (∀ r, r ∈ wr → get ρ3 r = get ρ1 r) ∧ (∀ r, r ∉ wr → get ρ3 r = (get ρ2 r).map (killL kl)) := by
  generalize hf : (some (rd, wr, kl) : Foot) = f at h
  cases h with
  | plain hd hg h =>
    obtain ⟨h1, h2⟩ := (local_dir h).1 _ _ _ hf.symm
    refine ⟨h1, fun ρ2 ha => ?_⟩
    obtain ⟨ρ3, q1, q2, q3⟩ := h2 ρ2 ha
    exact ⟨ρ3, .plain hd hg q1, q2, q3⟩
  | @on ρ0 _ f j g d b hd hg hj hdst hb h0 h =>
    cases f with
    | none => cases hf
    | some q =>
      obtain ⟨rd', wr', kl'⟩ := q
      simp only [addRd, Option.some.injEq, Prod.mk.injEq] at hf
      obtain ⟨hr, hw, hk⟩ := hf
      subst hw hk
      obtain ⟨h1, h2⟩ := (local_dir h).1 _ _ _ rfl
      refine ⟨fun r hr => (h1 r hr).trans (by rw [h0 r]), fun ρ2 ha => ?_⟩
      obtain ⟨ρ3, q1, q2, q3⟩ := h2 ρ2 (fun r hr' => (ha r (by rw [hr]; exact List.mem_cons_of_mem _ hr')).trans (h0 r).symm)
      have := Stp.on (C := C) (ops := ops) (ρ := ρ2) (ρ0 := ρ2) hd hg hj hdst ((ha (tr g) (by rw [hr]; exact List.mem_cons_self)).trans hb) (fun _ => rfl) q1
      exact ⟨ρ3, this, q2, q3⟩
  | @off _ j g d b hd hg hj hdst hb h =>
    cases hf
    simp only [map_kill0]
    refine ⟨fun r hr => (h r).trans (by rw [get_put, if_neg (fun e => hr (by simp [e]))]), fun ρ2 ha => ?_⟩
    refine ⟨put (tr d) .nd ρ2, .off hd hg hj hdst (by rw [ha _ (by simp)]; exact hb) (fun _ => rfl), fun r hr => ?_, fun r hr => ?_⟩
    · simp only [List.mem_singleton] at hr; subst hr; rw [h, get_put, get_put, if_pos rfl, if_pos rfl]
    · rw [get_put, if_neg (fun e => hr (by simp [e]))]

theorem Stp.congr {o : Oper} {f : Foot} (h : Stp C ops o ρ f ρ1) (ha : ∀ r, get ρ2 r = get ρ r) : ∃ ρ3, Stp C ops o ρ2 f ρ3 ∧ ∀ r, get ρ3 r = get ρ1 r := by
  cases f with
  | some q =>
    obtain ⟨rd, wr, kl⟩ := q
    obtain ⟨h1, h2⟩ := h.loc
    obtain ⟨ρ3, q1, q2, q3⟩ := h2 ρ2 (fun r _ => ha r)
    refine ⟨ρ3, q1, fun r => ?_⟩
    by_cases hr : r ∈ wr
    · exact q2 r hr
    · rw [q3 r hr, ha, h1 r hr]
  | none =>
    generalize hf : (none : Foot) = f at h
    cases h with
    | plain hd hg h =>
      obtain ⟨ρ3, q1, q2⟩ := (local_dir h).2 hf.symm ρ2 ha
      exact ⟨ρ3, .plain hd hg q1, q2⟩
    | @on ρ0 _ f j g d b hd hg hj hdst hb h0 h =>
      cases f with
      | none =>
        obtain ⟨ρ3, q1, q2⟩ := (local_dir h).2 rfl ρ2 (fun r => (ha r).trans (h0 r).symm)
        exact ⟨ρ3, .on (f := none) hd hg hj hdst ((ha _).trans hb) (fun _ => rfl) q1, q2⟩
      | some q => cases hf
    | off hd hg hj hdst hb h => cases hf

theorem footM_congr {f : Foot} {ρ' ρ2' : St} (h1 : ∀ r, get ρ2 r = get ρ r) (h2 : ∀ r, get ρ2' r = get ρ' r) : footM ρ2 ρ2' f = footM ρ ρ' f := by
  cases f with
  | none => rfl
  | some q => obtain ⟨rd, wr, kl⟩ := q; exact footM_ext (fun r _ => h1 r) (fun r _ => h2 r)

/-- A list of operations, in that order. -/
inductive Evals (C : Cfg) (ops : List Oper) : List (Nat × Oper × FootM) → St → St → Prop
  | nil {ρ ρ' : St} (h : ∀ r, get ρ r = get ρ' r) : Evals C ops [] ρ ρ'
  | cons {i : Nat} {o : Oper} {f : Foot} {m : FootM} {l : List (Nat × Oper × FootM)} {ρ ρ1 ρ' : St} (h : Stp C ops o ρ f ρ1) (hm : m = footM ρ ρ1 f) (t : Evals C ops l ρ1 ρ') : Evals C ops ((i, o, m) :: l) ρ ρ'

theorem Evals.congr {l : List (Nat × Oper × FootM)} {ρ' : St} (h : Evals C ops l ρ ρ') : ∀ {ρ2 : St}, (∀ r, get ρ2 r = get ρ r) → Evals C ops l ρ2 ρ' := by
  induction h with
  | nil h => intro ρ2 ha; exact .nil fun r => (ha r).trans (h r)
  | cons h hm t ih =>
    intro ρ2 ha
    obtain ⟨ρ3, q1, q2⟩ := h.congr ha
    exact .cons q1 (hm.trans (footM_congr ha q2).symm) (ih q2)

theorem Stp.swap {o1 o2 : Oper} {f1 f2 : Foot} {σ : St} (h1 : Stp C ops o1 ρ f1 ρ1) (h2 : Stp C ops o2 ρ1 f2 σ) (hc : clash (footM ρ ρ1 f1) (footM ρ1 σ f2) = false) :
    ∃ ρ3 σ', Stp C ops o2 ρ f2 ρ3 ∧ Stp C ops o1 ρ3 f1 σ' ∧ (∀ r, get σ' r = get σ r) ∧ footM ρ ρ3 f2 = footM ρ1 σ f2 ∧ footM ρ3 σ' f1 = footM ρ ρ1 f1 := by
  cases f1 with
  | none => cases f2 <;> cases hc
  | some p1 =>
  cases f2 with
  | none => cases hc
  | some p2 =>
    obtain ⟨rd1, wr1, kl1⟩ := p1
    obtain ⟨rd2, wr2, kl2⟩ := p2
    simp only [clash, footM] at hc
    split at hc
    · cases hc
    rename_i c1
    split at hc
    · cases hc
    rename_i c2
    split at hc
    · cases hc
    rename_i c3
    have m1 := meets_false c1
    have m2 := meets_false c2
    have m3 := meets_false c3
    obtain ⟨a1, b1⟩ := h1.loc
    obtain ⟨a2, b2⟩ := h2.loc
    -- what the other one's kills do to what is read and written
    have k2 : ∀ {kl}, kl1 = [] → kl2 = kl → (∀ r, r ∈ rd1 → (get ρ r).map (killL kl) = get ρ r) ∧ (∀ r, r ∈ wr1 → (get ρ1 r).map (killL kl) = get ρ1 r) := fun {kl} e1 e2 => by
      subst e1 e2
      cases kl2 with
      | nil => exact ⟨fun r _ => map_kill0 _, fun r _ => map_kill0 _⟩
      | cons q l =>
        have hm := meets_false (show meets (q :: l) (menR ρ rd1 ++ menR ρ1 wr1) = false from hc)
        exact ⟨fun r hr => kill_same hm (fun k hk => List.mem_append_left _ hk) hr, fun r hr => kill_same hm (fun k hk => List.mem_append_right _ hk) hr⟩
    have k1 : kl2 = [] → (∀ r, r ∈ rd2 → get ρ r = get ρ1 r) ∧ (∀ r, r ∈ wr2 → (get σ r).map (killL kl1) = get σ r) := fun e2 => by
      subst e2
      cases kl1 with
      | nil => exact ⟨fun r hr => ((a1 r (fun hw => m1 r hw hr)).trans (map_kill0 _)).symm, fun r _ => map_kill0 _⟩
      | cons q l =>
        simp only [clashK] at hc
        split at hc
        case h_2 => cases hc
        rename_i hj
        have hm := meets_false hc
        refine ⟨fun r hr => ?_, fun r hr => kill_same hm (fun k hk => List.mem_append_right _ hk) hr⟩
        have h := a1 r (fun hw => m1 r hw hr)
        cases hA : get ρ r with
        | none => rw [hA] at h; exact h.symm
        | some A =>
          rw [hA] at h
          have h' : get ρ1 r = some (killL (q :: l) A) := h
          rw [h', killL_jf (jfR_mem hj hr h')]
    have hor : kl1 = [] ∨ kl2 = [] := by
      cases kl1 with
      | nil => exact .inl rfl
      | cons q l => cases kl2 with
        | nil => exact .inr rfl
        | cons q' l' => cases hc
    rcases hor with e1 | e2
    · -- the first one kills nothing
      obtain ⟨p1, p2⟩ := k2 (kl := kl2) e1 rfl
      subst e1
      simp only [map_kill0] at a1 b1
      obtain ⟨ρ3, s1, s2, s3⟩ := b2 ρ (fun r hr => (a1 r (fun hw => m1 r hw hr)).symm)
      obtain ⟨σ', t1, t2, t3⟩ := b1 ρ3 (fun r hr => (s3 r (m3 r hr)).trans (p1 r hr))
      refine ⟨ρ3, σ', s1, t1, fun r => ?_, footM_ext (fun r hr => (a1 r (fun hw => m1 r hw hr)).symm) s2, footM_ext (fun r hr => (s3 r (m3 r hr)).trans (p1 r hr)) t2⟩
      by_cases hr1 : r ∈ wr1
      · rw [t2 r hr1, a2 r (m2 r hr1), p2 r hr1]
      · rw [t3 r hr1]
        by_cases hr2 : r ∈ wr2
        · exact s2 r hr2
        · rw [s3 r hr2, a2 r hr2, a1 r hr1]
    · -- the second one kills nothing
      obtain ⟨p1, p2⟩ := k1 e2
      subst e2
      simp only [map_kill0] at a2 b2
      obtain ⟨ρ3, s1, s2, s3⟩ := b2 ρ p1
      obtain ⟨σ', t1, t2, t3⟩ := b1 ρ3 (fun r hr => s3 r (m3 r hr))
      refine ⟨ρ3, σ', s1, t1, fun r => ?_, footM_ext p1 s2, footM_ext (fun r hr => s3 r (m3 r hr)) t2⟩
      by_cases hr1 : r ∈ wr1
      · rw [t2 r hr1, a2 r (m2 r hr1)]
      · rw [t3 r hr1]
        by_cases hr2 : r ∈ wr2
        · rw [s2 r hr2]; exact p2 r hr2
        · rw [s3 r hr2, a2 r hr2, a1 r hr1]

theorem Evals.front {it : Nat × Oper × FootM} {l2 : List (Nat × Oper × FootM)} {ρ' : St} : ∀ {l1 : List (Nat × Oper × FootM)} {ρ : St}, Evals C ops (l1 ++ it :: l2) ρ ρ' →
    (∀ q, q ∈ l1 → clash q.2.2 it.2.2 = false) → Evals C ops (it :: (l1 ++ l2)) ρ ρ'
  | [], ρ, h, _ => h
  | q :: l1, ρ, h, hc => by
    cases h with
    | cons hq hm ht =>
      cases Evals.front ht (fun q hq => hc q (List.mem_cons_of_mem _ hq)) with
      | cons h1 hm1 h2 =>
        have hcl := hc _ List.mem_cons_self
        simp only at hcl
        rw [hm, hm1] at hcl
        obtain ⟨ρ3, σ', s1, s2, s3, s4, s5⟩ := hq.swap h1 hcl
        exact .cons s1 (hm1.trans s4.symm) (.cons s2 (hm.trans s5.symm) (h2.congr s3))

theorem evOps_evals {K : St → List FootM → Option α} : ∀ {l : List Oper} {n : Nat} {ρ : St} {F : List FootM}, evOps C ops l ρ F K = some z →
    ∃ its ρf, Evals C ops its ρ ρf ∧ K ρf ((its.map (·.2.2)).reverse ++ F) = some z ∧ its.map (·.1) = List.range' n l.length ∧ its.map (·.2.1) = l
  | [], n, ρ, F, e => ⟨[], ρ, .nil (fun _ => rfl), e, rfl, rfl⟩
  | o :: l, n, ρ, F, e => by
    have fin : ∀ {ρ1 : St} {f : Foot}, Stp C ops o ρ f ρ1 → evOps C ops l ρ1 (footM ρ ρ1 f :: F) K = some z →
        ∃ its ρf, Evals C ops its ρ ρf ∧ K ρf ((its.map (·.2.2)).reverse ++ F) = some z ∧ its.map (·.1) = List.range' n (o :: l).length ∧ its.map (·.2.1) = o :: l := by
      intro ρ1 f hs e
      obtain ⟨its, ρf, h1, h2, h3, h4⟩ := evOps_evals (n := n + 1) e
      refine ⟨(n, o, footM ρ ρ1 f) :: its, ρf, .cons hs rfl h1, ?_, ?_, ?_⟩
      · simpa using h2
      · simp [h3, List.range'_succ]
      · simp [h4]
    simp only [evOps] at e
    split at e
    · cases e
    · rename_i hd hg
      obtain ⟨ρ1, f, e1, h1, _⟩ := evOp_local e
      exact fin (.plain hd hg h1) e1
    · rename_i j wnt hd hg
      split at e
      case h_2 => cases e
      rename_i g d hj hdst
      split at e
      · rename_i b hb
        cases b with
        | true =>
          simp only [cond_true] at e
          cases wnt with
          | true =>
            obtain ⟨ρ1, f, e1, h1, _⟩ := evOp_local e
            exact fin (.on hd hg hj hdst hb (get_put_self hb) h1) e1
          | false =>
            exact fin (.off hd hg hj hdst (.inl hb) (fun r => by rw [get_put, get_put_self hb, get_put])) e
        | false =>
          simp only [cond_false] at e
          cases wnt with
          | false =>
            obtain ⟨ρ1, f, e1, h1, _⟩ := evOp_local e
            exact fin (.on hd hg hj hdst hb (get_put_self hb) h1) e1
          | true =>
            exact fin (.off hd hg hj hdst (.inl hb) (fun r => by rw [get_put, get_put_self hb, get_put])) e
      · rename_i hb
        exact fin (.off hd hg hj hdst (.inr hb) (fun _ => rfl)) e
      · cases e

/-- One step, on the machine. -/
theorem Stp.sound (hC : CfgOk P gl C) {Q : Exit → Act → World → Prop} {K : Act → World → Prop} {i : Nat} {o : Oper} {f : Foot} (hi : ops[i]? = some o) (hs : Stp C ops o ρ f ρ1)
    (h : R gl V0 w0 C.nt x ρ a w) (hK : ∀ x' a' w', R gl V0 w0 C.nt x' ρ1 a' w' → K a' w') : wpOp P ops.toArray Q i K a w := by
  unfold wpOp
  rw [List.getElem?_toArray, hi]
  simp only
  cases hs with
  | plain hd hg he =>
    rw [if_pos (by simp [Region.wanted, hg])]
    obtain ⟨ρ', f', e', hy⟩ := evOp_sound hC h hd (he _ (fun ρ f => some (ρ, f)))
    cases e'
    exact .inl (hy _ _ hK)
  | on hd hg hj hdst hb h0 he =>
    have hyb := yielded_bool h hj hb
    rw [if_pos (by simp [Region.wanted, hg, hyb])]
    obtain ⟨ρ', f', e', hy⟩ := evOp_sound hC (h.congr (fun r => (h0 r).symm)) hd (he _ (fun ρ f => some (ρ, f)))
    cases e'
    exact .inl (hy _ _ hK)
  | @off _ j g d b hd hg hj hdst hb he =>
    have hlt := dst_lt hd hdst
    have hw : Region.wanted o (yielded ops.toArray a.tmps) = false := by
      rcases hb with hb | hb
      · have hyb := yielded_bool h hj hb
        cases b <;> simp [Region.wanted, hg, hyb]
      · have hyb := yielded_nd h hj hb
        simp [Region.wanted, hg, hyb]
    rw [if_neg (by simp [hw]), hdst]
    exact hK _ _ _ ((h.skip hlt).congr (fun r => (he r).symm))

/-- Who waits for whom. -/
inductive Pre (ops : List Oper) : Nat → Nat → Prop
  | one {j : Nat} {o : Oper} {e : Edge} (ho : ops[j]? = some o) (he : e ∈ o.after.toList) (hb : Region.binds .any e = true) : Pre ops e.on j
  | far {i j : Nat} {o : Oper} {e : Edge} (ho : ops[j]? = some o) (he : e ∈ o.after.toList) (hb : Region.binds .any e = true) (hp : Pre ops i e.on) : Pre ops i j

theorem maskOf_spec {acc : List Nat} {q j : Nat} {o : Oper} (ho : ops[j]? = some o) (ha : ∀ k m, acc[k]? = some m → m.testBit q = true → Pre ops q k) :
    ∀ {l : List Edge}, (∀ e, e ∈ l → e ∈ o.after.toList) → (maskOf acc l).testBit q = true → Pre ops q j
  | [], _, h => by simp [maskOf] at h
  | e :: l, hl, h => by
    simp only [maskOf] at h
    split at h
    · rename_i hb
      simp only [Nat.testBit_or, Bool.or_eq_true, Nat.testBit_two_pow, decide_eq_true_eq] at h
      rcases h with h | h | h
      · subst h; exact .one ho (hl _ List.mem_cons_self) hb
      · rw [List.getD_eq_getElem?_getD] at h
        cases hk : acc[e.on]? with
        | none => rw [hk] at h; simp at h
        | some m =>
          rw [hk] at h
          exact .far ho (hl _ List.mem_cons_self) hb (ha _ _ hk h)
      · exact maskOf_spec ho ha (fun e he => hl e (List.mem_cons_of_mem _ he)) h
    · exact maskOf_spec ho ha (fun e he => hl e (List.mem_cons_of_mem _ he)) h

theorem masks_spec {q : Nat} : ∀ {l : List Oper} {acc : List Nat}, (∀ k, l[k]? = ops[acc.length + k]?) → (∀ k m, acc[k]? = some m → m.testBit q = true → Pre ops q k) →
    ∀ k m, (masks l acc)[k]? = some m → m.testBit q = true → Pre ops q k
  | [], acc, _, ha => ha
  | o :: l, acc, hl, ha => by
    simp only [masks]
    refine masks_spec (fun k => ?_) (fun k m hk hm => ?_)
    · have := hl (k + 1)
      simp only [List.getElem?_cons_succ, List.length_append, List.length_singleton] at this ⊢
      rw [this]; congr 1; omega
    · rcases Nat.lt_trichotomy k acc.length with h | h | h
      · rw [List.getElem?_append_left h] at hk; exact ha k m hk hm
      · subst h
        rw [List.getElem?_append_right (Nat.le_refl _)] at hk
        simp at hk
        subst hk
        have ho := hl 0
        simp at ho
        exact maskOf_spec ho.symm ha (fun e he => he) hm
      · rw [List.getElem?_eq_none (by simp; omega)] at hk; cases hk

theorem backE_spec {n : Nat} : ∀ {l : List Edge}, backE n l = true → ∀ e, e ∈ l → Region.binds .any e = true → e.on < n
  | [], _, e, he, _ => by cases he
  | e' :: l, h, e, he, hb => by
    simp only [backE] at h
    split at h
    · cases h
    · rename_i hh
      rcases List.mem_cons.1 he with rfl | he
      · cases hq : Nat.blt e.on n with
        | true => exact Nat.le_of_ble_eq_true hq
        | false => exact absurd hq (hh hb)
      · exact backE_spec h e he hb

theorem backOk_spec : ∀ {l : List Oper} {n : Nat}, backOk l n = true → ∀ k o, l[k]? = some o → ∀ e, e ∈ o.after.toList → Region.binds .any e = true → e.on < n + k
  | [], n, _, k, o, hk => by simp at hk
  | o' :: l, n, h, k, o, hk => by
    simp only [backOk] at h
    split at h
    case h_2 => cases h
    rename_i h1
    cases k with
    | zero => simp at hk; subst hk; exact backE_spec h1
    | succ k =>
      intro e he hb
      have := backOk_spec h k o (by simpa using hk) e he hb
      omega

theorem ordered1_spec {m : Nat} {f : FootM} : ∀ {l : List FootM} {i : Nat}, ordered1 m i f l = true → ∀ k g, l[k]? = some g → clash g f = true → m.testBit (i + k) = true
  | [], i, _, k, g, hk, _ => by simp at hk
  | g' :: l, i, h, k, g, hk, hc => by
    simp only [ordered1] at h
    split at h
    · rename_i hc'
      split at h
      case h_2 => cases h
      rename_i hm
      cases k with
      | zero => exact hm
      | succ k =>
        have := ordered1_spec h k g (by simpa using hk) hc
        rwa [Nat.add_assoc, Nat.add_comm 1] at this
    · rename_i hc'
      cases k with
      | zero => simp at hk; subst hk; rw [hc'] at hc; cases hc
      | succ k =>
        have := ordered1_spec h k g (by simpa using hk) hc
        rwa [Nat.add_assoc, Nat.add_comm 1] at this

theorem orderedAll_spec {F : List FootM} : ∀ {l : List FootM} {ms : List Nat} {n : Nat}, orderedAll F l ms n = true → ∀ k f, l[k]? = some f → ∀ i g, i < n + k → F[i]? = some g → clash g f = true →
    ∃ m, ms[k]? = some m ∧ m.testBit i = true
  | [], _, _, _, k, f, hk => by simp at hk
  | f' :: l, [], n, h, k, f, hk => by simp [orderedAll] at h
  | f' :: l, m :: ms, n, h, k, f, hk => by
    simp only [orderedAll] at h
    split at h
    case h_2 => cases h
    rename_i h1
    intro i g hi hg hc
    cases k with
    | zero =>
      simp at hk; subst hk
      refine ⟨m, rfl, ?_⟩
      have := ordered1_spec h1 i g (by rw [List.getElem?_take, if_pos (by omega)]; exact hg) hc
      rwa [Nat.zero_add] at this
    | succ k =>
      have := orderedAll_spec h k f (by simpa using hk) i g (by omega) hg hc
      simpa using this

/-- What is still to be done: the rest of the operations, in their order. -/
structure Rest (ops : List Oper) (its : List (Nat × Oper × FootM)) (listed : Array Bool) : Prop where
  inc : its.Pairwise (fun p q => p.1 < q.1)
  op : ∀ q, q ∈ its → ops[q.1]? = some q.2.1
  un : ∀ q, q ∈ its → listed.getD q.1 true = false
  all : ∀ i, listed.getD i true = false → ∃ q, q ∈ its ∧ q.1 = i
  ord : ∀ p q, p ∈ its → q ∈ its → p.1 < q.1 → clash p.2.2 q.2.2 = true → Pre ops p.1 q.1
  size : listed.size = ops.length
  cl : ∀ i o e, listed.getD i false = true → ops[i]? = some o → e ∈ o.after.toList → Region.binds .any e = true → listed.getD e.on false = true

theorem getD_TF {listed : Array Bool} {i : Nat} (h : listed.getD i true = false) : listed.getD i false = false := by
  simp only [Array.getD_eq_getD_getElem?] at h ⊢
  cases hq : listed[i]? with
  | none => rfl
  | some b => rw [hq] at h; exact h

theorem getD_lt {listed : Array Bool} {i : Nat} (h : listed.getD i true = false) : i < listed.size := by
  rcases Nat.lt_or_ge i listed.size with h' | h'
  · exact h'
  · simp [Array.getElem?_eq_none h'] at h

theorem Pre.listed {listed : Array Bool} {i j : Nat} (hp : Pre ops i j)
    (cl : ∀ i o e, listed.getD i false = true → ops[i]? = some o → e ∈ o.after.toList → Region.binds .any e = true → listed.getD e.on false = true)
    (hr : ∀ o e, ops[j]? = some o → e ∈ o.after.toList → Region.binds .any e = true → listed.getD e.on false = true) : listed.getD i false = true := by
  induction hp with
  | one ho he hb => exact hr _ _ ho he hb
  | far ho he hb hp ih => exact ih (fun o e' ho' he' hb' => cl _ _ _ (hr _ _ ho he hb) ho' he' hb')

theorem wpAny_of (hC : CfgOk P gl C) {Q : Exit → Act → World → Prop} {ρf : St} (hb : ∀ k o, ops[k]? = some o → ∀ e, e ∈ o.after.toList → Region.binds .any e = true → e.on < k)
    (hK : ∀ x' a' w', R gl V0 w0 C.nt x' ρf a' w' → Q .normal a' w') :
    ∀ (fuel : Nat) {its : List (Nat × Oper × FootM)} {listed : Array Bool} {ρ : St} {x : Ctx} {a : Act} {w : World}, its.length ≤ fuel → Rest ops its listed → Evals C ops its ρ ρf →
      R gl V0 w0 C.nt x ρ a w → wpAny P .any ops.toArray Q fuel listed a w := by
  have nil : ∀ {its : List (Nat × Oper × FootM)} {listed : Array Bool} {ρ : St} {x : Ctx} {a : Act} {w : World}, its = [] → Evals C ops its ρ ρf → R gl V0 w0 C.nt x ρ a w → Q .normal a w := by
    intro its listed ρ x a w hn he h
    subst hn
    cases he with
    | nil hh => exact hK _ _ _ (h.congr hh)
  intro fuel
  induction fuel with
  | zero =>
    intro its listed ρ x a w hl hr he h
    have hn : its = [] := List.length_eq_zero_iff.1 (by omega)
    refine ⟨?_, nil (listed := listed) hn he h⟩
    cases hrd : Region.ready .any ops.toArray listed with
    | nil => rfl
    | cons j js =>
      have := (mem_ready.1 (hrd ▸ List.mem_cons_self : j ∈ Region.ready .any ops.toArray listed)).1
      obtain ⟨q, hq, _⟩ := hr.all j this
      rw [hn] at hq; cases hq
  | succ fuel ih =>
    intro its listed ρ x a w hl hr he h
    refine ⟨fun hrd => ?_, fun j hj => ?_⟩
    · -- the first that is left could go
      cases its with
      | nil => exact nil (listed := listed) rfl he h
      | cons q l =>
        exfalso
        have hu := hr.un q List.mem_cons_self
        have ho := hr.op q List.mem_cons_self
        have hm : q.1 ∈ Region.ready .any ops.toArray listed := by
          rw [mem_ready]
          refine ⟨hu, q.2.1, by rw [List.getElem?_toArray]; exact ho, fun e he' hbe => ?_⟩
          have hlt := hb _ _ ho e (Array.mem_toList_iff.2 he') hbe
          cases hg : listed.getD e.on false with
          | true => rfl
          | false =>
            exfalso
            have hlt2 : e.on < listed.size := Nat.lt_trans hlt (getD_lt hu)
            have hg' : listed.getD e.on true = false := by
              simp only [Array.getD_eq_getD_getElem?] at hg ⊢
              rw [Array.getElem?_eq_getElem hlt2] at hg ⊢
              exact hg
            obtain ⟨p, hp, hpe⟩ := hr.all _ hg'
            rcases List.mem_cons.1 hp with rfl | hp
            · omega
            · have := (List.pairwise_cons.1 hr.inc).1 p hp
              omega
        rw [hrd] at hm; cases hm
    · obtain ⟨hu, o, ho, hall⟩ := mem_ready.1 hj
      rw [List.getElem?_toArray] at ho
      obtain ⟨q, hq, rfl⟩ := hr.all j hu
      obtain ⟨l1, l2, rfl⟩ := List.append_of_mem hq
      have hop := hr.op q hq
      rw [ho] at hop; cases hop
      have hinc := List.pairwise_append.1 hr.inc
      have hfr := he.front (fun p hp => by
        cases hc : clash p.2.2 q.2.2 with
        | false => rfl
        | true =>
          exfalso
          have hlt := hinc.2.2 p hp q List.mem_cons_self
          have hpre := hr.ord p q (by simp [hp]) hq hlt hc
          have := hpre.listed hr.cl (fun o' e ho' he' hb' => by
            rw [ho] at ho'; cases ho'
            exact hall e (Array.mem_toList_iff.1 he') hb')
          rw [getD_TF (hr.un p (by simp [hp]))] at this
          cases this)
      have hmem : ∀ p, p ∈ l1 ++ l2 → p ∈ l1 ++ q :: l2 := fun p hp => by
        rcases List.mem_append.1 hp with hp | hp <;> simp [hp]
      have hne : ∀ p, p ∈ l1 ++ l2 → q.1 ≠ p.1 := fun p hp => by
        rcases List.mem_append.1 hp with hp | hp
        · have := hinc.2.2 p hp q List.mem_cons_self; omega
        · have := (List.pairwise_cons.1 hinc.2.1).1 p hp; omega
      obtain ⟨i, o, f⟩ := q
      cases hfr with
      | cons hs hm ht =>
        refine hs.sound hC ho h fun x' a' w' h' => ?_
        refine ih (its := l1 ++ l2) ?_ ?_ ht h'
        · simp at hl ⊢; omega
        · refine ⟨?_, fun p hp => hr.op p (hmem p hp), fun p hp => ?_, fun k hk => ?_, fun p p' hp hp' => hr.ord p p' (hmem p hp) (hmem p' hp'), ?_, ?_⟩
          · exact List.Pairwise.sublist (List.Sublist.append_left (List.sublist_cons_self _ _) _) hr.inc
          · rw [getD_set_ne true (hne p hp)]; exact hr.un p (hmem p hp)
          · by_cases hki : i = k
            · subst hki
              have hlt := getD_lt hu
              simp [hlt] at hk
            · rw [getD_set_ne true hki] at hk
              obtain ⟨p, hp, rfl⟩ := hr.all k hk
              refine ⟨p, ?_, rfl⟩
              rcases List.mem_append.1 hp with hp | hp
              · exact List.mem_append_left _ hp
              · rcases List.mem_cons.1 hp with rfl | hp
                · exact absurd rfl hki
                · exact List.mem_append_right _ hp
          · simp [hr.size]
          · intro k o' e hk ho' he' hb'
            refine getD_set_true ?_
            by_cases hki : i = k
            · subst hki
              rw [ho] at ho'; cases ho'
              exact hall e (Array.mem_toList_iff.1 he') hb'
            · rw [getD_set_ne false hki] at hk
              exact hr.cl k o' e hk ho' he' hb'

theorem R.drew (h : R gl V0 w0 nt x ρ a w) : R gl V0 w0 nt x ρ a { w with drawn := w.drawn + 1 } :=
  ⟨⟨h.good.vis, h.good.grow, h.good.old, h.good.box, h.good.sgs, h.good.inj, h.good.tag, h.good.tinj, h.good.bel.drew, h.good.clo, h.good.gok, h.good.pin⟩, h.slots, h.defs, h.size, h.pk⟩

theorem region_draw (hm : P.follows .mixedOrders = true) (hC : CfgOk P gl C) {id : Nat} {ops : Array Oper} {Q : Exit → Act → World → Prop} {K : St → Option α}
    (e : evOps C ops.toList ops.toList ρ [] (fun ρ' F => match drawOk ops.toList F.reverse with | true => K ρ' | false => none) = some z) (h : R gl V0 w0 C.nt x ρ a w)
    (hK : ∀ ρ' x' a' w', K ρ' = some z → R gl V0 w0 C.nt x' ρ' a' w' → Q .normal a' w') : (Code.region id ops true).wp P Q a w := by
  refine wp_region_any hm ?_
  obtain ⟨its, ρf, h1, h2, h3, h4⟩ := evOps_evals (n := 0) e
  simp only [List.append_nil, List.reverse_reverse] at h2
  split at h2
  case h_2 => cases h2
  rename_i hd
  simp only [drawOk] at hd
  split at hd
  case h_2 => cases hd
  rename_i hb
  have hlen : its.length = ops.size := by
    have := congrArg List.length h4
    simpa using this
  have hix : ∀ (k : Nat) (q : Nat × Oper × FootM), its[k]? = some q → q.1 = k ∧ ops.toList[k]? = some q.2.1 := by
    intro k q hk
    constructor
    · have := congrArg (·[k]?) h3
      simp only [List.getElem?_map, hk, Option.map_some] at this
      obtain ⟨hlt, _⟩ := List.getElem?_eq_some_iff.1 hk
      rw [List.getElem?_range' (by simpa [hlen] using hlt)] at this
      simpa using this
    · have := congrArg (·[k]?) h4
      simp only [List.getElem?_map, hk, Option.map_some] at this
      exact this.symm
  have key : wpAny P .any ops.toList.toArray Q ops.size (Array.replicate ops.size false) a { w with drawn := w.drawn + 1 } := by
    refine wpAny_of (ops := ops.toList) hC (fun k o hk e he hbe => ?_) (fun x' a' w' => hK _ _ _ _ h2) ops.size (its := its) (by omega) ?_ h1 h.drew
    · have := backOk_spec hb k o hk e he hbe; omega
    · refine ⟨?_, fun q hq => ?_, fun q hq => ?_, fun i hi => ?_, fun p q hp hq hlt hc => ?_, by simp, ?_⟩
      · rw [← List.pairwise_map (f := fun (p : Nat × Oper × FootM) => p.1) (R := (· < ·)), h3]
        exact List.pairwise_lt_range'
      · obtain ⟨k, hk⟩ := List.getElem?_of_mem hq
        obtain ⟨e1, e2⟩ := hix k q hk
        rw [e1]; exact e2
      · obtain ⟨k, hk⟩ := List.getElem?_of_mem hq
        obtain ⟨e1, e2⟩ := hix k q hk
        obtain ⟨hlt, _⟩ := List.getElem?_eq_some_iff.1 hk
        rw [e1]
        simp [hlen ▸ hlt]
      · have hlt := getD_lt hi
        simp at hlt
        rw [← hlen] at hlt
        exact ⟨its[i], List.getElem_mem hlt, (hix i _ (List.getElem?_eq_getElem hlt)).1⟩
      · obtain ⟨k, hk⟩ := List.getElem?_of_mem hq
        obtain ⟨k', hk'⟩ := List.getElem?_of_mem hp
        obtain ⟨e1, e2⟩ := hix k q hk
        obtain ⟨e1', e2'⟩ := hix k' p hk'
        rw [e1, e1'] at hlt ⊢
        obtain ⟨m, hm1, hm2⟩ := orderedAll_spec hd k q.2.2 (by simp [hk]) k' p.2.2 (by omega) (by simp [hk']) hc
        exact masks_spec (ops := ops.toList) (fun k => by simp) (fun k m hk => by simp at hk) k m hm1 hm2
      · intro i o e hi
        simp [Array.getD_eq_getD_getElem?, Array.getElem?_replicate] at hi
        split at hi <;> simp at hi
  simpa using key

end
end Go.Abs
