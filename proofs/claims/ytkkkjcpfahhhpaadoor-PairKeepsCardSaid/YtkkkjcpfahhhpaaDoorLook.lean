/- Pairs: what the clerk keeps is what looking back tells. Own text of this session. -/
import Derived.Test.YtkkkjcpfahhhpaaDoorPair
set_option linter.unusedVariables false
set_option linter.unusedSimpArgs false
set_option linter.unusedSectionVars false
namespace Go.Inc
open Go Go.Abs

abbrev cliA (h : List Evt) (i : Nat) : Val := Ev.cli (h.getD i noE)
abbrev typA (h : List Evt) (i : Nat) : Int := Ev.typ (h.getD i noE)
theorem lastN_spec (h : List Evt) (c : Val) : ∀ i : Nat, (lastN h c i = -1 ∧ ∀ m, m < i → cliA h m ≠ c) ∨ ∃ k : Nat, k < i ∧ lastN h c i = (k : Int) ∧ cliA h k = c ∧ ∀ m, k < m → m < i → cliA h m ≠ c
  | 0 => .inl ⟨rfl, fun m hm => by omega⟩
  | i + 1 => by
    by_cases hc : cliA h i = c
    · exact .inr ⟨i, by omega, by rw [lastN, show (Ev.cli (h.getD i noE) == c) = true from beq_iff_eq.2 hc]; rfl, hc, fun m h1 h2 => by omega⟩
    · have hb : lastN h c (i + 1) = lastN h c i := by rw [lastN, show (Ev.cli (h.getD i noE) == c) = false from beq_eq_false_iff_ne.2 hc]; rfl
      rcases lastN_spec h c i with ⟨a, b⟩ | ⟨k, a, b, d, e⟩
      · exact .inl ⟨hb.trans a, fun m hm => by
          by_cases hq : m = i
          · subst hq; exact hc
          · exact b m (by omega)⟩
      · exact .inr ⟨k, by omega, hb.trans b, d, fun m h1 h2 => by
          by_cases hq : m = i
          · subst hq; exact hc
          · exact e m h1 (by omega)⟩
theorem lastN_succ (h : List Evt) (c : Val) (i : Nat) : lastN h c (i + 1) = bif cliA h i == c then (i : Int) else lastN h c i := rfl
theorem lastN_iff (h : List Evt) (c : Val) (i k : Nat) : lastN h c i = (k : Int) ↔ k < i ∧ cliA h k = c ∧ ∀ m, k < m → m < i → cliA h m ≠ c := by
  constructor
  · intro e
    rcases lastN_spec h c i with ⟨a, b⟩ | ⟨q, a, b, d, f⟩
    · omega
    · have : q = k := by omega
      subst this; exact ⟨a, d, f⟩
  · rintro ⟨a, b, d⟩
    rcases lastN_spec h c i with ⟨a', b'⟩ | ⟨q, a', b', d', f'⟩
    · exact absurd b (b' k a)
    · rcases Nat.lt_trichotomy q k with hq | hq | hq
      · exact absurd b (f' k hq a)
      · rw [b', hq]
      · exact absurd d' (d q hq a')
theorem nextN_spec (h : List Evt) (c : Val) : ∀ n i : Nat, h.length ≤ n + i → (nextN h c n i = -1 ∧ ∀ m, i ≤ m → m < h.length → cliA h m ≠ c) ∨ ∃ k : Nat, i ≤ k ∧ k < h.length ∧ nextN h c n i = (k : Int) ∧ cliA h k = c ∧ ∀ m, i ≤ m → m < k → cliA h m ≠ c
  | 0, i, hn => .inl ⟨rfl, fun m h1 h2 => by omega⟩
  | n + 1, i, hn => by
    rw [nextN]
    by_cases hi : i < h.length
    · rw [decide_eq_true hi, cond_true]
      by_cases hc : cliA h i = c
      · rw [show (Ev.cli (h.getD i noE) == c) = true from beq_iff_eq.2 hc, cond_true]
        exact .inr ⟨i, by omega, hi, rfl, hc, fun m h1 h2 => by omega⟩
      · rw [show (Ev.cli (h.getD i noE) == c) = false from beq_eq_false_iff_ne.2 hc, cond_false]
        rcases nextN_spec h c n (i + 1) (by omega) with ⟨a, b⟩ | ⟨k, a, b, d, e, f⟩
        · exact .inl ⟨a, fun m h1 h2 => by
            by_cases hq : m = i
            · subst hq; exact hc
            · exact b m (by omega) h2⟩
        · exact .inr ⟨k, by omega, b, d, e, fun m h1 h2 => by
            by_cases hq : m = i
            · subst hq; exact hc
            · exact f m (by omega) h2⟩
    · rw [decide_eq_false hi, cond_false]
      exact .inl ⟨rfl, fun m h1 h2 => by omega⟩
/-- What came next, looked at from behind. -/
theorem next_last (h : List Evt) {k j : Nat} (hj : j < h.length) : nextE h (k : Int) = (j : Int) ↔ lastN h (cliA h j) j = (k : Int) := by
  rw [lastN_iff]
  unfold nextE
  rw [Int.toNat_natCast]
  constructor
  · intro e
    rcases nextN_spec h (cliA h k) h.length (k + 1) (by omega) with ⟨a, b⟩ | ⟨q, a, b, d, e', f⟩
    · have : (-1 : Int) = (j : Int) := a.symm.trans e
      omega
    · have : q = j := by have := d.symm.trans e; omega
      subst this
      exact ⟨by omega, e'.symm, fun m h1 h2 hc => f m (by omega) h2 (hc.trans e')⟩
  · rintro ⟨a, b, d⟩
    rcases nextN_spec h (cliA h k) h.length (k + 1) (by omega) with ⟨a', b'⟩ | ⟨q, a', b', d', e', f⟩
    · exact absurd b.symm (b' j (by omega) hj)
    · rcases Nat.lt_trichotomy q j with hq | hq | hq
      · exact absurd (e'.trans b) (d q (by omega) hq)
      · exact d'.trans (by rw [hq])
      · exact absurd b.symm (f j (by omega) hq)
theorem next_cases (h : List Evt) (k : Nat) : nextE h (k : Int) = -1 ∨ ∃ j : Nat, k < j ∧ j < h.length ∧ nextE h (k : Int) = (j : Int) := by
  unfold nextE
  rw [Int.toNat_natCast]
  rcases nextN_spec h (cliA h k) h.length (k + 1) (by omega) with ⟨a, b⟩ | ⟨q, a, b, d, e', f⟩
  · exact .inl a
  · exact .inr ⟨q, by omega, b, d⟩

/-- What the clerk knows of the first events, none of them wrong. -/
structure CInv (h : List Evt) (i : Nat) (c : Clk) : Prop where
  busy : ∀ v k, Mp.look v (Ck.busy c) = some k ↔ ∃ n : Nat, k = (n : Int) ∧ lastN h v i = (n : Int) ∧ typA h n = 1
  nd : ((Ck.busy c).map (·.1)).Nodup
  lost : ∀ v, (Mp.look v (Ck.lost c)).isSome = true ↔ ∃ n : Nat, lastN h v i = (n : Int) ∧ typA h n = 4
  last : Ck.last c = if i = 0 then 0 else Ev.time (h.getD (i - 1) noE)
  gone : ∀ k : Nat, (k : Int) ∈ Ck.gone c ↔ ∃ j : Nat, j < i ∧ typA h j = 3 ∧ lastN h (cliA h j) j = (k : Int)
  glen : (Ck.gone c).length ≤ i
  elen : (Ck.ends c).length = h.length
  ends : ∀ k, k < h.length → ((Ck.ends c).getD k 0 = 0 ∧ ∀ j, j < i → typA h j = 2 → lastN h (cliA h j) j ≠ (k : Int)) ∨ ∃ j : Nat, j < i ∧ (Ck.ends c).getD k 0 = (j : Int) ∧ typA h j = 2 ∧ lastN h (cliA h j) j = (k : Int)

theorem CInv.begin (h : List Evt) : CInv h 0 (begunC h.length) where
  busy v k := by
    constructor
    · intro e
      have e' : (none : Option Int) = some k := e
      cases e'
    · rintro ⟨n, _, e, _⟩
      have e' : (-1 : Int) = (n : Int) := e
      omega
  nd := List.nodup_nil
  lost v := by
    constructor
    · intro e
      have e' : (none : Option Int).isSome = true := e
      cases e'
    · rintro ⟨n, e, _⟩
      have e' : (-1 : Int) = (n : Int) := e
      omega
  last := rfl
  gone k := by
    constructor
    · intro e
      have e' : (k : Int) ∈ ([] : List Int) := e
      cases e'
    · rintro ⟨j, e, _⟩
      omega
  glen := Nat.zero_le _
  elen := List.length_replicate
  ends k hk := .inl ⟨by
    show (List.replicate h.length (0 : Int)).getD k 0 = 0
    rw [List.getD_eq_getElem?_getD, List.getElem?_replicate]
    split <;> rfl, fun j hj => by omega⟩

section
variable {κ : Type} [BEq κ] [LawfulBEq κ]
theorem look_none {k : κ} : ∀ {l : List (κ × Int)}, k ∉ l.map (·.1) → Mp.look k l = none
  | [], _ => rfl
  | p :: l, h => by
    rw [List.map_cons, List.mem_cons, not_or] at h
    rw [Mp.look, beq_eq_false_iff_ne.2 h.1, cond_false, look_none h.2]
theorem look_del (k k' : κ) : ∀ l : List (κ × Int), (l.map (·.1)).Nodup → Mp.look k' (Mp.del k l) = bif k' == k then none else Mp.look k' l
  | [], _ => by
    show (none : Option Int) = bif k' == k then none else none
    cases (k' == k) <;> rfl
  | p :: l, h => by
    rw [List.map_cons, List.nodup_cons] at h
    simp only [Mp.del]
    cases hp : (k == p.1) with
    | true =>
      have e := eq_of_beq hp
      subst e
      rw [cond_true, Mp.look]
      cases hk : (k' == p.1) with
      | true => rw [eq_of_beq hk, look_none h.1]; rfl
      | false => rfl
    | false =>
      rw [cond_false, Mp.look, Mp.look, look_del k k' l h.2]
      cases hk : (k' == p.1) with
      | true =>
        have : (k' == k) = false := by
          rw [eq_of_beq hk, beq_eq_false_iff_ne]
          exact fun e => (beq_eq_false_iff_ne.1 hp) e.symm
        rw [this]; rfl
      | false => rfl
theorem keys_upd (k : κ) (v : Int) : ∀ {l : List (κ × Int)} {q : κ}, q ∈ (Mp.upd k v l).map (·.1) → q = k ∨ q ∈ l.map (·.1)
  | [], q, h => by simpa [Mp.upd] using h
  | p :: l, q, h => by
    simp only [Mp.upd] at h
    cases hp : (k == p.1) with
    | true =>
      rw [hp, cond_true, List.map_cons, List.mem_cons] at h
      rw [List.map_cons, List.mem_cons]
      rcases h with h | h
      · exact .inl h
      · exact .inr (.inr h)
    | false =>
      rw [hp, cond_false, List.map_cons, List.mem_cons] at h
      rw [List.map_cons, List.mem_cons]
      rcases h with h | h
      · exact .inr (.inl h)
      · rcases keys_upd k v h with h | h
        · exact .inl h
        · exact .inr (.inr h)
theorem nd_upd (k : κ) (v : Int) : ∀ {l : List (κ × Int)}, (l.map (·.1)).Nodup → ((Mp.upd k v l).map (·.1)).Nodup
  | [], _ => by simp [Mp.upd]
  | p :: l, h => by
    rw [List.map_cons, List.nodup_cons] at h
    simp only [Mp.upd]
    cases hp : (k == p.1) with
    | true =>
      rw [cond_true, List.map_cons, List.nodup_cons]
      exact ⟨by rw [eq_of_beq hp]; exact h.1, h.2⟩
    | false =>
      rw [cond_false, List.map_cons, List.nodup_cons]
      refine ⟨fun hm => ?_, nd_upd k v h.2⟩
      rcases keys_upd k v hm with e | e
      · exact (beq_eq_false_iff_ne.1 hp) e.symm
      · exact h.1 e
theorem keys_del (k : κ) : ∀ (l : List (κ × Int)), ((Mp.del k l).map (·.1)).Sublist (l.map (·.1))
  | [] => List.Sublist.refl _
  | p :: l => by
    simp only [Mp.del]
    cases (k == p.1) with
    | true => exact List.sublist_cons_self _ _
    | false => exact (keys_del k l).cons_cons _
theorem nd_del (k : κ) {l : List (κ × Int)} (h : (l.map (·.1)).Nodup) : ((Mp.del k l).map (·.1)).Nodup := h.sublist (keys_del k l)
end
theorem right_time {e : Evt} (h : rightE e = true) : 0 ≤ Ev.time e := by
  unfold rightE at h
  rw [Bool.and_eq_true, Bool.and_eq_true, decide_eq_true_eq] at h
  exact h.1.1
theorem right_typ {e : Evt} (h : rightE e = true) : Ev.typ e = 1 ∨ Ev.typ e = 2 ∨ Ev.typ e = 3 ∨ Ev.typ e = 4 := by
  by_cases h1 : Ev.typ e = 1
  · exact .inl h1
  · unfold rightE at h
    rw [Bool.and_eq_true, show (Ev.typ e == 1) = false from beq_eq_false_iff_ne.2 h1, cond_false] at h
    have h2 := h.2
    simp only [Bool.and_eq_true, Bool.or_eq_true, beq_iff_eq] at h2
    rcases h2.2.2 with q | ⟨q | q, _⟩
    · exact .inr (.inl q)
    · exact .inr (.inr (.inl q))
    · exact .inr (.inr (.inr q))
/-- One event. -/
theorem CInv.step {h : List Evt} {i : Nat} {c : Clk} (H : CInv h i c) (hi : i < h.length) : (seeC h c i).1 = wrongN h i ∧ (wrongN h i = 0 → CInv h (i + 1) (seeC h c i).2) := by
  have hc : ∀ v, Ev.cli (h.getD i noE) = v → True := fun _ _ => trivial
  unfold seeC wrongN
  dsimp only
  by_cases h1 : 4096 ≤ i
  · rw [decide_eq_true h1]; exact ⟨rfl, fun e => by cases e⟩
  rw [decide_eq_false h1]; simp only [cond_false]
  cases h2 : rightE (h.getD i noE) with
  | false => exact ⟨rfl, fun e => by cases e⟩
  | true =>
  simp only [Bool.not_true, cond_false]
  have ht : decide (Ev.time (h.getD i noE) < Ck.last c) = (decide (0 < i) && decide (Ev.time (h.getD i noE) < Ev.time (h.getD (i - 1) noE))) := by
    rw [H.last]
    by_cases h0 : i = 0
    · subst h0
      have := right_time h2
      rw [if_pos rfl, decide_eq_false (by omega), decide_eq_false (by omega)]; rfl
    · rw [if_neg h0, decide_eq_true (show 0 < i by omega), Bool.true_and]
  rw [ht]
  cases h3 : (decide (0 < i) && decide (Ev.time (h.getD i noE) < Ev.time (h.getD (i - 1) noE))) with
  | true => exact ⟨rfl, fun e => by cases e⟩
  | false =>
  simp only [cond_false]
  have hty := right_typ h2
  generalize hL : lastN h (Ev.cli (h.getD i noE)) i = L
  cases hb : Mp.look (Ev.cli (h.getD i noE)) (Ck.busy c) with
  | none =>
    have nb : ∀ n : Nat, L = (n : Int) → typA h n ≠ 1 := fun n e t => by
      have := (H.busy (Ev.cli (h.getD i noE)) (n : Int)).2 ⟨n, rfl, hL.trans e, t⟩
      rw [hb] at this; cases this
    have hbz : (decide (0 ≤ L) && (Ev.typ (h.getD L.toNat noE) == 1)) = false := by
      by_cases h0 : 0 ≤ L
      · have := nb L.toNat (by omega)
        rw [beq_eq_false_iff_ne.2 this, Bool.and_false]
      · rw [decide_eq_false h0, Bool.false_and]
    dsimp only
    cases ht1 : (Ev.typ (h.getD i noE) == 1) with
    | false =>
      simp only [cond_false, hbz, Bool.not_false, cond_true]
      exact ⟨trivial, fun e => by cases e⟩
    | true =>
      simp only [cond_true]
      have ht1' : typA h i = 1 := eq_of_beq ht1
      have hlo : (Mp.look (Ev.cli (h.getD i noE)) (Ck.lost c)).isSome = (decide (0 ≤ L) && (Ev.typ (h.getD L.toNat noE) == 1 || Ev.typ (h.getD L.toNat noE) == 4)) := by
        rw [Bool.and_or_distrib_left, hbz, Bool.false_or, Bool.eq_iff_iff, H.lost, Bool.and_eq_true, decide_eq_true_eq, beq_iff_eq]
        constructor
        · rintro ⟨n, a, b⟩
          have : L = (n : Int) := hL.symm.trans a
          subst this
          exact ⟨by omega, by rw [Int.toNat_natCast]; exact b⟩
        · rintro ⟨a, b⟩
          exact ⟨L.toNat, by omega, b⟩
      rw [hlo]
      cases hz : (decide (0 ≤ L) && (Ev.typ (h.getD L.toNat noE) == 1 || Ev.typ (h.getD L.toNat noE) == 4)) with
      | true => exact ⟨rfl, fun e => by cases e⟩
      | false =>
        simp only [cond_false]
        refine ⟨trivial, fun _ => ?_⟩
        exact {
          busy := fun v k => by
            show Mp.look v (Mp.upd (Ev.cli (h.getD i noE)) (i : Int) (Ck.busy c)) = some k ↔ _
            rw [look_upd, lastN_succ]
            by_cases hv : cliA h i = v
            · rw [show (v == Ev.cli (h.getD i noE)) = true from beq_iff_eq.2 hv.symm, cond_true, show (cliA h i == v) = true from beq_iff_eq.2 hv, cond_true]
              constructor
              · intro e
                exact ⟨i, (Option.some.inj e).symm, rfl, ht1'⟩
              · rintro ⟨n, a, b, d⟩
                rw [a, b]
            · rw [show (v == Ev.cli (h.getD i noE)) = false from beq_eq_false_iff_ne.2 (fun e => hv e.symm), cond_false, show (cliA h i == v) = false from beq_eq_false_iff_ne.2 hv, cond_false]
              exact H.busy v k
          nd := nd_upd _ _ H.nd
          lost := fun v => by
            show (Mp.look v (Ck.lost c)).isSome = true ↔ _
            rw [lastN_succ]
            by_cases hv : cliA h i = v
            · rw [show (cliA h i == v) = true from beq_iff_eq.2 hv, cond_true, ← hv]
              constructor
              · intro e
                have e2 := hlo.symm.trans e
                rw [hz] at e2; cases e2
              · rintro ⟨n, a, b⟩
                have : i = n := by omega
                subst this
                rw [ht1'] at b; cases b
            · rw [show (cliA h i == v) = false from beq_eq_false_iff_ne.2 hv, cond_false]
              exact H.lost v
          last := by
            show Ev.time (h.getD i noE) = _
            rw [if_neg (by omega), Nat.add_sub_cancel]
          gone := fun k => by
            refine (H.gone k).trans ⟨fun ⟨j, a, b⟩ => ⟨j, by omega, b⟩, fun ⟨j, a, b, d⟩ => ⟨j, ?_, b, d⟩⟩
            by_cases hj : j = i
            · subst hj; rw [ht1'] at b; cases b
            · omega
          glen := Nat.le_succ_of_le H.glen
          elen := H.elen
          ends := fun k hk => by
            rcases H.ends k hk with ⟨a, b⟩ | ⟨j, a, b⟩
            · refine .inl ⟨a, fun j hj t => ?_⟩
              by_cases hq : j = i
              · subst hq; rw [ht1'] at t; cases t
              · exact b j (by omega) t
            · exact .inr ⟨j, by omega, b⟩ }
  | some at' =>
    obtain ⟨n, rfl, hn1, hn2⟩ := (H.busy _ _).1 hb
    have hLn : L = (n : Int) := hL.symm.trans hn1
    subst hLn
    have hbz : (decide (0 ≤ (n : Int)) && (Ev.typ (h.getD (n : Int).toNat noE) == 1)) = true := by
      rw [Int.toNat_natCast, decide_eq_true (by omega), Bool.true_and, beq_iff_eq]; exact hn2
    have hni := ((lastN_iff h _ i n).1 hn1).1
    dsimp only
    cases ht1 : (Ev.typ (h.getD i noE) == 1) with
    | true =>
      simp only [cond_true, Bool.and_or_distrib_left, hbz, Bool.true_or]
      exact ⟨trivial, fun e => by cases e⟩
    | false =>
      simp only [cond_false, hbz, Bool.not_true]
      have ht1' : typA h i ≠ 1 := beq_eq_false_iff_ne.1 ht1
      have hbusy : ∀ v k, Mp.look v (Mp.del (Ev.cli (h.getD i noE)) (Ck.busy c)) = some k ↔ ∃ n : Nat, k = (n : Int) ∧ lastN h v (i + 1) = (n : Int) ∧ typA h n = 1 := fun v k => by
        rw [look_del _ _ _ H.nd, lastN_succ]
        by_cases hv : cliA h i = v
        · rw [show (v == Ev.cli (h.getD i noE)) = true from beq_iff_eq.2 hv.symm, cond_true, show (cliA h i == v) = true from beq_iff_eq.2 hv, cond_true]
          constructor
          · intro e; cases e
          · rintro ⟨m, a, b, d⟩
            have : i = m := by omega
            subst this
            exact absurd d ht1'
        · rw [show (v == Ev.cli (h.getD i noE)) = false from beq_eq_false_iff_ne.2 (fun e => hv e.symm), cond_false, show (cliA h i == v) = false from beq_eq_false_iff_ne.2 hv, cond_false]
          exact H.busy v k
      have hlost : typA h i ≠ 4 → ∀ v, (Mp.look v (Ck.lost c)).isSome = true ↔ ∃ n : Nat, lastN h v (i + 1) = (n : Int) ∧ typA h n = 4 := fun h4 v => by
        rw [lastN_succ]
        by_cases hv : cliA h i = v
        · rw [show (cliA h i == v) = true from beq_iff_eq.2 hv, cond_true, ← hv]
          constructor
          · intro e
            obtain ⟨m, a, b⟩ := (H.lost _).1 e
            have : n = m := by have := hn1.symm.trans a; omega
            subst this
            rw [hn2] at b; cases b
          · rintro ⟨m, a, b⟩
            have : i = m := by omega
            subst this
            exact absurd b h4
        · rw [show (cliA h i == v) = false from beq_eq_false_iff_ne.2 hv, cond_false]
          exact H.lost v
      have hlast : Ev.time (h.getD i noE) = if i + 1 = 0 then 0 else Ev.time (h.getD (i + 1 - 1) noE) := by
        rw [if_neg (by omega), Nat.add_sub_cancel]
      have hgone : typA h i ≠ 3 → ∀ k : Nat, (k : Int) ∈ Ck.gone c ↔ ∃ j : Nat, j < i + 1 ∧ typA h j = 3 ∧ lastN h (cliA h j) j = (k : Int) := fun h3 k => by
        refine (H.gone k).trans ⟨fun ⟨j, a, b⟩ => ⟨j, by omega, b⟩, fun ⟨j, a, b, d⟩ => ⟨j, ?_, b, d⟩⟩
        by_cases hj : j = i
        · subst hj; exact absurd b h3
        · omega
      have hends : typA h i ≠ 2 → ∀ k, k < h.length → ((Ck.ends c).getD k 0 = 0 ∧ ∀ j, j < i + 1 → typA h j = 2 → lastN h (cliA h j) j ≠ (k : Int)) ∨ ∃ j : Nat, j < i + 1 ∧ (Ck.ends c).getD k 0 = (j : Int) ∧ typA h j = 2 ∧ lastN h (cliA h j) j = (k : Int) := fun h2 k hk => by
        rcases H.ends k hk with ⟨a, b⟩ | ⟨j, a, b⟩
        · refine .inl ⟨a, fun j hj t => ?_⟩
          by_cases hq : j = i
          · subst hq; exact absurd t h2
          · exact b j (by omega) t
        · exact .inr ⟨j, by omega, b⟩
      cases ht2 : (Ev.typ (h.getD i noE) == 2) with
      | true =>
        have ht2' : typA h i = 2 := eq_of_beq ht2
        rw [cond_true, Bool.true_and]
        cases hs : !(signOuts (Ev.mod (h.getD (n : Int).toNat noE)) (Ev.op (h.getD (n : Int).toNat noE)) (Ev.out (h.getD i noE))).2 with
        | true => exact ⟨rfl, fun e => by cases e⟩
        | false =>
          refine ⟨rfl, fun _ => ?_⟩
          exact {
            busy := hbusy
            nd := nd_del _ H.nd
            lost := hlost (by omega)
            last := hlast
            gone := hgone (by omega)
            glen := Nat.le_succ_of_le H.glen
            elen := by
              show ((Ck.ends c).set (n : Int).toNat (i : Int)).length = _
              rw [List.length_set]; exact H.elen
            ends := fun k hk => by
              show (((Ck.ends c).set (n : Int).toNat (i : Int)).getD k 0 = 0 ∧ _) ∨ ∃ j : Nat, _ ∧ ((Ck.ends c).set (n : Int).toNat (i : Int)).getD k 0 = (j : Int) ∧ _
              rw [Int.toNat_natCast, List.getD_eq_getElem?_getD, List.getElem?_set]
              by_cases hkn : n = k
              · subst hkn
                rw [if_pos rfl, if_pos (by rw [H.elen]; omega)]
                exact .inr ⟨i, by omega, rfl, ht2', hn1⟩
              · rw [if_neg hkn, ← List.getD_eq_getElem?_getD]
                rcases H.ends k hk with ⟨a, b⟩ | ⟨j, a, b⟩
                · refine .inl ⟨a, fun j hj t => ?_⟩
                  by_cases hq : j = i
                  · subst hq
                    intro e
                    have := hn1.symm.trans e
                    omega
                  · exact b j (by omega) t
                · exact .inr ⟨j, by omega, b⟩ }
      | false =>
        have ht2' : typA h i ≠ 2 := beq_eq_false_iff_ne.1 ht2
        rw [cond_false, Bool.false_and, cond_false]
        cases ht3 : (Ev.typ (h.getD i noE) == 3) with
        | true =>
          have ht3' : typA h i = 3 := eq_of_beq ht3
          rw [cond_true]
          refine ⟨rfl, fun _ => ?_⟩
          exact {
            busy := hbusy
            nd := nd_del _ H.nd
            lost := hlost (by omega)
            last := hlast
            gone := fun k => by
              show (k : Int) ∈ Ck.gone c ++ [(n : Int)] ↔ _
              rw [List.mem_append, List.mem_singleton, H.gone]
              constructor
              · rintro (⟨j, a, b⟩ | e)
                · exact ⟨j, by omega, b⟩
                · exact ⟨i, by omega, ht3', hn1.trans e.symm⟩
              · rintro ⟨j, a, b, d⟩
                by_cases hj : j = i
                · subst hj
                  exact .inr (d.symm.trans hn1)
                · exact .inl ⟨j, by omega, b, d⟩
            glen := by
              show (Ck.gone c ++ [(n : Int)]).length ≤ i + 1
              rw [List.length_append]; have := H.glen; simp; omega
            elen := H.elen
            ends := hends ht2' }
        | false =>
          have ht3' : typA h i ≠ 3 := beq_eq_false_iff_ne.1 ht3
          have ht4 : typA h i = 4 := by
            rcases hty with q | q | q | q
            · exact absurd q ht1'
            · exact absurd q ht2'
            · exact absurd q ht3'
            · exact q
          rw [cond_false]
          refine ⟨rfl, fun _ => ?_⟩
          exact {
            busy := hbusy
            nd := nd_del _ H.nd
            lost := fun v => by
              show (Mp.look v (Mp.upd (Ev.cli (h.getD i noE)) (i : Int) (Ck.lost c))).isSome = true ↔ _
              rw [look_upd, lastN_succ]
              by_cases hv : cliA h i = v
              · rw [show (v == Ev.cli (h.getD i noE)) = true from beq_iff_eq.2 hv.symm, cond_true, show (cliA h i == v) = true from beq_iff_eq.2 hv, cond_true]
                exact ⟨fun _ => ⟨i, rfl, ht4⟩, fun _ => rfl⟩
              · rw [show (v == Ev.cli (h.getD i noE)) = false from beq_eq_false_iff_ne.2 (fun e => hv e.symm), cond_false, show (cliA h i == v) = false from beq_eq_false_iff_ne.2 hv, cond_false]
                exact H.lost v
            last := hlast
            gone := hgone ht3'
            glen := Nat.le_succ_of_le H.glen
            elen := H.elen
            ends := hends ht2' }
/-- The whole history. -/
theorem all_ref (h : List Evt) : ∀ (n i : Nat) (c : Clk), CInv h i c → i ≤ h.length → h.length < n + i → (allFrom h n i c).2 = refCheckN h n i ∧ ((allFrom h n i c).2.1 = 0 → CInv h h.length (allFrom h n i c).1 ∧ ∀ j, i ≤ j → j < h.length → wrongN h j = 0)
  | 0, i, c, H, h1, h2 => by omega
  | n + 1, i, c, H, h1, h2 => by
    rw [allFrom, refCheckN]
    by_cases hi : i < h.length
    · rw [decide_eq_true hi, cond_true, cond_true]
      obtain ⟨a, b⟩ := H.step hi
      revert a b
      generalize seeC h c i = p
      obtain ⟨e, c'⟩ := p
      dsimp only
      intro a b
      subst a
      by_cases hw : wrongN h i = 0
      · rw [hw, bne_self_eq_false, cond_false, cond_false]
        obtain ⟨q1, q2⟩ := all_ref h n (i + 1) c' (b hw) (by omega) (by omega)
        refine ⟨q1, fun e => ⟨(q2 e).1, fun j h3 h4 => ?_⟩⟩
        by_cases hj : j = i
        · subst hj; exact hw
        · exact (q2 e).2 j (by omega) h4
      · rw [show (wrongN h i != 0) = true from bne_iff_ne.2 hw, cond_true, cond_true]
        exact ⟨rfl, fun e => absurd e hw⟩
    · rw [decide_eq_false hi, cond_false, cond_false]
      have : i = h.length := by omega
      subst this
      exact ⟨rfl, fun _ => ⟨H, fun j h3 h4 => by omega⟩⟩
theorem pairCheck_ref (h : List Evt) : pairCheck h = refCheck h := (all_ref h (h.length + 1) 0 _ (CInv.begin h) (by omega) (by omega)).1
def WellF (h : List Evt) : Prop := ∀ j, j < h.length → wrongN h j = 0
theorem refCheck_none (h : List Evt) : ∀ n i, (∀ j, i ≤ j → j < h.length → wrongN h j = 0) → refCheckN h n i = (0, (0, ()))
  | 0, i, _ => rfl
  | n + 1, i, H => by
    rw [refCheckN]
    by_cases hi : i < h.length
    · rw [decide_eq_true hi, cond_true, H i (by omega) hi, bne_self_eq_false, cond_false, refCheck_none h n (i + 1) (fun j a b => H j (by omega) b)]
    · rw [decide_eq_false hi, cond_false]
theorem check_zero (h : List Evt) (e : (refCheck h).1 = 0) : refCheck h = (0, (0, ())) ∧ WellF h := by
  have k := all_ref h (h.length + 1) 0 _ (CInv.begin h) (by omega) (by omega)
  have e' : (allFrom h (h.length + 1) 0 (begunC h.length)).2.1 = 0 := by rw [k.1]; exact e
  have hw : WellF h := fun j hj => (k.2 e').2 j (by omega) hj
  exact ⟨refCheck_none h _ _ fun j _ hj => hw j hj, hw⟩
theorem check_of (h : List Evt) (H : WellF h) : refCheck h = (0, (0, ())) := refCheck_none h _ _ fun j _ hj => H j hj
theorem filterMap_same {α β : Type} {f g : α → Option β} : ∀ {l : List α}, (∀ x ∈ l, f x = g x) → l.filterMap f = l.filterMap g
  | [], _ => rfl
  | x :: l, h => by
    rw [List.filterMap_cons, List.filterMap_cons, h x (List.mem_cons_self ..), filterMap_same fun y hy => h y (List.mem_cons_of_mem _ hy)]
theorem oper_ref {h : List Evt} {c : Clk} (H : CInv h h.length c) {i : Nat} (hi : i < h.length) : pairOper h c i = refOper h i := by
  unfold pairOper refOper
  dsimp only
  cases ht : (Ev.typ (h.getD i noE) != 1) with
  | true => rfl
  | false =>
    rw [Bool.false_or, cond_false]
    have hg : ∀ q : Bool, ((Ck.gone c).any (· == (i : Int)) = q ↔ (q = true ↔ ∃ j : Nat, j < h.length ∧ typA h j = 3 ∧ lastN h (cliA h j) j = (i : Int))) := fun q => by
      rw [← H.gone i]
      have : (Ck.gone c).any (· == (i : Int)) = true ↔ (i : Int) ∈ Ck.gone c := by
        rw [List.any_eq_true]
        exact ⟨fun ⟨x, a, b⟩ => (eq_of_beq b) ▸ a, fun a => ⟨_, a, beq_self_eq_true _⟩⟩
      rw [← this]
      cases (Ck.gone c).any (· == (i : Int)) <;> cases q <;> simp
    rcases next_cases h i with hn | ⟨j, hij, hj, hn⟩
    · rw [hn, (hg false).2 ⟨fun e => absurd e Bool.false_ne_true, fun ⟨j, a, b, d⟩ => by
        have := hn.symm.trans ((next_last h a).2 d)
        omega⟩, cond_false]
      rcases H.ends i hi with ⟨a, b⟩ | ⟨j, a, b, d, e⟩
      · rw [a]; rfl
      · have := hn.symm.trans ((next_last h a).2 e)
        omega
    · have hl := (next_last h hj).1 hn
      have huniq : ∀ j', j' < h.length → lastN h (cliA h j') j' = (i : Int) → j' = j := fun j' a b => by
        have := hn.symm.trans ((next_last h a).2 b)
        omega
      rw [hn, Int.toNat_natCast, decide_eq_true (show (0 : Int) ≤ (j : Int) by omega), Bool.true_and, Bool.true_and]
      cases h3 : (Ev.typ (h.getD j noE) == 3) with
      | true =>
        rw [(hg true).2 ⟨fun _ => ⟨j, hj, eq_of_beq h3, hl⟩, fun _ => rfl⟩]
        rfl
      | false =>
        rw [(hg false).2 ⟨fun e => absurd e Bool.false_ne_true, fun ⟨j', a, b, d⟩ => by
          have := huniq j' a d
          subst this
          exact absurd b (beq_eq_false_iff_ne.1 h3)⟩, cond_false, cond_false]
        cases h2 : (Ev.typ (h.getD j noE) == 2) with
        | true =>
          rcases H.ends i hi with ⟨a, b⟩ | ⟨j', a, b, d, e⟩
          · exact absurd hl (b j hj (eq_of_beq h2))
          · have := huniq j' a e
            subst this
            rw [b, decide_eq_true (by omega), Int.toNat_natCast]
        | false =>
          rcases H.ends i hi with ⟨a, b⟩ | ⟨j', a, b, d, e⟩
          · rw [a]; rfl
          · have := huniq j' a e
            subst this
            exact absurd d (beq_eq_false_iff_ne.1 h2)
theorem pairOpers_ref (h : List Evt) : pairOpers h = bif (refCheck h).1 != 0 then ([], (refCheck h, ())) else (refOpers h, (refCheck h, ())) := by
  have k := all_ref h (h.length + 1) 0 _ (CInv.begin h) (by omega) (by omega)
  have e1 : (pairAll h).2 = refCheck h := k.1
  unfold pairOpers refOpers
  rw [e1]
  cases hz : ((refCheck h).1 != 0) with
  | true => rfl
  | false =>
    rw [cond_false, cond_false]
    have hz' : (refCheck h).1 = 0 := by
      have := hz
      rw [bne_eq_false_iff_eq] at this; exact this
    have H : CInv h h.length (pairAll h).1 := (k.2 (by rw [k.1]; exact hz')).1
    rw [show (List.range h.length).filterMap (pairOper h (pairAll h).1) = (List.range h.length).filterMap (refOper h) from filterMap_same fun i hi => oper_ref H (List.mem_range.1 hi)]
end Go.Inc
/-! Great -/
namespace Go.Inc
open Go Go.Abs

theorem emp_size {s : ByteArray} (h : emp s = true) : s.size = 0 := of_decide_eq_true h
theorem word_size {s : ByteArray} (h : isWord s = true) : s.size ≤ 40 := by
  unfold isWord at h
  have hz : s.size = s.data.toList.length := size_eq s
  rw [hz]
  revert h
  generalize s.data.toList = l
  intro h
  cases l with
  | nil => cases h
  | cons c l =>
    rw [isWordL, Bool.and_eq_true, decide_eq_true_eq] at h
    rw [List.length_cons]; exact h.1
theorem right_size {v : Val} (h : right v = true) : v.2.2.1.size ≤ 40 := by
  unfold right at h
  simp only [Bool.or_eq_true, Bool.and_eq_true] at h
  rcases h with ⟨_, _, h⟩ | ⟨_, h⟩ | ⟨_, _, h⟩ | ⟨_, _, h⟩
  · rw [emp_size h]; omega
  · rw [emp_size h]; omega
  · exact word_size h
  · rw [emp_size h]; omega
theorem name_size {v : Val} (h : name v = true) : v.2.2.1.size ≤ 40 := by
  unfold name at h
  rw [Bool.and_eq_true] at h
  exact right_size h.1
theorem takes_size {d : Int} {v : Val} (h : takes d v = true) : v.2.2.1.size ≤ 40 := by
  unfold takes at h
  rw [Bool.and_eq_true] at h
  exact right_size h.1
theorem takesAll_size : ∀ {ds : List Int} {l : List Val}, takesAll ds l = true → l.length = ds.length ∧ ∀ v ∈ l, v.2.2.1.size ≤ 40
  | [], [], _ => ⟨rfl, fun v h => by cases h⟩
  | d :: ds, v :: l, h => by
    rw [takesAll, Bool.and_eq_true] at h
    obtain ⟨a, b⟩ := takesAll_size h.2
    refine ⟨by rw [List.length_cons, List.length_cons, a], fun q hq => ?_⟩
    rcases List.mem_cons.1 hq with e | e
    · subst e; exact takes_size h.1
    · exact b q e
  | [], _ :: _, h => by cases h
  | _ :: _, [], h => by cases h
theorem tbl_small : (tbl.all fun r => decide (r.2.2.1.size ≤ 10)) = true := by decide +kernel
theorem fits_size {m o : Int} {l : List Val} (h : fits m o l = true) : l.length ≤ 10 ∧ ∀ v ∈ l, v.2.2.1.size ≤ 40 := by
  unfold fits at h
  cases hs : sin m o with
  | none => rw [hs] at h; cases h
  | some ds =>
    rw [hs] at h
    have h' : takesAll ds l = true := h
    obtain ⟨a, b⟩ := takesAll_size h'
    refine ⟨?_, b⟩
    unfold sin sfind at hs
    cases hf : tbl.find? (hit m o) with
    | none => rw [hf] at hs; cases hs
    | some r =>
      rw [hf] at hs
      have hs' : r.2.2.1.data.toList.map dom8 = ds := Option.some.inj hs
      have := List.all_eq_true.1 tbl_small r (List.mem_of_find?_eq_some hf)
      rw [decide_eq_true_eq, size_eq] at this
      rw [a, ← hs', List.length_map]; exact this
/-- What is right is small, but for what came out. -/
theorem right_parts {e : Evt} (h : rightE e = true) : (Ev.cli e).2.2.1.size ≤ 40 ∧ (Ev.key e).2.2.1.size ≤ 40 ∧ (Ev.note e).size ≤ 100 ∧ ((Ev.args e).length ≤ 10 ∧ ∀ v ∈ Ev.args e, v.2.2.1.size ≤ 40) ∧ ∀ v ∈ Ev.out e, v.2.2.1.size ≤ 40 := by
  unfold rightE notedE at h
  simp only [Bool.and_eq_true, decide_eq_true_eq] at h
  obtain ⟨⟨_, h1, h2, _⟩, h3⟩ := h
  by_cases ht : Ev.typ e = 1
  · rw [show (Ev.typ e == 1) = true from beq_iff_eq.2 ht, cond_true] at h3
    simp only [Bool.and_eq_true] at h3
    obtain ⟨a, b, c⟩ := h3
    refine ⟨name_size h1, name_size b, h2, fits_size a, fun v hv => ?_⟩
    rw [List.isEmpty_iff] at c
    rw [c] at hv; cases hv
  · rw [show (Ev.typ e == 1) = false from beq_eq_false_iff_ne.2 ht, cond_false] at h3
    simp only [Bool.and_eq_true] at h3
    obtain ⟨⟨_, _, a, b⟩, c, _⟩ := h3
    rw [List.isEmpty_iff] at b
    refine ⟨name_size h1, ?_, h2, ?_, fun v hv => right_size (List.all_eq_true.1 c v hv)⟩
    · rw [show Ev.key e = none' from eq_of_beq a]; decide
    · rw [b]; exact ⟨Nat.zero_le _, fun v hv => by cases hv⟩
theorem addW_spec : ∀ {l : List Val} {t : Int}, (∀ v ∈ l, v.2.2.1.size ≤ 40) → 0 ≤ t → t ≤ 10000 → 0 ≤ addW t l ∧ addW t l ≤ 10000 ∧ (addW t l ≤ 2000 → t + (l.length : Int) ≤ 2000)
  | [], t, _, h0, h1 => ⟨h0, h1, fun h => by have : t ≤ 2000 := h; simp; omega⟩
  | v :: l, t, hl, h0, h1 => by
    rw [addW]
    by_cases ht : t ≤ 2000
    · have hv := hl v (List.mem_cons_self ..)
      rw [decide_eq_true ht, cond_true, wi64 (t + 1) (by omega) (by omega), wi64 _ (by omega) (by omega)]
      obtain ⟨a, b, c⟩ := addW_spec (l := l) (t := t + 1 + ((v.2.2.1.size : Nat) : Int)) (fun q hq => hl q (List.mem_cons_of_mem _ hq)) (by omega) (by omega)
      refine ⟨a, b, fun h => ?_⟩
      have := c h
      rw [List.length_cons]; omega
    · rw [decide_eq_false ht, cond_false]
      exact ⟨h0, h1, fun h => by omega⟩
theorem great_len {e : Evt} (h : rightE e = true) (hg : greatE e = false) : (Ev.out e).length ≤ 2000 := by
  obtain ⟨h1, h2, h3, ⟨_, h4⟩, h5⟩ := right_parts h
  unfold greatE at hg
  rw [decide_eq_false_iff_not] at hg
  have hs : startW e = (((Ev.cli e).2.2.1.size : Nat) : Int) + (((Ev.key e).2.2.1.size : Nat) : Int) + (((Ev.note e).size : Nat) : Int) := by
    unfold startW
    rw [wi64 ((((Ev.cli e).2.2.1.size : Nat) : Int) + (((Ev.key e).2.2.1.size : Nat) : Int)) (by omega) (by omega), wi64 _ (by omega) (by omega)]
  obtain ⟨a, b, c⟩ := addW_spec (l := Ev.args e) (t := startW e) h4 (by omega) (by omega)
  obtain ⟨a', b', c'⟩ := addW_spec (l := Ev.out e) (t := addW (startW e) (Ev.args e)) h5 a b
  have := c' (by omega)
  omega
theorem all_of_great {h : List Evt} (hk : okH h = true) (hg : greatH h 60 = false) : okAll h = true := by
  unfold greatH at hg
  rw [Bool.or_eq_false_iff, decide_eq_false_iff_not, List.any_eq_false] at hg
  unfold okAll
  rw [hk, Bool.true_and, Bool.and_eq_true, decide_eq_true_eq, List.all_eq_true]
  refine ⟨by omega, fun e he => ?_⟩
  unfold evLen
  cases hr : rightE e with
  | false => rfl
  | true =>
    rw [Bool.not_true, Bool.false_or, decide_eq_true_eq]
    exact great_len hr (by have := hg.2 e he; revert this; cases greatE e <;> simp)
theorem wrong_right {h : List Evt} {a : Nat} (e : wrongN h a = 0) : rightE (h.getD a noE) = true := by
  unfold wrongN at e
  dsimp only at e
  cases h1 : decide (4096 ≤ a) with
  | true => rw [h1] at e; cases e
  | false =>
    cases h2 : rightE (h.getD a noE) with
    | true => rfl
    | false => rw [h1, h2] at e; cases e
end Go.Inc
/-! Turns -/
namespace Go.Inc
open Go Go.Abs

namespace Opn
abbrev cli (o : Opr) : Val := o.1
abbrev args (o : Opr) : List Val := o.2.2.2.2.1
abbrev out (o : Opr) : List Val := o.2.2.2.2.2.1
abbrev call (o : Opr) : Int := o.2.2.2.2.2.2.1
abbrev ret (o : Opr) : Int := o.2.2.2.2.2.2.2.1
end Opn
theorem refOper_spec {h : List Evt} {i : Nat} {o : Opr} (e : refOper h i = some o) : typA h i = 1 ∧ ((o = operOf (h.getD i noE) i (-1) [] ∧ (nextE h i = -1 ∨ ∃ j : Nat, i < j ∧ j < h.length ∧ nextE h i = (j : Int) ∧ typA h j ≠ 2 ∧ typA h j ≠ 3)) ∨
    ∃ j : Nat, i < j ∧ j < h.length ∧ nextE h i = (j : Int) ∧ typA h j = 2 ∧ o = operOf (h.getD i noE) i j (Ev.out (h.getD j noE))) := by
  unfold refOper at e
  dsimp only at e
  cases ht : (Ev.typ (h.getD i noE) != 1) with
  | true => rw [ht] at e; cases e
  | false =>
    refine ⟨by rw [bne_eq_false_iff_eq] at ht; exact ht, ?_⟩
    rw [ht, cond_false] at e
    rcases next_cases h i with hn | ⟨j, hij, hj, hn⟩
    · rw [hn] at e
      exact .inl ⟨(Option.some.inj e).symm, .inl hn⟩
    · rw [hn, Int.toNat_natCast, decide_eq_true (show (0 : Int) ≤ (j : Int) by omega), Bool.true_and, Bool.true_and] at e
      cases h3 : (Ev.typ (h.getD j noE) == 3) with
      | true => rw [h3] at e; cases e
      | false =>
        rw [h3, cond_false] at e
        cases h2 : (Ev.typ (h.getD j noE) == 2) with
        | true =>
          rw [h2, cond_true] at e
          exact .inr ⟨j, hij, hj, hn, eq_of_beq h2, (Option.some.inj e).symm⟩
        | false =>
          rw [h2, cond_false] at e
          exact .inl ⟨(Option.some.inj e).symm, .inr ⟨j, hij, hj, hn, beq_eq_false_iff_ne.1 h2, beq_eq_false_iff_ne.1 h3⟩⟩
theorem refOper_call {h : List Evt} {i : Nat} {o : Opr} (e : refOper h i = some o) : Opn.call o = (i : Int) ∧ Opn.cli o = cliA h i ∧ Opn.args o = Ev.args (h.getD i noE) ∧ (Opn.ret o = -1 ∨ ((i : Int) < Opn.ret o ∧ Opn.ret o < (h.length : Int))) := by
  rcases (refOper_spec e).2 with ⟨rfl, _⟩ | ⟨j, hij, hj, _, _, rfl⟩
  · exact ⟨rfl, rfl, rfl, .inl rfl⟩
  · exact ⟨rfl, rfl, rfl, .inr ⟨by show (i : Int) < (j : Int); omega, by show (j : Int) < _; omega⟩⟩
theorem wrong_busy {h : List Evt} {a n : Nat} (e : wrongN h a = 0) (hl : lastN h (cliA h a) a = (n : Int)) : (typA h a = 1 → typA h n ≠ 1 ∧ typA h n ≠ 4) ∧ (typA h a ≠ 1 → typA h n = 1) := by
  have hr := wrong_right e
  unfold wrongN at e
  dsimp only at e
  have hl' : lastN h (Ev.cli (h.getD a noE)) a = (n : Int) := hl
  rw [hl', Int.toNat_natCast, decide_eq_true (show (0 : Int) ≤ (n : Int) by omega), hr] at e
  cases h1 : decide (4096 ≤ a) with
  | true => rw [h1] at e; cases e
  | false =>
  cases h2 : (decide (0 < a) && decide (Ev.time (h.getD a noE) < Ev.time (h.getD (a - 1) noE))) with
  | true => rw [h1, h2] at e; cases e
  | false =>
  rw [h1, h2] at e
  simp only [Bool.not_true, cond_false, Bool.true_and] at e
  constructor
  · intro ht
    rw [show (Ev.typ (h.getD a noE) == 1) = true from beq_iff_eq.2 ht, cond_true] at e
    constructor
    · intro q
      rw [show (Ev.typ (h.getD n noE) == 1) = true from beq_iff_eq.2 q] at e; cases e
    · intro q
      rw [show (Ev.typ (h.getD n noE) == 4) = true from beq_iff_eq.2 q, Bool.or_true] at e; cases e
  · intro ht
    rw [show (Ev.typ (h.getD a noE) == 1) = false from beq_eq_false_iff_ne.2 ht, cond_false] at e
    by_cases q : typA h n = 1
    · exact q
    · rw [show (Ev.typ (h.getD n noE) == 1) = false from beq_eq_false_iff_ne.2 q] at e; cases e
theorem next_of {h : List Evt} {i j : Nat} (hij : i < j) (hj : j < h.length) (hc : cliA h i = cliA h j) : ∃ k : Nat, i < k ∧ k ≤ j ∧ nextE h i = (k : Int) := by
  unfold nextE
  rw [Int.toNat_natCast]
  rcases nextN_spec h (cliA h i) h.length (i + 1) (by omega) with ⟨_, b⟩ | ⟨k, a, b, d, e, f⟩
  · exact absurd hc.symm (b j (by omega) hj)
  · refine ⟨k, by omega, ?_, d⟩
    by_cases hk : k ≤ j
    · exact hk
    · exact absurd hc.symm (f j (by omega) (by omega))
/-- Turns: one client's operations, one behind the other. -/
theorem turns {h : List Evt} (H : WellF h) {i j : Nat} {a b : Opr} (hi : refOper h i = some a) (hj : refOper h j = some b) (hij : i < j) (hjl : j < h.length) (hc : Opn.cli a = Opn.cli b) : 0 ≤ Opn.ret a ∧ Opn.ret a < (j : Int) := by
  have hc' : cliA h i = cliA h j := by rw [← (refOper_call hi).2.1, ← (refOper_call hj).2.1]; exact hc
  obtain ⟨k, hik, hkj, hn⟩ := next_of hij hjl hc'
  have hkl : k < h.length := by omega
  have hl := (next_last h hkl).1 hn
  have hb := wrong_busy (H k hkl) hl
  have hti := (refOper_spec hi).1
  have htj := (refOper_spec hj).1
  have hk1 : typA h k ≠ 1 := fun q => (hb.1 q).1 hti
  have hkj' : k ≠ j := fun q => hk1 (by rw [q]; exact htj)
  have hck := ((lastN_iff h _ k i).1 hl).2.1
  have hk4 : typA h k ≠ 4 := fun q => by
    obtain ⟨m, hkm, hmj, hm⟩ := next_of (show k < j by omega) hjl (hck.symm.trans hc')
    have hml : m < h.length := by omega
    have hb2 := wrong_busy (H m hml) ((next_last h hml).1 hm)
    by_cases hm1 : typA h m = 1
    · exact (hb2.1 hm1).2 q
    · have := hb2.2 hm1; rw [q] at this; cases this
  rcases (refOper_spec hi).2 with ⟨_, e | ⟨k', _, _, e, n2, n3⟩⟩ | ⟨k', _, _, e, _, ea⟩
  · have := hn.symm.trans e; omega
  · have : k' = k := by have := hn.symm.trans e; omega
    subst this
    rcases right_typ (wrong_right (H k' hkl)) with q | q | q | q
    · exact absurd q hk1
    · exact absurd q n2
    · exact absurd q n3
    · exact absurd q hk4
  · have : k' = k := by have := hn.symm.trans e; omega
    subst this
    rw [ea]
    exact ⟨by show (0 : Int) ≤ (k' : Int); omega, by show (k' : Int) < (j : Int); omega⟩
/-- What a list of operations keeps. -/
def TurnOk (a b : Opr) : Prop := Opn.call a < Opn.call b ∧ (Opn.cli a = Opn.cli b → 0 ≤ Opn.ret a ∧ Opn.ret a < Opn.call b)
theorem opers_pw {h : List Evt} (H : WellF h) : (refOpers h).Pairwise TurnOk := by
  unfold refOpers
  rw [List.pairwise_filterMap]
  have hp := List.pairwise_lt_range (n := h.length)
  refine List.Pairwise.imp_of_mem (fun {i j} hi hj hij b hb b' hb' => ?_) hp
  have hjl := List.mem_range.1 hj
  have e1 := refOper_call hb
  have e2 := refOper_call hb'
  refine ⟨by rw [e1.1, e2.1]; omega, fun hc => ?_⟩
  rw [e2.1]
  exact turns H hb hb' hij hjl hc
theorem opers_mem {h : List Evt} {o : Opr} (ho : o ∈ refOpers h) : ∃ i, i < h.length ∧ refOper h i = some o := by
  unfold refOpers at ho
  obtain ⟨i, hi, e⟩ := List.mem_filterMap.1 ho
  exact ⟨i, List.mem_range.1 hi, e⟩
theorem opers_at {h : List Evt} {o : Opr} (ho : o ∈ refOpers h) : 0 ≤ Opn.call o ∧ Opn.call o < (h.length : Int) ∧ (Opn.ret o = -1 ∨ (Opn.call o < Opn.ret o ∧ Opn.ret o < (h.length : Int))) := by
  obtain ⟨i, hi, e⟩ := opers_mem ho
  obtain ⟨a, _, _, b⟩ := refOper_call e
  rw [a]
  exact ⟨by omega, by omega, b⟩
theorem opers_len (h : List Evt) : (refOpers h).length ≤ h.length := by
  unfold refOpers
  exact Nat.le_trans (List.length_filterMap_le _ _) (by rw [List.length_range]; exact Nat.le_refl _)
theorem opers_small {h : List Evt} (hk : okAll h = true) (H : WellF h) {o : Opr} (ho : o ∈ refOpers h) : okOne2 o o = true := by
  obtain ⟨i, hi, e⟩ := opers_mem ho
  have hr := wrong_right (H i hi)
  have h1 : (okH h && (decide (h.length ≤ 1000) && h.all evLen)) = true := hk
  rw [Bool.and_eq_true, Bool.and_eq_true, List.all_eq_true] at h1
  have hout : ∀ j, j < h.length → (Ev.out (h.getD j noE)).length ≤ 2000 := fun j hj => by
    have h2 := h1.2.2 _ (getD_mem (d := noE) hj)
    unfold evLen at h2
    rw [wrong_right (H j hj), Bool.not_true, Bool.false_or, decide_eq_true_eq] at h2
    exact h2
  have ha := (right_parts hr).2.2.2.1.1
  unfold okOne2
  simp only [Bool.and_eq_true, decide_eq_true_eq]
  have e1 : o.2.2.2.2.1 = Ev.args (h.getD i noE) := (refOper_call e).2.2.1
  rcases (refOper_spec e).2 with ⟨rfl, _⟩ | ⟨j, hij, hj, _, _, rfl⟩
  · rw [e1]
    exact ⟨⟨by omega, by omega⟩, ⟨Nat.zero_le _, Nat.zero_le _⟩⟩
  · rw [e1]
    have h3 : ((operOf (h.getD i noE) i j (Ev.out (h.getD j noE))).2.2.2.2.2.1).length ≤ 2000 := hout j hj
    exact ⟨⟨by omega, by omega⟩, ⟨by omega, by omega⟩⟩
theorem okOps2_refs {h : List Evt} (hk : okAll h = true) (H : WellF h) : okOps2 (refOpers h) (refOpers h) = true := by
  have h1 : (okH h && (decide (h.length ≤ 1000) && h.all evLen)) = true := hk
  rw [Bool.and_eq_true, Bool.and_eq_true, decide_eq_true_eq] at h1
  have := opers_len h
  unfold okOps2
  simp only [Bool.and_eq_true, decide_eq_true_eq, List.all_eq_true]
  exact ⟨⟨⟨by omega, by omega⟩, fun o ho => opers_small hk H ho⟩, fun o ho => opers_small hk H ho⟩
end Go.Inc
/-! Begins -/
namespace Go.Inc
open Go Go.Abs

theorem take_getD {α : Type} {l : List α} {n i : Nat} {d : α} (h : i < n) : (l.take n).getD i d = l.getD i d := by
  rw [List.getD_eq_getElem?_getD, List.getD_eq_getElem?_getD, List.getElem?_take, if_pos h]
theorem lastN_take {h : List Evt} {n : Nat} {c : Val} : ∀ {i : Nat}, i ≤ n → lastN (h.take n) c i = lastN h c i
  | 0, _ => rfl
  | i + 1, hi => by
    rw [lastN, lastN, take_getD (by omega), lastN_take (by omega)]
theorem wrongN_take {h : List Evt} {n a : Nat} (ha : a < n) : wrongN (h.take n) a = wrongN h a := by
  unfold wrongN
  dsimp only
  rw [take_getD ha, lastN_take (by omega), take_getD (show a - 1 < n by omega)]
  rcases lastN_spec h (Ev.cli (h.getD a noE)) a with ⟨e, _⟩ | ⟨k, hk, e, _⟩
  · rw [e]
    have h0 : (h.take n).getD (Int.toNat (-1)) noE = h.getD (Int.toNat (-1)) noE := take_getD (by show 0 < n; omega)
    rw [h0]
  · rw [e, Int.toNat_natCast, take_getD (show k < n by omega)]
theorem wellF_take {h : List Evt} (H : WellF h) (n : Nat) : WellF (h.take n) := fun j hj => by
  rw [List.length_take] at hj
  rw [wrongN_take (by omega)]
  exact H j (by omega)
theorem okAll_take {h : List Evt} (hk : okAll h = true) (n : Nat) : okAll (h.take n) = true := by
  have h1 : ((decide (h.length ≤ maxLen) && List.all h (wfD EVT)) && (decide (h.length ≤ 1000) && h.all evLen)) = true := hk
  rw [Bool.and_eq_true, Bool.and_eq_true, Bool.and_eq_true, decide_eq_true_eq, decide_eq_true_eq, List.all_eq_true, List.all_eq_true] at h1
  show ((decide ((h.take n).length ≤ maxLen) && List.all (h.take n) (wfD EVT)) && (decide ((h.take n).length ≤ 1000) && (h.take n).all evLen)) = true
  rw [Bool.and_eq_true, Bool.and_eq_true, Bool.and_eq_true, decide_eq_true_eq, decide_eq_true_eq, List.all_eq_true, List.all_eq_true, List.length_take]
  exact ⟨⟨by omega, fun x hx => h1.1.2 x (List.mem_of_mem_take hx)⟩, by omega, fun x hx => h1.2.2 x (List.mem_of_mem_take hx)⟩
theorem next_take {h : List Evt} {n i : Nat} (hi : i < n) (hn : n ≤ h.length) : (nextE (h.take n) i = -1 ∧ (nextE h i = -1 ∨ ∃ j : Nat, n ≤ j ∧ j < h.length ∧ nextE h i = (j : Int))) ∨ ∃ j : Nat, i < j ∧ j < n ∧ nextE (h.take n) i = (j : Int) ∧ nextE h i = (j : Int) := by
  have hlen : (h.take n).length = n := by rw [List.length_take]; omega
  have key : ∀ j : Nat, j < n → (nextE (h.take n) i = (j : Int) ↔ nextE h i = (j : Int)) := fun j hj => by
    have e1 : cliA (h.take n) j = cliA h j := by unfold cliA; rw [take_getD hj]
    rw [next_last _ (by rw [hlen]; exact hj), next_last _ (show j < h.length by omega), e1, lastN_take (by omega)]
  rcases next_cases (h.take n) i with e | ⟨j, hij, hj, e⟩
  · refine .inl ⟨e, ?_⟩
    rcases next_cases h i with e' | ⟨j, hij, hj, e'⟩
    · exact .inl e'
    · refine .inr ⟨j, ?_, hj, e'⟩
      by_cases hjn : j < n
      · have := e.symm.trans ((key j hjn).2 e'); omega
      · omega
  · rw [hlen] at hj
    exact .inr ⟨j, hij, hj, e, (key j hj).1 e⟩
/-- As it stood when only so many events had been. -/
def cutO (n : Nat) (o : Opr) : Opr := bif decide (Opn.ret o ≥ (n : Int)) then (o.1, (o.2.1, (o.2.2.1, (o.2.2.2.1, (o.2.2.2.2.1, ([], (o.2.2.2.2.2.2.1, (-1, ())))))))) else o
theorem begin_oper {h : List Evt} {n i : Nat} (hi : i < n) (hn : n ≤ h.length) : (∀ w, refOper h i = some w → refOper (h.take n) i = some (cutO n w)) ∧ (refOper h i = none → refOper (h.take n) i = none ∨ ∃ o, refOper (h.take n) i = some o ∧ Opn.ret o = -1 ∧ Opn.call o = (i : Int)) := by
  have hx : (h.take n).getD i noE = h.getD i noE := take_getD hi
  unfold refOper
  dsimp only
  rw [hx]
  cases ht : (Ev.typ (h.getD i noE) != 1) with
  | true => exact ⟨fun w e => (by cases e), fun _ => .inl rfl⟩
  | false =>
    simp only [cond_false]
    have hcut : cutO n (operOf (h.getD i noE) i (-1) []) = operOf (h.getD i noE) i (-1) [] := by
      unfold cutO
      rw [decide_eq_false (by show ¬ ((-1 : Int) ≥ (n : Int)); omega)]; rfl
    rcases next_take hi hn with ⟨e, e' | ⟨j, hnj, hj, e'⟩⟩ | ⟨j, hij, hjn, e, e'⟩
    · rw [e, e']
      refine ⟨fun w hw => ?_, fun hw => by cases hw⟩
      have : w = operOf (h.getD i noE) i (-1) [] := (Option.some.inj hw).symm
      rw [this, hcut]; rfl
    · rw [e, e', Int.toNat_natCast, decide_eq_true (show (0 : Int) ≤ (j : Int) by omega), Bool.true_and, Bool.true_and]
      cases h3 : (Ev.typ (h.getD j noE) == 3) with
      | true => exact ⟨fun w hw => (by cases hw), fun _ => .inr ⟨_, rfl, rfl, rfl⟩⟩
      | false =>
        cases h2 : (Ev.typ (h.getD j noE) == 2) with
        | true =>
          refine ⟨fun w hw => ?_, fun hw => by cases hw⟩
          have : w = operOf (h.getD i noE) i j (Ev.out (h.getD j noE)) := (Option.some.inj hw).symm
          rw [this]
          unfold cutO
          rw [decide_eq_true (show Opn.ret (operOf (h.getD i noE) i j (Ev.out (h.getD j noE))) ≥ (n : Int) by show (j : Int) ≥ (n : Int); omega)]; rfl
        | false =>
          refine ⟨fun w hw => ?_, fun hw => by cases hw⟩
          have : w = operOf (h.getD i noE) i (-1) [] := (Option.some.inj hw).symm
          rw [this, hcut]; rfl
    · rw [e, e', Int.toNat_natCast, take_getD hjn, decide_eq_true (show (0 : Int) ≤ (j : Int) by omega), Bool.true_and, Bool.true_and]
      cases h3 : (Ev.typ (h.getD j noE) == 3) with
      | true => exact ⟨fun w hw => (by cases hw), fun _ => .inl rfl⟩
      | false =>
        cases h2 : (Ev.typ (h.getD j noE) == 2) with
        | true =>
          refine ⟨fun w hw => ?_, fun hw => by cases hw⟩
          have : w = operOf (h.getD i noE) i j (Ev.out (h.getD j noE)) := (Option.some.inj hw).symm
          rw [this]
          unfold cutO
          rw [decide_eq_false (show ¬ (Opn.ret (operOf (h.getD i noE) i j (Ev.out (h.getD j noE))) ≥ (n : Int)) by show ¬ ((j : Int) ≥ (n : Int)); omega)]; rfl
        | false =>
          refine ⟨fun w hw => ?_, fun hw => by cases hw⟩
          have : w = operOf (h.getD i noE) i (-1) [] := (Option.some.inj hw).symm
          rw [this, hcut]; rfl
theorem drop_cons_of {α : Type} {l r : List α} {k : Nat} {x d : α} (h : l.drop k = x :: r) : k < l.length ∧ l.getD k d = x ∧ l.drop (k + 1) = r := by
  have hk : k < l.length := by
    by_cases hk : k < l.length
    · exact hk
    · rw [List.drop_eq_nil_of_le (by omega)] at h; cases h
  rw [drop_getD (d := d) hk] at h
  injection h with h1 h2
  exact ⟨hk, h1, h2⟩
theorem from_call {h : List Evt} {i m : Nat} {o : Opr} {r : List Opr} (e : (List.range' i m).filterMap (refOper h) = o :: r) : (i : Int) ≤ Opn.call o := by
  have ho : o ∈ (List.range' i m).filterMap (refOper h) := by rw [e]; exact List.mem_cons_self ..
  obtain ⟨k, hk, ek⟩ := List.mem_filterMap.1 ho
  rw [(refOper_call ek).1]
  have := (List.mem_range'_1.1 hk).1
  omega
theorem cutO_small {n : Nat} {o : Opr} (h : okOne2 o o = true) : okOne2 (cutO n o) (cutO n o) = true := by
  unfold cutO
  cases decide (Opn.ret o ≥ (n : Int)) with
  | false => exact h
  | true =>
    unfold okOne2 at h ⊢
    simp only [Bool.and_eq_true, decide_eq_true_eq] at h ⊢
    exact ⟨h.1, ⟨Nat.zero_le _, Nat.zero_le _⟩⟩
end Go.Inc
