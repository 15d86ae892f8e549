/- What the program's inner parts say, in plain words: operations, object by object. Own text of this session. -/
import Derived.Test.YtkkkjcpfahhhpaaDoorBag
import Derived.Test.YtkkkjcpfahhhpaaDoorMap
set_option linter.unusedVariables false
set_option linter.unusedSimpArgs false
namespace Go.Inc
open Go Go.Abs

@[reducible] def OPT : Ty := .pr VT (.pr (.int .i64) (.pr VT (.pr (.int .i64) (.pr (.sl VT) (.pr (.sl VT) (.pr (.int .i64) (.pr (.int .i64) .un)))))))
abbrev Opr : Type := Val × (Int × (Val × (Int × (List Val × (List Val × (Int × (Int × Unit)))))))
abbrev ObjKey : Type := Int × Val
def objK (o : Opr) : ObjKey := (o.2.1, o.2.2.1)
abbrev ObjSt : Type := List (List Int) × List (ObjKey × Int)
/-- One operation more: to its object's places. -/
def objStep (st : ObjSt) (i : Nat) (o : Opr) : ObjSt := match Mp.look (objK o) st.2 with
  | some g => (st.1.modify g.toNat (· ++ [(i : Int)]), st.2)
  | none => (st.1 ++ [[(i : Int)]], Mp.upd (objK o) (st.1.length : Int) st.2)
def objRun : Nat → List Opr → ObjSt → ObjSt
  | _, [], st => st
  | i, o :: r, st => objRun (i + 1) r (objStep st i o)
def objects (ops : List Opr) : List (List Int) := (objRun 0 ops ([], [])).1
theorem objRun_app : ∀ (a b : List Opr) (i : Nat) (st : ObjSt), objRun i (a ++ b) st = objRun (i + a.length) b (objRun i a st)
  | [], b, i, st => rfl
  | o :: a, b, i, st => by
    rw [List.cons_append, objRun, objRun_app a b, objRun, List.length_cons]
    congr 1; omega
/-- The map tells places that there are. -/
def ObjOk (st : ObjSt) : Prop := ∀ k g, Mp.look k st.2 = some g → ∃ n : Nat, g = (n : Int) ∧ n < st.1.length
theorem look_upd {κ : Type} [BEq κ] [LawfulBEq κ] (k k' : κ) (v : Int) : ∀ l : List (κ × Int), Mp.look k' (Mp.upd k v l) = bif k' == k then some v else Mp.look k' l
  | [] => by simp only [Mp.upd, Mp.look]
  | p :: l => by
    simp only [Mp.upd]
    cases h : (k == p.1) with
    | true =>
      have := eq_of_beq h
      simp only [cond_true, Mp.look, this]
      cases (k' == p.1) <;> rfl
    | false =>
      simp only [cond_false, Mp.look, look_upd k k' v l]
      cases h1 : (k' == p.1) with
      | false => rfl
      | true =>
        have e1 := eq_of_beq h1
        have : (k' == k) = false := by
          cases h2 : (k' == k) with
          | false => rfl
          | true => have e2 := eq_of_beq h2; rw [← e2, h1] at h; cases h
        rw [this]; rfl
theorem ObjOk.step {st : ObjSt} (h : ObjOk st) (i : Nat) (o : Opr) : ObjOk (objStep st i o) := by
  intro k g hg
  unfold objStep at hg ⊢
  cases hl : Mp.look (objK o) st.2 with
  | some g' =>
    rw [hl] at hg
    obtain ⟨n, e, hn⟩ := h k g hg
    exact ⟨n, e, by simpa using hn⟩
  | none =>
    rw [hl] at hg
    simp only [look_upd] at hg
    cases hk : (k == objK o) with
    | true =>
      rw [hk] at hg
      simp only [cond_true, Option.some.injEq] at hg
      exact ⟨st.1.length, hg.symm, by simp⟩
    | false =>
      rw [hk] at hg
      obtain ⟨n, e, hn⟩ := h k g hg
      exact ⟨n, e, by simp; omega⟩
theorem objStep_len (st : ObjSt) (i : Nat) (o : Opr) : (objStep st i o).1.length ≤ st.1.length + 1 := by
  unfold objStep
  cases Mp.look (objK o) st.2 <;> simp
end Go.Inc
namespace Go.Inc
open Go Go.Abs
def okObj (ops : List Opr) : Bool := decide (ops.length ≤ 1000)
def okOps (ops : List Opr) : Bool := wfD (.sl OPT) ops
def noO : Opr := (none', (0, (none', (0, ([], ([], (0, (0, ()))))))))
/-- The place of the first operation of the object of an operation. -/
def firstN (ops : List Opr) (i : Nat) : Nat := ((ops.take i).findIdx? fun o => objK o == objK (ops.getD i noO)).getD i
def firstO (ops : List Opr) (i : Int) : Int := (firstN ops i.toNat : Nat)
def okFirst (ops : List Opr) (i : Int) : Bool := decide (ops.length ≤ 1000) && (decide (0 ≤ i) && decide (i < ops.length))
def ownOf (ops : List Opr) (i : Nat) : List Int := (((List.range ops.length).drop i).filter fun k => firstN ops k == i).map Int.ofNat
def refObjs (ops : List Opr) : List (List Int) := ((List.range ops.length).filter fun i => firstN ops i == i).map (ownOf ops)
def sameLL (_ _ : List (List Int)) : Bool := true
/-- Asked of lists alone that are the same. -/
def okLL (a b : List (List Int)) : Bool := (a == b) && (decide (a.length ≤ 1000) && (a.all fun l => decide (l.length ≤ 1000)))
end Go.Inc
namespace Go.Inc
open Go Go.Abs
abbrev keyAt (ops : List Opr) (i : Nat) : ObjKey := objK (ops.getD i noO)
theorem keyAt_app {ops : List Opr} {o : Opr} {i : Nat} (h : i < ops.length) : keyAt (ops ++ [o]) i = keyAt ops i := by
  unfold keyAt; rw [List.getD_eq_getElem?_getD, List.getElem?_append_left h, ← List.getD_eq_getElem?_getD]
theorem keyAt_last {ops : List Opr} {o : Opr} : keyAt (ops ++ [o]) ops.length = objK o := by
  unfold keyAt; rw [List.getD_eq_getElem?_getD, List.getElem?_append_right (Nat.le_refl _), Nat.sub_self]; rfl
theorem first_spec {ops : List Opr} {i : Nat} (hi : i < ops.length) : firstN ops i ≤ i ∧ keyAt ops (firstN ops i) = keyAt ops i ∧ ∀ k, k < firstN ops i → keyAt ops k ≠ keyAt ops i := by
  unfold firstN
  cases h : (ops.take i).findIdx? (fun o => objK o == keyAt ops i) with
  | none =>
    rw [List.findIdx?_eq_none_iff] at h
    refine ⟨Nat.le_refl _, rfl, fun k hk e => ?_⟩
    simp only [Option.getD_none] at hk
    have hm : ops.getD k noO ∈ ops.take i := by
      rw [List.getD_eq_getElem?_getD, List.getElem?_eq_getElem (by omega), Option.getD_some]
      exact List.mem_iff_getElem.2 ⟨k, by rw [List.length_take]; omega, by rw [List.getElem_take]⟩
    have := h _ hm
    simp only [beq_eq_false_iff_ne, ne_eq] at this
    exact this e
  | some j =>
    rw [List.findIdx?_eq_some_iff_getElem] at h
    obtain ⟨hj, h1, h2⟩ := h
    rw [List.length_take] at hj
    have hg : ∀ q, q < i → ∀ h', (ops.take i)[q]'h' = ops.getD q noO := fun q hq h' => by
      rw [List.getElem_take, List.getD_eq_getElem?_getD, List.getElem?_eq_getElem (by omega), Option.getD_some]
    simp only [Option.getD_some]
    rw [hg j (by omega)] at h1
    refine ⟨by omega, eq_of_beq h1, fun k hk e => ?_⟩
    have := h2 k hk
    rw [hg k (by omega)] at this
    exact this (by rw [beq_iff_eq]; exact e)
theorem first_iff {ops : List Opr} {i j : Nat} (hi : i < ops.length) : firstN ops i = j ↔ j ≤ i ∧ keyAt ops j = keyAt ops i ∧ ∀ k, k < j → keyAt ops k ≠ keyAt ops i := by
  obtain ⟨a, b, c⟩ := first_spec hi
  constructor
  · rintro rfl; exact ⟨a, b, c⟩
  · rintro ⟨a', b', c'⟩
    rcases Nat.lt_trichotomy (firstN ops i) j with h | h | h
    · exact absurd b (c' _ h)
    · exact h
    · exact absurd b' (c _ h)
theorem first_app {ops : List Opr} {o : Opr} {i : Nat} (hi : i < ops.length) : firstN (ops ++ [o]) i = firstN ops i := by
  obtain ⟨a, b, c⟩ := first_spec hi
  rw [first_iff (by simp; omega)]
  refine ⟨a, ?_, fun k hk => ?_⟩
  · rw [keyAt_app (by omega), keyAt_app hi]; exact b
  · rw [keyAt_app (by omega), keyAt_app hi]; exact c k hk
theorem first_first {ops : List Opr} {i : Nat} (hi : i < ops.length) : firstN ops (firstN ops i) = firstN ops i := by
  obtain ⟨a, b, c⟩ := first_spec hi
  rw [first_iff (by omega)]
  exact ⟨Nat.le_refl _, rfl, fun k hk => by rw [b]; exact c k hk⟩
theorem first_key {ops : List Opr} {i j : Nat} (hi : i < ops.length) (hj : j < ops.length) : firstN ops i = firstN ops j ↔ keyAt ops i = keyAt ops j := by
  obtain ⟨a, b, c⟩ := first_spec hi
  obtain ⟨a', b', c'⟩ := first_spec hj
  constructor
  · intro e; rw [← b, ← b', e]
  · intro e
    rcases Nat.lt_trichotomy (firstN ops i) (firstN ops j) with h | h | h
    · exact absurd (b.trans e) (c' _ h)
    · exact h
    · exact absurd (b'.trans e.symm) (c _ h)

def heads (ops : List Opr) : List Nat := (List.range ops.length).filter fun i => firstN ops i == i
theorem refObjs_eq (ops : List Opr) : refObjs ops = (heads ops).map (ownOf ops) := rfl
theorem mem_heads {ops : List Opr} {i : Nat} : i ∈ heads ops ↔ i < ops.length ∧ firstN ops i = i := by
  unfold heads; rw [List.mem_filter, List.mem_range, beq_iff_eq]
theorem heads_app (ops : List Opr) (o : Opr) : heads (ops ++ [o]) = heads ops ++ (if firstN (ops ++ [o]) ops.length = ops.length then [ops.length] else []) := by
  unfold heads
  rw [List.length_append, List.length_singleton, List.range_succ, List.filter_append]
  congr 1
  · exact List.filter_congr fun i hi => by rw [first_app (List.mem_range.1 hi)]
  · rw [List.filter_cons]
    by_cases h : firstN (ops ++ [o]) ops.length = ops.length
    · simp [h]
    · simp [h]
theorem ownOf_app {ops : List Opr} {o : Opr} {i : Nat} (hi : i ≤ ops.length) : ownOf (ops ++ [o]) i = ownOf ops i ++ (if firstN (ops ++ [o]) ops.length = i then [(ops.length : Int)] else []) := by
  unfold ownOf
  rw [List.length_append, List.length_singleton, List.range_succ, List.drop_append_of_le_length (by simpa using hi), List.filter_append, List.map_append]
  congr 1
  · congr 1
    refine List.filter_congr fun k hk => ?_
    have := List.mem_range.1 (List.mem_of_mem_drop hk)
    rw [first_app this]
  · rw [List.filter_cons]
    by_cases h : firstN (ops ++ [o]) ops.length = i
    · simp [h]
    · simp [h]
theorem heads_nodup (ops : List Opr) : (heads ops).Nodup := List.Nodup.sublist List.filter_sublist List.nodup_range

theorem map_modify {f g : Nat → List Int} {h : Nat} {t : List Int → List Int} : ∀ {l : List Nat} {m : Nat}, l.Nodup → l[m]? = some h → (∀ i ∈ l, g i = if i = h then t (f i) else f i) → l.map g = (l.map f).modify m t
  | [], m, _, e, _ => by simp at e
  | x :: l, 0, hn, e, hg => by
    simp only [List.getElem?_cons_zero, Option.some.injEq] at e
    subst e
    rw [List.nodup_cons] at hn
    rw [List.map_cons, List.map_cons, List.modify_zero_cons, hg x List.mem_cons_self, if_pos rfl]
    congr 1
    refine List.map_congr_left fun y hy => ?_
    have hyx : y ≠ x := fun e => hn.1 (by rw [← e]; exact hy)
    rw [hg y (List.mem_cons_of_mem _ hy), if_neg hyx]
  | x :: l, m + 1, hn, e, hg => by
    rw [List.nodup_cons] at hn
    have hx : x ≠ h := fun e' => hn.1 (by rw [e']; exact List.mem_of_getElem? (by simpa using e))
    rw [List.map_cons, List.map_cons, List.modify_succ_cons, hg x List.mem_cons_self, if_neg hx]
    congr 1
    exact map_modify hn.2 (by simpa using e) fun y hy => hg y (List.mem_cons_of_mem _ hy)

/-- What is known while the operations are gone through. -/
structure ObjInv (ops : List Opr) (st : ObjSt) : Prop where
  g : st.1 = refObjs ops
  m : ∀ k, Mp.look k st.2 = ((heads ops).findIdx? fun h => keyAt ops h == k).map Int.ofNat
theorem ObjInv.step {ops : List Opr} {st : ObjSt} (h : ObjInv ops st) (o : Opr) : ObjInv (ops ++ [o]) (objStep st ops.length o) := by
  have hn : ops.length < (ops ++ [o]).length := by simp
  have hlen : st.1.length = (heads ops).length := by rw [h.g, refObjs_eq, List.length_map]
  unfold objStep
  rw [h.m]
  cases hf : (heads ops).findIdx? (fun q => keyAt ops q == objK o) with
  | none =>
    simp only [Option.map_none]
    rw [List.findIdx?_eq_none_iff] at hf
    have hfn : firstN (ops ++ [o]) ops.length = ops.length := by
      rw [first_iff hn]
      refine ⟨Nat.le_refl _, rfl, fun k hk e => ?_⟩
      rw [keyAt_last, keyAt_app hk] at e
      obtain ⟨a, b, c⟩ := first_spec hk
      have := hf (firstN ops k) (mem_heads.2 ⟨by omega, first_first hk⟩)
      simp only [beq_eq_false_iff_ne, ne_eq] at this
      exact this (b.trans e)
    have hh : heads (ops ++ [o]) = heads ops ++ [ops.length] := by rw [heads_app, if_pos hfn]
    refine ⟨?_, fun k => ?_⟩
    · rw [refObjs_eq, hh, List.map_append]
      show st.1 ++ [[(ops.length : Int)]] = _
      rw [h.g, refObjs_eq]
      congr 1
      · refine (List.map_congr_left fun i hi => ?_).symm
        have hi' := (mem_heads.1 hi).1
        rw [ownOf_app (by omega), hfn, if_neg (by omega), List.append_nil]
      · rw [List.map_cons, List.map_nil, ownOf_app (Nat.le_refl _), hfn, if_pos rfl]
        have : ownOf ops ops.length = [] := by unfold ownOf; rw [List.drop_of_length_le (by simp)]; rfl
        rw [this]; rfl
    · rw [look_upd, hh, List.findIdx?_append, h.m]
      have hc : (heads ops).findIdx? (fun q => keyAt (ops ++ [o]) q == k) = (heads ops).findIdx? (fun q => keyAt ops q == k) := by
        have : ∀ l : List Nat, (∀ q ∈ l, q < ops.length) → l.findIdx? (fun q => keyAt (ops ++ [o]) q == k) = l.findIdx? (fun q => keyAt ops q == k) := by
          intro l
          induction l with
          | nil => intro _; rfl
          | cons q l ih => intro hq; rw [List.findIdx?_cons, List.findIdx?_cons, keyAt_app (hq q List.mem_cons_self), ih fun r hr => hq r (List.mem_cons_of_mem _ hr)]
        exact this _ fun q hq => (mem_heads.1 hq).1
      rw [hc, List.findIdx?_cons, keyAt_last]
      cases hk : (k == objK o) with
      | true =>
        have := eq_of_beq hk
        subst this
        have hnone : (heads ops).findIdx? (fun q => keyAt ops q == objK o) = none := List.findIdx?_eq_none_iff.2 hf
        rw [hnone]
        simp [hlen]
      | false =>
        have : (objK o == k) = false := by
          cases h2 : (objK o == k) with
          | false => rfl
          | true => rw [eq_of_beq h2, beq_self_eq_true] at hk; cases hk
        rw [this]
        cases (heads ops).findIdx? (fun q => keyAt ops q == k) <;> rfl
  | some m =>
    simp only [Option.map_some]
    rw [List.findIdx?_eq_some_iff_getElem] at hf
    obtain ⟨hm, h1, _⟩ := hf
    have hx := mem_heads.1 (List.getElem_mem hm)
    have hkey : keyAt ops (heads ops)[m] = objK o := eq_of_beq h1
    have hfn : firstN (ops ++ [o]) ops.length = (heads ops)[m] := by
      rw [first_iff hn]
      refine ⟨by omega, by rw [keyAt_last, keyAt_app hx.1]; exact hkey, fun k hk e => ?_⟩
      rw [keyAt_last, keyAt_app (by omega)] at e
      have h3 := (first_spec hx.1).2.2 k (by rw [hx.2]; exact hk)
      exact h3 (e.trans hkey.symm)
    have hne : (heads ops)[m] ≠ ops.length := by omega
    have hh : heads (ops ++ [o]) = heads ops := by rw [heads_app, hfn, if_neg hne, List.append_nil]
    refine ⟨?_, fun k => ?_⟩
    · rw [refObjs_eq, hh, h.g, refObjs_eq]
      refine (map_modify (h := (heads ops)[m]) (heads_nodup ops) (List.getElem?_eq_getElem hm) fun i hi => ?_).symm
      have hi' := (mem_heads.1 hi).1
      rw [ownOf_app (by omega), hfn]
      by_cases e : i = (heads ops)[m]
      · rw [if_pos e.symm, if_pos e]
      · rw [if_neg (fun q => e q.symm), if_neg e, List.append_nil]
    · rw [h.m, hh]
      have : ∀ l : List Nat, (∀ q ∈ l, q < ops.length) → l.findIdx? (fun q => keyAt ops q == k) = l.findIdx? (fun q => keyAt (ops ++ [o]) q == k) := by
        intro l
        induction l with
        | nil => intro _; rfl
        | cons q l ih => intro hq; rw [List.findIdx?_cons, List.findIdx?_cons, keyAt_app (hq q List.mem_cons_self), ih fun r hr => hq r (List.mem_cons_of_mem _ hr)]
      rw [this _ fun q hq => (mem_heads.1 hq).1]
theorem objInv_run : ∀ (rest done : List Opr) (st : ObjSt), ObjInv done st → ObjInv (done ++ rest) (objRun done.length rest st)
  | [], done, st, h => by rw [List.append_nil]; exact h
  | o :: rest, done, st, h => by
    have := objInv_run rest (done ++ [o]) _ (h.step o)
    rw [List.append_assoc, List.singleton_append, List.length_append, List.length_singleton] at this
    exact this
theorem objects_ref (ops : List Opr) : objects ops = refObjs ops := (objInv_run ops [] ([], []) ⟨rfl, fun k => rfl⟩).g

/-! The groups -/
def ownN (ops : List Opr) (h : Nat) : List Nat := ((List.range ops.length).drop h).filter fun k => firstN ops k == h
theorem ownOf_eq (ops : List Opr) (h : Nat) : ownOf ops h = (ownN ops h).map Int.ofNat := rfl
theorem mem_own {ops : List Opr} {h k : Nat} : k ∈ ownN ops h ↔ h ≤ k ∧ k < ops.length ∧ firstN ops k = h := by
  unfold ownN
  rw [List.mem_filter, beq_iff_eq]
  constructor
  · rintro ⟨h1, h2⟩
    obtain ⟨j, hj⟩ := List.mem_iff_getElem?.1 h1
    rw [List.getElem?_drop, List.getElem?_range] at hj
    · cases hj
      have := List.mem_range.1 (List.mem_of_mem_drop h1)
      exact ⟨by omega, this, h2⟩
    · have := (List.getElem?_eq_some_iff.1 hj).1
      simpa using this
  · rintro ⟨h1, h2, h3⟩
    exact ⟨List.mem_iff_getElem?.2 ⟨k - h, by rw [List.getElem?_drop, List.getElem?_range (by omega)]; congr 1; omega⟩, h3⟩
theorem own_sorted (ops : List Opr) (h : Nat) : (ownN ops h).Pairwise (· < ·) := List.Pairwise.sublist (List.filter_sublist.trans (List.drop_sublist _ _)) List.pairwise_lt_range
theorem heads_sorted (ops : List Opr) : (heads ops).Pairwise (· < ·) := List.Pairwise.sublist List.filter_sublist List.pairwise_lt_range
theorem pw_get {l : List Nat} (h : l.Pairwise (· < ·)) {i j : Nat} (hij : i < j) (hj : j < l.length) : l[i] < l[j] := List.pairwise_iff_getElem.1 h i j (by omega) hj hij
theorem own_head {ops : List Opr} {h : Nat} (hl : h < ops.length) (hf : firstN ops h = h) : ∃ r, ownN ops h = h :: r := by
  unfold ownN
  have : (List.range ops.length).drop h = h :: (List.range ops.length).drop (h + 1) := by
    rw [List.drop_eq_getElem_cons (by simpa using hl)]; simp
  rw [this, List.filter_cons, hf, if_pos (by simp)]
  exact ⟨_, rfl⟩
theorem own_len (ops : List Opr) (h : Nat) : (ownN ops h).length ≤ ops.length := by
  have h1 := List.length_filter_le (fun k => firstN ops k == h) ((List.range ops.length).drop h)
  rw [List.length_drop, List.length_range] at h1
  unfold ownN; omega
theorem heads_len (ops : List Opr) : (heads ops).length ≤ ops.length := by
  have h1 := List.length_filter_le (fun i => firstN ops i == i) (List.range ops.length)
  rw [List.length_range] at h1
  exact h1
theorem key_beq (a b : Opr) : ((a.2.1 == b.2.1) && (((a.2.2.1.1) == (b.2.2.1.1)) && ((a.2.2.1.2.1 == b.2.2.1.2.1) && ((a.2.2.1.2.2.1 == b.2.2.1.2.2.1) && true)))) = (objK a == objK b) := by
  rw [Bool.eq_iff_iff]
  simp only [Bool.and_eq_true, beq_iff_eq, and_true]
  constructor
  · rintro ⟨h1, h2, h3, h4⟩
    obtain ⟨c, m, ⟨k1, k2, k3, ⟨⟩⟩, r⟩ := a
    obtain ⟨c', m', ⟨k1', k2', k3', ⟨⟩⟩, r'⟩ := b
    simp only at h1 h2 h3 h4
    subst h1 h2 h3 h4; rfl
  · intro e
    have e1 : a.2.1 = b.2.1 := congrArg (fun q : ObjKey => q.1) e
    have e2 : a.2.2.1 = b.2.2.1 := congrArg (fun q : ObjKey => q.2) e
    rw [e1, e2]; exact ⟨rfl, rfl, rfl, rfl⟩
end Go.Inc
