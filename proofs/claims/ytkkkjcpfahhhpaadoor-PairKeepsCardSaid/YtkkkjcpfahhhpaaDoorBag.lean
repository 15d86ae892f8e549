/- What the program's inner parts say, in plain words: values in order; sets. Own text of this session. -/
import Derived.Test.YtkkkjcpfahhhpaaDoorOrd
set_option linter.unusedVariables false
set_option linter.unusedSimpArgs false
namespace Go.Inc
open Go Go.Abs

/-! Values in order -/
def sortedV : List Val → Bool
  | [] => true
  | x :: l => l.all (lessV x) && sortedV l
/-- How many stand ahead of a value. -/
def lbV (x : Val) : List Val → Nat
  | [] => 0
  | y :: l => bif lessV y x then lbV x l + 1 else 0
def hasV (l : List Val) (x : Val) : Bool := l.any (· == x)
def insV (l : List Val) (x : Val) : List Val := bif hasV l x then l else l.take (lbV x l) ++ ([x] ++ l.drop (lbV x l))
def delV (l : List Val) (x : Val) : List Val := bif hasV l x then l.take (lbV x l) ++ l.drop (lbV x l + 1) else l
/-- The document's sorting: one by one, behind those that it is not ahead of. -/
def upV (out : List Val) (x : Val) : Nat → Nat
  | 0 => 0
  | k + 1 => bif lessV x (out.getD k none') then upV out x k else k + 1
def putV (out : List Val) (x : Val) : List Val := out.take (upV out x out.length) ++ ([x] ++ out.drop (upV out x out.length))
def sortV (l : List Val) : List Val := l.foldl putV []
def okSort (l : List Val) : Bool := decide (l.length ≤ 1000)
def okPlace (n : Nat) (l : List Val) : Bool := decide (n = l.length) && (decide (l.length ≤ 1000) && sortedV l)
def placeX (x : Val) (l : List Val) : Int × (Bool × (List Val × Unit)) := ((lbV x l : Int), (hasV l x, (l, ())))

/-! Sets -/
def bagOwn (m : Int) : Bool := m == 3
def bagNew (m : Int) : State × (Bool × Unit) := bif bagOwn m then (mkS m none' 0 [], true, ()) else (noS, false, ())
def bagStep (s : State) (c : Val) (o : Int) (args : List Val) : State × (List Val × (Bool × Unit)) :=
  bif stepOk (bagOwn s.1) s.1 c o args then
    (bif o == 6 then (s, [yesV (hasV s.2.2.2.1 (args.getD 0 none'))], true, ())
     else bif o == 4 then (mkS s.1 s.2.1 s.2.2.1 (insV s.2.2.2.1 (args.getD 0 none')), [], true, ())
     else (mkS s.1 s.2.1 s.2.2.1 (delV s.2.2.2.1 (args.getD 0 none')), [], true, ()))
  else (noS, [], false, ())
def okBStep (s : State) (c : Val) (_ : Int) (args : List Val) : Bool := (decide (s.2.2.2.1.length ≤ 100) && sortedV s.2.2.2.1) && (okV c && okL args)
/-- Is a value there, behind all that was done? -/
def bagHas1 (v : Val) (b : Bool) (d : Deed) : Bool := bif d.2.1 != 6 && arg0 d == v then d.2.1 == 4 else b
def bagHas (past : List Deed) (v : Val) : Bool := past.foldl (bagHas1 v) false
def okBDeed (d : Deed) : Bool := decide (1 ≤ d.2.2.1.length)
def okBPast (past : List Deed) (_ : Val) : Bool := decide (past.length ≤ 100) && past.all okBDeed
def bagKeep (past : List Deed) (l : List Val) (d : Deed) : List Val := bif !(hasV l (arg0 d)) && bagHas past (arg0 d) then l ++ [arg0 d] else l
def bagList (past : List Deed) : List Val := past.foldl (bagKeep past) []
def bagState (m : Int) (past : List Deed) : State := mkS m none' 0 (sortV (bagList past))
def okBPast0 (_ : Int) (past : List Deed) : Bool := okBPast past none'
def bagOut (_ : Int) (past : List Deed) (d : Deed) : List Val := bif d.2.1 != 6 then [] else [yesV (bagHas past (arg0 d))]
def okBPast1 (_ : Int) (past : List Deed) (d : Deed) : Bool := okBPast past none' && okBDeed d
def okTurns (l : List Val) (by' : Int) : Bool := okVs l && wfD (.int .u8) by'

/-! ### Laws -/
instance : LawfulBEq ByteArray where
  eq_of_beq h := by rw [ba_beq] at h; exact ba_ext (eq_of_beq h)
  rfl {a} := by rw [ba_beq]; exact beq_self_eq_true _
theorem bl_trans : ∀ {a b c : List UInt8}, Op.bytesLess a b = true → Op.bytesLess b c = true → Op.bytesLess a c = true
  | [], [], _, h, _ => by simp [Op.bytesLess] at h
  | [], _ :: _, [], _, h => by simp [Op.bytesLess] at h
  | [], _ :: _, _ :: _, _, _ => rfl
  | _ :: _, [], _, h, _ => by simp [Op.bytesLess] at h
  | _ :: _, _ :: _, [], _, h => by simp [Op.bytesLess] at h
  | a :: x, b :: y, c :: z, h1, h2 => by
    simp only [Op.bytesLess, Bool.or_eq_true, decide_eq_true_eq, Bool.and_eq_true, beq_iff_eq] at h1 h2 ⊢
    rcases h1 with h1 | ⟨rfl, h1⟩
    · rcases h2 with h2 | ⟨rfl, h2⟩
      · exact .inl (UInt8.lt_trans h1 h2)
      · exact .inl h1
    · rcases h2 with h2 | ⟨rfl, h2⟩
      · exact .inl h2
      · exact .inr ⟨rfl, bl_trans h1 h2⟩

theorem lessV_iff (a b : Val) : lessV a b = true ↔ a.1 < b.1 ∨ (a.1 = b.1 ∧ (a.2.1 < b.2.1 ∨ (a.2.1 = b.2.1 ∧ Op.bytesLess a.2.2.1.toList b.2.2.1.toList = true))) := by
  unfold lessV
  by_cases h1 : a.1 = b.1
  · have e1 : (a.1 != b.1) = false := by rw [h1]; exact bne_self_eq_false _
    rw [e1]
    simp only [cond_false, h1]
    by_cases h2 : a.2.1 = b.2.1
    · have e2 : (a.2.1 != b.2.1) = false := by rw [h2]; exact bne_self_eq_false _
      rw [e2]
      simp [h2]
    · have e2 : (a.2.1 != b.2.1) = true := bne_iff_ne.2 h2
      rw [e2]
      simp [h2]
  · have e1 : (a.1 != b.1) = true := bne_iff_ne.2 h1
    rw [e1]
    simp [h1]

theorem lessV_trans {a b c : Val} (h1 : lessV a b = true) (h2 : lessV b c = true) : lessV a c = true := by
  rw [lessV_iff] at h1 h2 ⊢
  rcases h1 with h1 | ⟨e1, h1⟩
  · rcases h2 with h2 | ⟨e2, h2⟩
    · left; omega
    · left; omega
  · rcases h2 with h2 | ⟨e2, h2⟩
    · left; omega
    · refine .inr ⟨e1.trans e2, ?_⟩
      rcases h1 with h1 | ⟨e3, h1⟩
      · rcases h2 with h2 | ⟨e4, h2⟩
        · left; omega
        · left; omega
      · rcases h2 with h2 | ⟨e4, h2⟩
        · left; omega
        · exact .inr ⟨e3.trans e4, bl_trans h1 h2⟩

theorem cmpV_neg (a b : Val) : decide (cmpV a b < 0) = lessV a b := by
  rcases cv_spec a b with ⟨e, h1, h2, _⟩ | ⟨e, rfl, h2⟩ | ⟨e, h1, h2, _⟩
  · rw [e, h1]; rfl
  · rw [e, h2]; rfl
  · rw [e, h2]; rfl
theorem cmpV_zero (a b : Val) : (cmpV a b == 0) = (a == b) := by
  rcases cv_spec a b with ⟨e, _, _, h⟩ | ⟨e, rfl, h2⟩ | ⟨e, _, _, h⟩
  · rw [e, beq_false_of_ne h]; rfl
  · rw [e]; simp
  · rw [e, beq_false_of_ne h]; rfl

theorem sorted_cons {x : Val} {l : List Val} : sortedV (x :: l) = true ↔ (∀ y ∈ l, lessV x y = true) ∧ sortedV l = true := by
  simp only [sortedV, Bool.and_eq_true, List.all_eq_true]

theorem hasV_iff {l : List Val} {x : Val} : hasV l x = true ↔ x ∈ l := by
  simp only [hasV, List.any_eq_true, beq_iff_eq]
  exact ⟨fun ⟨y, h, e⟩ => e ▸ h, fun h => ⟨x, h, rfl⟩⟩

theorem lb_le (x : Val) : ∀ l : List Val, lbV x l ≤ l.length
  | [] => Nat.le_refl _
  | y :: l => by
    unfold lbV
    cases lessV y x
    · exact Nat.zero_le _
    · have := lb_le x l; simp only [cond_true, List.length_cons]; omega

theorem lb_take (x : Val) : ∀ {l : List Val} {y : Val}, y ∈ l.take (lbV x l) → lessV y x = true
  | [], y, h => by simp at h
  | z :: l, y, h => by
    unfold lbV at h
    cases hz : lessV z x with
    | false => rw [hz] at h; simp at h
    | true =>
      rw [hz] at h
      simp only [cond_true, List.take_succ_cons, List.mem_cons] at h
      rcases h with rfl | h
      · exact hz
      · exact lb_take x h

theorem lb_drop (x : Val) : ∀ {l : List Val} {y : Val}, sortedV l = true → y ∈ l.drop (lbV x l) → lessV y x = false
  | [], y, _, h => by simp at h
  | z :: l, y, hs, h => by
    obtain ⟨h1, h2⟩ := sorted_cons.1 hs
    unfold lbV at h
    cases hz : lessV z x with
    | true =>
      rw [hz] at h
      simp only [cond_true, List.drop_succ_cons] at h
      exact lb_drop x h2 h
    | false =>
      rw [hz] at h
      simp only [cond_false, List.drop_zero, List.mem_cons] at h
      rcases h with rfl | h
      · exact hz
      · cases hy : lessV y x with
        | false => rfl
        | true => rw [lessV_trans (h1 y h) hy] at hz; cases hz

theorem lb_get {x : Val} {l : List Val} (hs : sortedV l = true) {i : Nat} (hi : i < l.length) (d : Val) : lessV (l.getD i d) x = decide (i < lbV x l) := by
  rw [List.getD_eq_getElem?_getD, List.getElem?_eq_getElem hi, Option.getD_some]
  by_cases h : i < lbV x l
  · rw [decide_eq_true h]
    refine lb_take x (l := l) (List.mem_iff_getElem.2 ⟨i, ?_, ?_⟩)
    · rw [List.length_take]; omega
    · rw [List.getElem_take]
  · rw [decide_eq_false h]
    refine lb_drop x (l := l) hs (List.mem_iff_getElem.2 ⟨i - lbV x l, ?_, ?_⟩)
    · rw [List.length_drop]; omega
    · rw [List.getElem_drop]; congr 1; omega

theorem sorted_app {a b : List Val} : sortedV (a ++ b) = true ↔ sortedV a = true ∧ sortedV b = true ∧ ∀ x ∈ a, ∀ y ∈ b, lessV x y = true := by
  induction a with
  | nil => simp [sortedV]
  | cons z a ih =>
    rw [List.cons_append, sorted_cons, sorted_cons, ih]
    constructor
    · rintro ⟨h1, h2, h3, h4⟩
      refine ⟨⟨fun y hy => h1 y (List.mem_append_left _ hy), h2⟩, h3, fun x hx y hy => ?_⟩
      rcases List.mem_cons.1 hx with rfl | hx
      · exact h1 y (List.mem_append_right _ hy)
      · exact h4 x hx y hy
    · rintro ⟨⟨h1, h2⟩, h3, h4⟩
      refine ⟨fun y hy => ?_, h2, h3, fun x hx y hy => h4 x (List.mem_cons_of_mem _ hx) y hy⟩
      rcases List.mem_append.1 hy with hy | hy
      · exact h1 y hy
      · exact h4 z List.mem_cons_self y hy

theorem sorted_split {l : List Val} (i : Nat) (h : sortedV l = true) : sortedV (l.take i) = true ∧ sortedV (l.drop i) = true ∧ ∀ x ∈ l.take i, ∀ y ∈ l.drop i, lessV x y = true := by
  rw [← List.take_append_drop i l] at h
  exact sorted_app.1 h

/-- A value that is there stands where the search ends. -/
theorem has_lb {x : Val} {l : List Val} (hs : sortedV l = true) : hasV l x = (decide (lbV x l < l.length) && (l.getD (lbV x l) none' == x)) := by
  rw [Bool.eq_iff_iff, hasV_iff]
  simp only [Bool.and_eq_true, decide_eq_true_eq, beq_iff_eq]
  constructor
  · intro hx
    obtain ⟨h1, h2, h3⟩ := sorted_split (lbV x l) hs
    have hd : x ∈ l.drop (lbV x l) := by
      rw [← List.take_append_drop (lbV x l) l] at hx
      rcases List.mem_append.1 hx with hx | hx
      · have := lb_take x hx; rw [lessV_self] at this; cases this
      · exact hx
    have hlt : lbV x l < l.length := by
      have := List.length_pos_of_mem hd
      rw [List.length_drop] at this; omega
    refine ⟨hlt, ?_⟩
    rw [drop_getD (d := none') hlt] at hd h2
    rcases List.mem_cons.1 hd with e | hd
    · exact e.symm
    · have := (sorted_cons.1 h2).1 x hd
      rw [lb_get hs hlt] at this
      simp at this
  · rintro ⟨h1, h2⟩
    rw [← h2]; exact getD_mem h1

theorem mem_ins {l : List Val} {x y : Val} : y ∈ insV l x ↔ y = x ∨ y ∈ l := by
  unfold insV
  cases h : hasV l x with
  | true =>
    have := hasV_iff.1 h
    simp only [cond_true]
    exact ⟨.inr, fun h => h.elim (fun e => e ▸ this) id⟩
  | false =>
    simp only [cond_false, List.mem_append, List.mem_singleton]
    constructor
    · rintro (h | h | h)
      · exact .inr (List.mem_of_mem_take h)
      · exact .inl h
      · exact .inr (List.mem_of_mem_drop h)
    · rintro (h | h)
      · exact .inr (.inl h)
      · rw [← List.take_append_drop (lbV x l) l] at h
        rcases List.mem_append.1 h with h | h
        · exact .inl h
        · exact .inr (.inr h)

theorem sorted_ins {l : List Val} {x : Val} (hs : sortedV l = true) : sortedV (insV l x) = true := by
  unfold insV
  cases h : hasV l x with
  | true => exact hs
  | false =>
    simp only [cond_false]
    obtain ⟨h1, h2, h3⟩ := sorted_split (lbV x l) hs
    have h4 : ∀ y ∈ l.drop (lbV x l), lessV x y = true := fun y hy => by
      have q := lb_drop x hs hy
      cases hxy : lessV x y with
      | true => rfl
      | false =>
        have := lessV_total hxy q
        subst this
        rw [hasV_iff.2 (List.mem_of_mem_drop hy)] at h; cases h
    refine sorted_app.2 ⟨h1, sorted_cons.2 ⟨h4, h2⟩, fun y hy z hz => ?_⟩
    rcases List.mem_cons.1 hz with rfl | hz
    · exact lb_take _ hy
    · exact h3 y hy z hz

theorem len_ins (l : List Val) (x : Val) : (insV l x).length ≤ l.length + 1 := by
  unfold insV
  cases hasV l x with
  | true => simp
  | false => simp only [cond_false, List.length_append, List.length_take, List.length_drop, List.length_singleton]; omega

theorem mem_del {l : List Val} {x y : Val} (hs : sortedV l = true) : y ∈ delV l x ↔ y ∈ l ∧ y ≠ x := by
  unfold delV
  cases h : hasV l x with
  | false =>
    simp only [cond_false]
    refine ⟨fun hy => ⟨hy, fun e => ?_⟩, fun h => h.1⟩
    subst e; rw [hasV_iff.2 hy] at h; cases h
  | true =>
    rw [has_lb hs] at h
    simp only [Bool.and_eq_true, decide_eq_true_eq, beq_iff_eq] at h
    obtain ⟨hlt, hx⟩ := h
    obtain ⟨h1, h2, h3⟩ := sorted_split (lbV x l) hs
    have hl : l = l.take (lbV x l) ++ (x :: l.drop (lbV x l + 1)) := by
      conv => lhs; rw [← List.take_append_drop (lbV x l) l]
      rw [drop_getD (d := none') hlt, hx]
    rw [drop_getD (d := none') hlt, hx] at h2 h3
    simp only [cond_true, List.mem_append]
    constructor
    · rintro (hy | hy)
      · exact ⟨List.mem_of_mem_take hy, fun e => by subst e; have := lb_take _ hy; rw [lessV_self] at this; cases this⟩
      · exact ⟨List.mem_of_mem_drop hy, fun e => by subst e; have := (sorted_cons.1 h2).1 _ hy; rw [lessV_self] at this; cases this⟩
    · rintro ⟨hy, hne⟩
      rw [hl] at hy
      rcases List.mem_append.1 hy with hy | hy
      · exact .inl hy
      · exact .inr ((List.mem_cons.1 hy).resolve_left hne)

theorem sorted_del {l : List Val} {x : Val} (hs : sortedV l = true) : sortedV (delV l x) = true := by
  unfold delV
  cases h : hasV l x with
  | false => exact hs
  | true =>
    simp only [cond_true]
    obtain ⟨h1, h2, h3⟩ := sorted_split (lbV x l) hs
    obtain ⟨_, h5, _⟩ := sorted_split (lbV x l + 1) hs
    refine sorted_app.2 ⟨h1, h5, fun y hy z hz => h3 y hy z ?_⟩
    have : l.drop (lbV x l + 1) = (l.drop (lbV x l)).drop 1 := by rw [List.drop_drop]
    rw [this] at hz
    exact List.mem_of_mem_drop hz

theorem len_del (l : List Val) (x : Val) : (delV l x).length ≤ l.length := by
  unfold delV
  cases hasV l x with
  | false => exact Nat.le_refl _
  | true => simp only [cond_true, List.length_append, List.length_take, List.length_drop]; omega

/-- Lists in order with the same members are the same. -/
theorem sorted_ext : ∀ {a b : List Val}, sortedV a = true → sortedV b = true → (∀ y, y ∈ a ↔ y ∈ b) → a = b
  | [], [], _, _, _ => rfl
  | [], y :: b, _, _, h => by have := (h y).2 List.mem_cons_self; cases this
  | x :: a, [], _, _, h => by have := (h x).1 List.mem_cons_self; cases this
  | x :: a, y :: b, ha, hb, h => by
    obtain ⟨a1, a2⟩ := sorted_cons.1 ha
    obtain ⟨b1, b2⟩ := sorted_cons.1 hb
    have hxy : x = y := by
      rcases List.mem_cons.1 ((h x).1 List.mem_cons_self) with e | hx
      · exact e
      · rcases List.mem_cons.1 ((h y).2 List.mem_cons_self) with e | hy
        · exact e.symm
        · have q1 := b1 x hx
          have q2 := a1 y hy
          rw [lessV_asymm q1] at q2; cases q2
    subst hxy
    congr 1
    refine sorted_ext a2 b2 fun z => ?_
    have hz := h z
    constructor
    · intro hza
      rcases List.mem_cons.1 (hz.1 (List.mem_cons_of_mem _ hza)) with e | hzb
      · subst e; have := a1 _ hza; rw [lessV_self] at this; cases this
      · exact hzb
    · intro hzb
      rcases List.mem_cons.1 (hz.2 (List.mem_cons_of_mem _ hzb)) with e | hza
      · subst e; have := b1 _ hzb; rw [lessV_self] at this; cases this
      · exact hza

theorem up_eq {out : List Val} {x : Val} (hs : sortedV out = true) (hx : hasV out x = false) : ∀ k, k ≤ out.length → lbV x out ≤ k → upV out x k = lbV x out
  | 0, _, h => by unfold upV; omega
  | k + 1, hk, h => by
    unfold upV
    have hg := lb_get (x := x) hs (show k < out.length by omega) none'
    by_cases hlb : lbV x out ≤ k
    · rw [decide_eq_false (by omega)] at hg
      have : lessV x (out.getD k none') = true := by
        cases h' : lessV x (out.getD k none') with
        | true => rfl
        | false =>
          have e := lessV_total h' hg
          rw [hasV_iff.2 (e ▸ getD_mem (show k < out.length by omega))] at hx; cases hx
      rw [this]
      exact up_eq hs hx k (by omega) hlb
    · rw [decide_eq_true (by omega)] at hg
      rw [lessV_asymm hg]
      show k + 1 = _
      omega

theorem put_ins {out : List Val} {x : Val} (hs : sortedV out = true) (hx : hasV out x = false) : putV out x = insV out x := by
  unfold putV insV
  rw [up_eq hs hx _ (Nat.le_refl _) (lb_le x out), hx]; rfl

/-- What is apart comes in order. -/
theorem sort_spec : ∀ {l acc : List Val}, sortedV acc = true → l.Nodup → (∀ y ∈ l, y ∉ acc) → sortedV (l.foldl putV acc) = true ∧ (∀ y, y ∈ l.foldl putV acc ↔ y ∈ acc ∨ y ∈ l) ∧ (l.foldl putV acc).length ≤ acc.length + l.length
  | [], acc, hs, _, _ => ⟨hs, fun y => by simp, by simp⟩
  | x :: l, acc, hs, hn, hd => by
    obtain ⟨n1, n2⟩ := List.nodup_cons.1 hn
    have hx : hasV acc x = false := by
      cases h : hasV acc x with
      | false => rfl
      | true => exact absurd (hasV_iff.1 h) (hd x List.mem_cons_self)
    have hp := put_ins hs hx
    obtain ⟨h1, h2, h3⟩ := sort_spec (l := l) (acc := putV acc x) (by rw [hp]; exact sorted_ins hs) n2 (fun y hy => by
      rw [hp, mem_ins]
      rintro (e | e)
      · subst e; exact n1 hy
      · exact hd y (List.mem_cons_of_mem _ hy) e)
    refine ⟨h1, fun y => ?_, ?_⟩
    · rw [List.foldl_cons, h2, hp, mem_ins, List.mem_cons]
      constructor
      · rintro ((h | h) | h)
        · exact .inr (.inl h)
        · exact .inl h
        · exact .inr (.inr h)
      · rintro (h | h | h)
        · exact .inl (.inr h)
        · exact .inl (.inl h)
        · exact .inr h
    · have := len_ins acc x
      rw [← hp] at this
      rw [List.foldl_cons, List.length_cons]; omega

theorem bagHas_app (past : List Deed) (d : Deed) (v : Val) : bagHas (past ++ [d]) v = bagHas1 v (bagHas past v) d := by simp [bagHas]

theorem bagHas_mem {v : Val} : ∀ {past : List Deed} {b : Bool}, past.foldl (bagHas1 v) b = true → b = true ∨ ∃ d ∈ past, arg0 d = v
  | [], b, h => .inl h
  | d :: past, b, h => by
    rcases bagHas_mem (past := past) h with h' | ⟨e, h1, h2⟩
    · unfold bagHas1 at h'
      cases hc : (d.2.1 != 6 && arg0 d == v) with
      | true =>
        rw [Bool.and_eq_true] at hc
        exact .inr ⟨d, List.mem_cons_self, eq_of_beq hc.2⟩
      | false => rw [hc] at h'; exact .inl h'
    · exact .inr ⟨e, List.mem_cons_of_mem _ h1, h2⟩

theorem bagKeep_spec (past : List Deed) : ∀ {l : List Deed} {acc : List Val}, acc.Nodup → (l.foldl (bagKeep past) acc).Nodup ∧ (∀ y, y ∈ l.foldl (bagKeep past) acc ↔ y ∈ acc ∨ (bagHas past y = true ∧ ∃ d ∈ l, arg0 d = y)) ∧ (l.foldl (bagKeep past) acc).length ≤ acc.length + l.length
  | [], acc, h => ⟨h, fun y => by simp, by simp⟩
  | d :: l, acc, h => by
    have hk : (bagKeep past acc d).Nodup ∧ (∀ y, y ∈ bagKeep past acc d ↔ y ∈ acc ∨ (bagHas past y = true ∧ arg0 d = y)) ∧ (bagKeep past acc d).length ≤ acc.length + 1 := by
      unfold bagKeep
      cases hc : (!(hasV acc (arg0 d)) && bagHas past (arg0 d)) with
      | false =>
        simp only [cond_false]
        refine ⟨h, fun y => ⟨.inl, ?_⟩, by omega⟩
        rintro (hy | ⟨h1, rfl⟩)
        · exact hy
        · rw [h1, Bool.and_true] at hc
          exact hasV_iff.1 (by simpa using hc)
      | true =>
        simp only [cond_true]
        rw [Bool.and_eq_true] at hc
        have hn : arg0 d ∉ acc := fun hm => by rw [hasV_iff.2 hm] at hc; exact absurd hc.1 (by simp)
        refine ⟨?_, fun y => ?_, by simp⟩
        · rw [List.nodup_append]
          refine ⟨h, by simp, fun a ha b hb => ?_⟩
          rw [List.mem_singleton] at hb
          subst hb
          exact fun e => hn (e ▸ ha)
        · rw [List.mem_append, List.mem_singleton]
          constructor
          · rintro (hy | rfl)
            · exact .inl hy
            · exact .inr ⟨hc.2, rfl⟩
          · rintro (hy | ⟨_, rfl⟩)
            · exact .inl hy
            · exact .inr rfl
    obtain ⟨k1, k2, k3⟩ := hk
    obtain ⟨h1, h2, h3⟩ := bagKeep_spec past (l := l) k1
    refine ⟨h1, fun y => ?_, ?_⟩
    · rw [List.foldl_cons, h2, k2]
      constructor
      · rintro ((h | h) | ⟨h, e, he, hy⟩)
        · exact .inl h
        · exact .inr ⟨h.1, d, List.mem_cons_self, h.2⟩
        · exact .inr ⟨h, e, List.mem_cons_of_mem _ he, hy⟩
      · rintro (h | ⟨h, e, he, hy⟩)
        · exact .inl (.inl h)
        · rcases List.mem_cons.1 he with rfl | he
          · exact .inl (.inr ⟨h, hy⟩)
          · exact .inr ⟨h, e, he, hy⟩
    · rw [List.foldl_cons, List.length_cons]; omega

/-- What the document's state holds. -/
theorem bag_spec (past : List Deed) : sortedV (sortV (bagList past)) = true ∧ (∀ y, y ∈ sortV (bagList past) ↔ bagHas past y = true) ∧ (sortV (bagList past)).length ≤ past.length := by
  obtain ⟨k1, k2, k3⟩ := bagKeep_spec past (l := past) (acc := []) List.nodup_nil
  obtain ⟨s1, s2, s3⟩ := sort_spec (l := bagList past) (acc := []) rfl k1 (fun y _ h => by cases h)
  refine ⟨s1, fun y => ?_, ?_⟩
  · rw [sortV, s2]
    have := k2 y
    simp only [List.not_mem_nil, false_or] at this ⊢
    rw [bagList, this]
    refine ⟨fun h => h.1, fun h => ⟨h, ?_⟩⟩
    rcases bagHas_mem h with h' | h'
    · cases h'
    · exact h'
  · have : (bagList past).length ≤ past.length := by simpa [bagList] using k3
    have s3' : (sortV (bagList past)).length ≤ (bagList past).length := by simpa [sortV] using s3
    omega

theorem bag_has (past : List Deed) (v : Val) : hasV (sortV (bagList past)) v = bagHas past v := by
  rw [Bool.eq_iff_iff, hasV_iff]; exact (bag_spec past).2.1 v

/-- One step further. -/
theorem bag_next (past : List Deed) (d : Deed) : sortV (bagList (past ++ [d])) = bif d.2.1 == 6 then sortV (bagList past) else bif d.2.1 == 4 then insV (sortV (bagList past)) (arg0 d) else delV (sortV (bagList past)) (arg0 d) := by
  obtain ⟨s1, s2, _⟩ := bag_spec past
  obtain ⟨t1, t2, _⟩ := bag_spec (past ++ [d])
  have hm : ∀ y, (y ∈ sortV (bagList (past ++ [d]))) ↔ bagHas1 y (bagHas past y) d = true := fun y => by rw [t2, bagHas_app]
  cases h6 : (d.2.1 == 6) with
  | true =>
    simp only [cond_true]
    refine sorted_ext t1 s1 fun y => ?_
    rw [hm, s2]
    unfold bagHas1
    have : (d.2.1 != 6) = false := by simp [bne, h6]
    rw [this]; rfl
  | false =>
    have h6' : (d.2.1 != 6) = true := by simp [bne, h6]
    have hb : ∀ y, bagHas1 y (bagHas past y) d = bif arg0 d == y then d.2.1 == 4 else bagHas past y := fun y => by unfold bagHas1; rw [h6']; rfl
    simp only [cond_false]
    cases h4 : (d.2.1 == 4) with
    | true =>
      simp only [cond_true]
      refine sorted_ext t1 (sorted_ins s1) fun y => ?_
      rw [hm, hb, mem_ins, s2, h4]
      cases he : (arg0 d == y) with
      | true => have := eq_of_beq he; simp [this]
      | false =>
        have : ¬ y = arg0 d := fun e => by rw [e, beq_self_eq_true] at he; cases he
        simp [this]
    | false =>
      simp only [cond_false]
      refine sorted_ext t1 (sorted_del s1) fun y => ?_
      rw [hm, hb, mem_del s1, s2, h4]
      cases he : (arg0 d == y) with
      | true => have := eq_of_beq he; simp [this]
      | false =>
        have : ¬ y = arg0 d := fun e => by rw [e, beq_self_eq_true] at he; cases he
        simp [this]

/-- Values added one by one. -/
theorem addAll_spec : ∀ {l acc : List Val}, sortedV acc = true → sortedV (l.foldl insV acc) = true ∧ (∀ y, y ∈ l.foldl insV acc ↔ y ∈ acc ∨ y ∈ l) ∧ (l.foldl insV acc).length ≤ acc.length + l.length
  | [], acc, h => ⟨h, fun y => by simp, by simp⟩
  | x :: l, acc, h => by
    obtain ⟨h1, h2, h3⟩ := addAll_spec (l := l) (sorted_ins (x := x) h)
    refine ⟨h1, fun y => ?_, ?_⟩
    · rw [List.foldl_cons, h2, mem_ins, List.mem_cons]
      constructor
      · rintro ((h | h) | h)
        · exact .inr (.inl h)
        · exact .inl h
        · exact .inr (.inr h)
      · rintro (h | h | h)
        · exact .inl (.inr h)
        · exact .inl (.inl h)
        · exact .inr h
    · have := len_ins acc x
      rw [List.foldl_cons, List.length_cons]; omega
end Go.Inc
