/- Own text of this session: a part of the proof; no condition of its own. -/
import Derived.Test.YtmodjpjeepobpaaDoorZ
import Derived.Test.YtmodjpjeepobpaaDoorOrd
set_option linter.unusedVariables false
set_option linter.unusedSimpArgs false
set_option maxRecDepth 100000
namespace Go.L13
open Go Go.Abs Go.Inc
/-! What may come out -/
def fuel19 (s : State) : Nat := 0
theorem plain19 (s : State) (h : okPop s = true) : F19 0 s = some (copyS s, ()) := by
  have hs : s.2.2.2.1.length ≤ 1000000 := of_decide_eq_true h
  unfold F19 copyS
  rw [cond_dec (by simp only [List.length_nil]; omega)]
  rfl
theorem w32x (N : Nat) {β : Type} (x0 : List Int → Bool → List Val → Option β) (x1 : List Int → List Val → Option β) (l : List Val) (hl : okVs l = true) (hs : l.length ≤ 1000) :
    ∀ (n k : Nat) (acc : List Int), l.length - k < n → acc.length = k → k ≤ l.length →
    W32x_5 N x0 x1 n acc l.length (l.length : Int) (k : Int) l = match pairs k (l.drop k) with | some r => x1 (acc ++ r) l | none => x0 [] false l
  | 0, k, acc, h, _, _ => by omega
  | n + 1, k, acc, h, hb, hk => by
    have ih := w32x N x0 x1 l hl hs n (k + 1)
    unfold W32x_5
    by_cases hd : k < l.length
    · have hv := (okVs_iff.1 hl).2 _ (getD_mem (d := ((0 : Int), ((0 : Int), (ByteArray.empty, ())))) hd)
      rw [cond_dec (by omega), cond_t (in_dec hd), Int.toNat_natCast, cond_dec hd, drop_getD (d := ((0 : Int), ((0 : Int), (ByteArray.empty, ())))) hd, tm2]
      generalize List.getD l k ((0 : Int), ((0 : Int), (ByteArray.empty, ()))) = v at hv
      have hok : ∀ d, okT d v = true := fun d => hv
      have hk1 : IntKind.wrap .i64 ((k : Int) + 1) = ((k + 1 : Nat) : Int) := by rw [wi64 _ (by omega) (by omega)]; omega
      have hlen : decide ((acc.length + (List.length ((4 : Int) :: ([] : List Int)))) * 8 ≤ 140737488351232) = true := decide_eq_true (by simp; omega)
      have hlen2 : decide ((acc.length + (List.length ((2 : Int) :: ([] : List Int)))) * 8 ≤ 140737488351232) = true := decide_eq_true (by simp; omega)
      simp only [hok, cond_true, hlen, hlen2, hk1, pairs, dpair]
      by_cases hp : k % 2 = 1
      · rw [cond_dec hp, if_pos hp]
        cases takes 2 v with
        | false => rfl
        | true =>
          simp only [Bool.not_true, cond_false, cond_true]
          rw [ih _ (by omega) (by simp; omega) (by omega)]
          cases pairs (k + 1) (l.drop (k + 1)) with
          | none => rfl
          | some r => simp
      · rw [cond_dec' hp, if_neg hp]
        cases takes 4 v with
        | false => rfl
        | true =>
          simp only [Bool.not_true, cond_false, cond_true]
          rw [ih _ (by omega) (by simp; omega) (by omega)]
          cases pairs (k + 1) (l.drop (k + 1)) with
          | none => rfl
          | some r => simp
    · rw [cond_dec' (by omega), List.drop_eq_nil_of_le (by omega)]; simp [pairs]
def fuel32x (n : Nat) (l : List Val) : Nat := l.length + 1
theorem plain32x (n : Nat) (l : List Val) (h : okPX n l = true) : F32x (fuel32x n l) n l = some ((pairedGo l).1, ((pairedGo l).2.1, (l, ()))) := by
  simp only [okPX, okL, Bool.and_eq_true, decide_eq_true_eq] at h
  obtain ⟨rfl, h⟩ := h
  unfold F32x pairedGo
  have e : ((Int.tmod (((List.length l) : Nat) : Int) (2 : Int)) != (0 : Int)) = !decide (l.length % 2 = 0) := by
    rw [Int.tmod_eq_emod_of_nonneg (by omega)]
    show (!(_ == _)) = _
    congr 1
    rw [Bool.eq_iff_iff]; simp only [beq_iff_eq, decide_eq_true_eq]; omega
  rw [e]
  cases decide (l.length % 2 = 0) with
  | false => rfl
  | true =>
    have hw := w32x (fuel32x l.length l) (fun t2 t3 b => (some (t2, (t3, (b, ()))) : Option (HS.den X32x.hout))) (fun t4 b => some (t4, (true, (b, ())))) l h.1 h.2 (l.length + 1) 0 [] (by omega) rfl (by omega)
    rw [show ((0 : Nat) : Int) = 0 from rfl, List.drop_zero] at hw
    simp only [Bool.not_true, cond_false, cond_true]
    refine Eq.trans hw ?_
    cases pairs 0 l <;> rfl
def fuel20x (m o : Int) (n : Nat) (l : List Val) : Nat := 0
theorem plain20x (m o : Int) (n : Nat) (l : List Val) (h : okOX m o n l = true) : F20x 0 m o n l = some ((outsGo m o l).1, ((outsGo m o l).2.1, (l, ()))) := by
  simp only [okOX, Bool.and_eq_true, decide_eq_true_eq] at h
  obtain ⟨rfl, h'⟩ := h
  have hPX : okPX l.length l = true := by simp [okPX, h']
  have h2 := h'
  simp only [okL, Bool.and_eq_true, decide_eq_true_eq] at h2
  unfold F20x outsGo signOuts findGo
  cases hf : sfind m o with
  | none => rfl
  | some r =>
    simp only [Bool.not_true, cond_false, hPX, cond_true]
    cases decide (r.2.2.2.1 < 0) with
    | true =>
      simp only [cond_true]
      cases l with
      | nil => rfl
      | cons a l =>
        have e : ((((a :: l).length : Nat) : Int) == 0) = false := beq_false_of_ne (by simp only [List.length_cons]; omega)
        rw [e]; rfl
    | false =>
      simp only [cond_false]
      cases (r.2.2.2.1 == 99) with
      | true =>
        simp only [cond_true]
        unfold pairedGo
        cases decide (l.length % 2 = 0) with
        | false => rfl
        | true => cases pairs 0 l <;> rfl
      | false =>
        simp only [cond_false]
        match l, h2 with
        | [], _ => rfl
        | [v], h2 =>
          have hv : ∀ d, okT d v = true := fun d => (okVs_iff.1 h2.1).2 v (by simp)
          have e1 : (((List.length [v] : Nat) : Int) != 1) = false := rfl
          have e2 : (decide ((0 : Int) ≤ 0) && decide ((0 : Int) < ((List.length [v] : Nat) : Int))) = true := rfl
          have e3 : decide ((0 : Nat) < List.length [v]) = true := rfl
          rw [e1, e2]
          simp only [cond_false, cond_true, Int.toNat_zero, List.getD_cons_zero, hv, vnone, e3]
          cases takes r.2.2.2.1 v <;> cases r.2.2.2.2.1 <;> cases (v == none') <;> rfl
        | v :: w :: l, _ =>
          have e1 : (((List.length (v :: w :: l) : Nat) : Int) != 1) = true := bne_iff_ne.2 (by simp only [List.length_cons]; omega)
          rw [e1]; rfl

def fuel24x (l : List Val) (a b c : Int) (d : ByteArray) (e : Int) (f : List Val) : Nat := 0
theorem plain24x (l : List Val) (a b c : Int) (d : ByteArray) (e : Int) (f : List Val) (h : okCell 1 l = true) : F24x 0 l a b c d e f = some (cellX (cellWrite l (a, b, c, d, e, f, ()))) := by
  unfold F24x
  rw [cond_t (b0 (of_decide_eq_true h))]; rfl
def fuel25x (l : List Val) (a b c : Int) (d : ByteArray) (e : Int) (f : List Val) : Nat := 0
theorem plain25x (l : List Val) (a b c : Int) (d : ByteArray) (e : Int) (f : List Val) (h : okCell 0 l = true) : F25x 0 l a b c d e f = some (cellX (cellRead l (a, b, c, d, e, f, ()))) := rfl
def fuel26x (l : List Val) (a b c : Int) (d : ByteArray) (e : Int) (f : List Val) : Nat := 0
theorem plain26x (l : List Val) (a b c : Int) (d : ByteArray) (e : Int) (f : List Val) (h : okCell 2 l = true) : F26x 0 l a b c d e f = some (cellX (cellSwap l (a, b, c, d, e, f, ()))) := by
  have h2 : 2 ≤ l.length := of_decide_eq_true h
  unfold F26x
  rw [cond_t (b0 (by omega)), cond_t (b1 h2)]
  have e : ((b == (l.getD (Int.toNat 0) ((0 : Int), ((0 : Int), (ByteArray.empty, ())))).1) && ((c == (l.getD (Int.toNat 0) ((0 : Int), ((0 : Int), (ByteArray.empty, ())))).2.1) && ((d == (l.getD (Int.toNat 0) ((0 : Int), ((0 : Int), (ByteArray.empty, ())))).2.2.1) && true))) = (((b, c, d, ()) : Val) == l.getD 0 none') := veq (b, c, d, ()) _
  rw [e]
  unfold cellSwap
  show _ = some (cellX (bif (((b, c, d, ()) : Val) == l.getD 0 none') then _ else _))
  cases (((b, c, d, ()) : Val) == l.getD 0 none') <;> rfl
def fuel27x (l : List Val) (a b c : Int) (d : ByteArray) (e : Int) (f : List Val) : Nat := 0
theorem plain27x (l : List Val) (a b c : Int) (d : ByteArray) (e : Int) (f : List Val) (h : okCell 1 l = true) : F27x 0 l a b c d e f = some (cellX (cellRaise l (a, b, c, d, e, f, ()))) := by
  unfold F27x
  rw [b0 (of_decide_eq_true h)]
  have e1 : ((b == (0 : Int)) && ((c == (0 : Int)) && ((d == ByteArray.empty) && true))) = (((b, c, d, ()) : Val) == none') := vnone (b, c, d, ())
  rw [e1]
  unfold cellRaise
  show _ = some (cellX (([] : List Val), flS (setOne (unS (a, b, c, d, e, f, ())) (bif (((b, c, d, ()) : Val) == none') || decide (cmpV (l.getD 0 none') (b, c, d, ()) > 0) then l.getD 0 none' else (b, c, d, ()))), ()))
  have e2 : decide (cmpV (l.getD (Int.toNat 0) ((0 : Int), ((0 : Int), (ByteArray.empty, ())))) (b, (c, (d, ()))) > 0) = decide (cmpV (l.getD 0 none') (b, c, d, ()) > 0) := rfl
  rw [e2]
  cases (((b, c, d, ()) : Val) == none') <;> cases decide (cmpV (l.getD 0 none') (b, c, d, ()) > 0) <;> rfl
def fuel12x (a b c : Int) (d : ByteArray) (e : Int) (l : List Val) (f g : Int) (s : ByteArray) (o : Int) (args : List Val) : Nat := 0
theorem plain12x (a b c : Int) (d : ByteArray) (e : Int) (l : List Val) (f g : Int) (s : ByteArray) (o : Int) (args : List Val) (h : okStepX (a, ((b, (c, (d, ()))), (e, (l, ())))) (f, (g, (s, ()))) o args = true) :
    F12x 0 a b c d e l f g s o args = some (stepX (regStep (a, ((b, (c, (d, ()))), (e, (l, ())))) (f, (g, (s, ()))) o args)) := by
  simp only [okStepX, Bool.and_eq_true] at h
  obtain ⟨h1, h2, h3⟩ := h
  have hT : okT 0 (f, (g, (s, ()))) = true := h2
  have hF : okF a o args = true := h3
  unfold F12x regStep stepOk
  rw [regNew_ok]
  show _ = some (stepX (bif (regOwn a && (takes 0 (f, (g, (s, ()))) && fits a o args)) then (setOne (a, ((b, (c, (d, ()))), (e, (l, ())))) (regAct a o args (b, (c, (d, ())))).1, (regAct a o args (b, (c, (d, ())))).2, true, ()) else _))
  cases hq : regOwn a with
  | false => rfl
  | true =>
    simp only [Bool.not_true, cond_false, hT, cond_true, hF, Bool.true_and]
    cases takes 0 (f, (g, (s, ()))) with
    | false => rfl
    | true =>
      simp only [Bool.not_true, cond_false, Bool.true_and]
      cases hf : fits a o args with
      | false => rfl
      | true =>
        simp only [Bool.not_true, cond_false, cond_true]
        have hu : (unS (a, (b, (c, (d, (e, (l, ()))))))).2.1 = (b, (c, (d, ()))) := rfl
        rcases ops_reg hq hf with ⟨ho, hl⟩ | ⟨ho, hl⟩ | ⟨ho, hl⟩
        · have q : okCell 1 args = true := decide_eq_true (by omega)
          rw [ho, q]
          unfold regAct
          rw [show ((1 : Int) == 2) = false from rfl, show ((1 : Int) == 3) = false from rfl]
          simp only [cond_false, cond_true]
          cases (a == 9) with
          | true =>
            simp only [cond_true]
            unfold cellRaise
            rw [hu]
            cases (((b, (c, (d, ()))) : Val) == none' || decide (cmpV (args.getD 0 none') (b, (c, (d, ()))) > 0)) <;> rfl
          | false => rfl
        · rw [ho]; rfl
        · have q : okCell 2 args = true := decide_eq_true (by omega)
          rw [ho, q]
          unfold regAct cellSwap
          rw [hu, show ((3 : Int) == 2) = false from rfl, show ((3 : Int) == 3) = true from rfl]
          simp only [cond_false, cond_true]
          cases (((b, (c, (d, ()))) : Val) == args.getD 0 none') <;> rfl
theorem takesAll_names : ∀ {ds : List Int} {vs : List Val}, takesAll ds vs = true → (∀ d ∈ ds, d = 2 ∨ d = 4) → ∀ v ∈ vs, name v = true
  | [], [], _, _, v, h => by cases h
  | [], _ :: _, h, _, _, _ => by simp [takesAll] at h
  | _ :: _, [], h, _, _, _ => by simp [takesAll] at h
  | d :: ds, w :: vs, h, hd, v, hv => by
    simp only [takesAll, Bool.and_eq_true] at h
    rcases List.mem_cons.1 hv with rfl | hv
    · rcases hd d List.mem_cons_self with rfl | rfl
      · rw [← takes2]; exact h.1
      · rw [← takes4]; exact h.1
    · exact takesAll_names h.2 (fun d hd' => hd d (List.mem_cons_of_mem _ hd')) v hv
theorem names_reg {m o : Int} {args : List Val} (hm : regOwn m = true) (h : fits m o args = true) : ∀ v ∈ args, name v = true := by
  unfold fits sin at h
  cases hf : sfind m o with
  | none => rw [hf] at h; simp at h
  | some r =>
    have hh := List.find?_some hf
    simp only [hit, Bool.and_eq_true, beq_iff_eq] at hh
    rw [hf] at h
    have h' : takesAll (r.2.2.1.data.toList.map dom8) args = true := h
    refine takesAll_names h' ?_
    have : (tbl.all fun r => !(regOwn r.1) || (r.2.2.1.data.toList.map dom8).all fun d => d == 2 || d == 4) = true := by decide +kernel
    have := List.all_eq_true.1 this r (tbl_in hf)
    rw [hh.1, hm, Bool.not_true, Bool.false_or, List.all_eq_true] at this
    intro d hd
    simpa using this d hd
def goodO (v : Val) : Prop := v = none' ∨ (okV v = true ∧ name v = true)
theorem routs_step {m : Int} (hm : regOwn m = true) {v : Val} (hg : goodO v) (d : Deed) (hd : okVs d.2.2.1 = true) :
    regStep (mkS m v 0 []) d.1 d.2.1 d.2.2.1 = (noS, [], false, ()) ∨ ∃ (v' : Val) (out : List Val), regStep (mkS m v 0 []) d.1 d.2.1 d.2.2.1 = (mkS m v' 0 [], out, true, ()) ∧ goodO v' ∧ okVs out = true ∧ out.length ≤ 1 ∧ (signOuts m d.2.1 out).2 = true := by
  unfold regStep stepOk
  show (bif (regOwn m && (takes 0 d.1 && fits m d.2.1 d.2.2.1)) then (setOne (mkS m v 0 []) (regAct m d.2.1 d.2.2.1 v).1, (regAct m d.2.1 d.2.2.1 v).2, true, ()) else _) = _ ∨ ∃ (v' : Val) (out : List Val), (bif (regOwn m && (takes 0 d.1 && fits m d.2.1 d.2.2.1)) then (setOne (mkS m v 0 []) (regAct m d.2.1 d.2.2.1 v).1, (regAct m d.2.1 d.2.2.1 v).2, true, ()) else _) = _ ∧ _
  rw [hm]
  cases hc : (takes 0 d.1 && fits m d.2.1 d.2.2.1) with
  | false => exact .inl rfl
  | true =>
    have hf : fits m d.2.1 d.2.2.1 = true := by rw [Bool.and_eq_true] at hc; exact hc.2
    have hn := names_reg hm hf
    have hok := (okVs_iff.1 hd).2
    have hmem : ∀ i, i < d.2.2.1.length → goodO (d.2.2.1.getD i none') := fun i hi => .inr ⟨hok _ (getD_mem hi), hn _ (getD_mem hi)⟩
    have hone : ∀ w, okV w = true → okVs [w] = true := fun w h => okVs_iff.2 ⟨by simp [maxLen], by simpa using h⟩
    refine .inr ⟨(regAct m d.2.1 d.2.2.1 v).1, (regAct m d.2.1 d.2.2.1 v).2, rfl, ?_⟩
    rcases ops_reg hm hf with ⟨ho, hl⟩ | ⟨ho, hl⟩ | ⟨ho, hl⟩ <;> rw [ho]
    · have ha := hmem 0 (by omega)
      have h1 : (regAct m 1 d.2.2.1 v).2 = [] := by
        unfold regAct
        rw [show ((1 : Int) == 2) = false from rfl, show ((1 : Int) == 3) = false from rfl]
        cases (m == 9) <;> rfl
      rw [h1]
      refine ⟨?_, rfl, by simp, ?_⟩
      · unfold regAct
        rw [show ((1 : Int) == 2) = false from rfl, show ((1 : Int) == 3) = false from rfl]
        cases (m == 9) with
        | false => exact ha
        | true => cases hx : (v == none' || decide (cmpV (d.2.2.1.getD 0 none') v > 0)) <;> simp only [cond_false, cond_true, hx] <;> assumption
      · have hm' : m = 1 ∨ m = 2 ∨ m = 9 := by simpa [regOwn] using hm
        rcases hm' with rfl | rfl | rfl <;> decide +kernel
    · refine ⟨hg, ?_, by show [v].length ≤ 1; simp, ?_⟩
      · show okVs [v] = true
        refine hone v ?_
        rcases hg with rfl | h
        · rfl
        · exact h.1
      · show (signOuts m 2 [v]).2 = true
        have hm' : m = 1 ∨ m = 2 ∨ m = 9 := by simpa [regOwn] using hm
        have e : ∃ q, (q = 2 ∨ q = 4) ∧ sfind m 2 = some (row m 2 [] q true) := by
          rcases hm' with rfl | rfl | rfl
          · exact ⟨2, .inl rfl, by decide +kernel⟩
          · exact ⟨2, .inl rfl, by decide +kernel⟩
          · exact ⟨4, .inr rfl, by decide +kernel⟩
        obtain ⟨q, hq, e⟩ := e
        unfold signOuts
        rw [e]
        show ((bif decide (q < 0) then _ else bif q == 99 then _ else (bif takes q v || (true && v == none') then (([q] : List Int), true) else ([], false))) : List Int × Bool).2 = true
        have q1 : decide (q < 0) = false := decide_eq_false (by omega)
        have q2 : (q == 99) = false := beq_false_of_ne (by omega)
        rw [q1, q2]
        rcases hg with rfl | h
        · rw [beq_self_eq_true, Bool.and_self, Bool.or_true]; rfl
        · have : takes q v = true := by
            rcases hq with rfl | rfl
            · rw [takes2]; exact h.2
            · rw [takes4]; exact h.2
          rw [this]; rfl
    · have hm' : m = 2 := by
        obtain ⟨r, hr, e1, e2, _⟩ := fits_row' hf
        have : (tbl.all fun r => !(r.2.1 == 3) || r.1 == 2) = true := by decide +kernel
        have := List.all_eq_true.1 this r hr
        rw [e2, ho, e1] at this
        simpa using this
      subst hm'
      have hs : ∀ b, (signOuts 2 3 [yesV b]).2 = true := by decide +kernel
      have hy : ∀ b, okVs [yesV b] = true := by decide +kernel
      unfold regAct
      rw [show ((3 : Int) == 2) = false from rfl, show ((3 : Int) == 3) = true from rfl]
      simp only [cond_false, cond_true]
      cases (v == d.2.2.1.getD 0 none') with
      | true => exact ⟨hmem 1 (by omega), hy true, by simp, hs true⟩
      | false => exact ⟨hg, hy false, by simp, hs false⟩
theorem w5_18 (N : Nat) {β : Type} (x3 : Int → Int → Int → Int → ByteArray → Int → List Val → Int → Int → Int → ByteArray → Int → List Val → Int → Int → Int → ByteArray → Int → List Val → List Deed → Int → Int → Option β) (m : Int) (s i t : State) (l : List Deed) (a b : Int) (z : Nat) (hz : z ≤ 1000) :
    ∀ (n k : Nat) (o : List Val), z - k < n → o.length = z →
    W5_18 N x3 n m s.1 s.2.1.1 s.2.1.2.1 s.2.1.2.2.1 s.2.2.1 s.2.2.2.1 i.1 i.2.1.1 i.2.1.2.1 i.2.1.2.2.1 i.2.2.1 i.2.2.2.1 t.1 t.2.1.1 t.2.1.2.1 t.2.1.2.2.1 t.2.2.1 t.2.2.2.1 z l a b o (z : Int) (k : Int) =
      x3 m s.1 s.2.1.1 s.2.1.2.1 s.2.1.2.2.1 s.2.2.1 s.2.2.2.1 i.1 i.2.1.1 i.2.1.2.1 i.2.1.2.2.1 i.2.2.1 i.2.2.2.1 t.1 t.2.1.1 t.2.1.2.1 t.2.1.2.2.1 t.2.2.1 t.2.2.2.1 l a b
  | 0, k, o, h, _ => by omega
  | n + 1, k, o, h, ho => by
    unfold W5_18
    by_cases hd : k < z
    · rw [cond_dec (by omega), cond_t (in_dec hd), Int.toNat_natCast, cond_dec (by omega), wi64 _ (by omega) (by omega), show ((k : Int) + 1) = ((k + 1 : Nat) : Int) by omega]
      exact w5_18 N x3 m s i t l a b z hz n (k + 1) _ (by omega) (by simp [ho])
    · rw [cond_dec' (by omega)]
theorem w5_7 (N : Nat) (hN : 10 ≤ N) {β : Type} (x0 : Bool → Option β) (x1 : Unit → Option β) (m : Int) (hm : regOwn m = true) (l : List Deed) (hok : ∀ d ∈ l, okDeed d = true ∧ d.2.2.1.length ≤ 10) (hl : l.length ≤ 40) :
    ∀ (n k : Nat) (v : Val), l.length - k < n → goodO v →
    W5_7 N x0 x1 n m m v.1 v.2.1 v.2.2.1 0 [] l (l.length : Int) (k : Int) = x1 ()
  | 0, k, _, h, _ => by omega
  | n + 1, k, v, h, hp => by
    unfold W5_7
    by_cases hd : k < l.length
    · have hmem := getD_mem (d := (((0 : Int), ((0 : Int), (ByteArray.empty, ()))), ((0 : Int), (([] : List Val), ())))) hd
      rw [cond_dec (by omega), cond_t (in_dec hd), Int.toNat_natCast, wi64 _ (by omega) (by omega), show ((k : Int) + 1) = ((k + 1 : Nat) : Int) by omega,
        show ((m, ((v.1, (v.2.1, (v.2.2.1, ()))), ((0 : Int), (([] : List Val), ())))) : State) = mkS m v 0 [] from rfl]
      generalize List.getD l k (((0 : Int), ((0 : Int), (ByteArray.empty, ()))), ((0 : Int), ([], ()))) = d at hmem
      obtain ⟨ho, h10⟩ := hok d hmem
      obtain ⟨hv, hvs⟩ := okDeed_parts ho
      have q0 : okPop (mkS m v 0 []) = true := rfl
      have q1 : okStepX (mkS m v 0 []) d.1 d.2.1 d.2.2.1 = true := by
        simp only [okStepX, okL, Bool.and_eq_true, decide_eq_true_eq]
        exact ⟨q0, hv, hvs, by omega⟩
      have q5 : okSS (copyS (mkS m v 0 [])) (mkS m v 0 []) = true := rfl
      have q6 : sameS (copyS (mkS m v 0 [])) (mkS m v 0 []) = true := sameS_self _
      rw [q0, q1, q5, q6]
      rcases routs_step hm hp d hvs with e | ⟨v', out, e, h2, h3, h4, h5⟩
      · rw [e]
        simp only [cond_true, Bool.not_true, cond_false]
        exact w5_7 N hN x0 x1 m hm l hok hl n (k + 1) v (by omega) hp
      · rw [e]
        have q7 : okOX m d.2.1 out.length out = true := by simp only [okOX, okL, Bool.and_eq_true, decide_eq_true_eq]; exact ⟨trivial, h3, by omega⟩
        have q8 : (outsGo m d.2.1 out).2.1 = true := h5
        have q9 : (m != m) = false := bne_self_eq_false _
        simp only [cond_true, Bool.not_true, cond_false, stepX, q7, q8]
        show (bif (m != m) then _ else _) = _
        rw [q9, cond_false]
        refine Eq.trans (w5_18 N _ m (mkS m v 0 []) (copyS (mkS m v 0 [])) (mkS m v' 0 []) l _ _ out.length (by omega) N 0 out (by omega) rfl) ?_
        show (bif okSS (copyS (mkS m v 0 [])) (mkS m v 0 []) then bif (!sameS (copyS (mkS m v 0 [])) (mkS m v 0 [])) then _ else _ else _) = _
        rw [q5, q6, wi64 _ (by omega) (by omega), show ((k : Int) + 1) = ((k + 1 : Nat) : Int) by omega]
        exact w5_7 N hN x0 x1 m hm l hok hl n (k + 1) v' (by omega) h2
    · rw [cond_dec' (by omega)]
def fuel5 (m : Int) (l : List Deed) : Nat := 50
theorem plain5 (m : Int) (l : List Deed) (h : okPlays m l = true) : F5 (fuel5 m l) m l = some (true, ()) := by
  have h' : okDs l = true := h
  unfold F5
  rw [regNew_ok, h']
  cases hm : regOwn m with
  | false => rfl
  | true =>
    simp only [Bool.not_true, cond_false, cond_true]
    cases hg : greatD l with
    | true => rfl
    | false =>
      simp only [cond_false]
      rw [greatD_eq, Bool.or_eq_false_iff, decide_eq_false_iff_not, List.any_eq_false] at hg
      unfold regNew
      rw [hm]
      refine w5_7 _ (by unfold fuel5; decide) _ _ m hm l (fun d hd => ⟨okDs_mem h' hd, ?_⟩) (by omega) 50 0 none' (by omega) (.inl rfl)
      have := hg.1 d hd
      simp only [bigD, Bool.or_eq_true, decide_eq_true_eq, not_or] at this
      omega

end Go.L13
