/- Own text of this session: a part of the proof; no condition of its own. -/
import Derived.Test.YtjhkmflnelbbmaaDoorZ2
set_option linter.unusedVariables false
set_option linter.unusedSimpArgs false
set_option maxRecDepth 100000
namespace Go.L14
open Go Go.Abs Go.Inc
theorem takes2' (v : Val) : takes 2 v = name v := by unfold takes name; cases right v <;> cases named v <;> rfl
theorem bag_fit {v : Val} (hv : name v = true) : fits 3 4 [v] = true ∧ fits 3 5 [v] = true := by
  have e : sin 3 4 = some [2] := by decide +kernel
  have e' : sin 3 5 = some [2] := by decide +kernel
  unfold fits
  rw [e, e']
  simp [takesAll, takes2', hv]
theorem bag_add {L : List Val} {v : Val} (hv : name v = true) : bagStep (mkS 3 none' 0 L) (num' 1) 4 [v] = (mkS 3 none' 0 (insV L v), [], true, ()) := by
  have ht : takes 0 (num' 1) = true := by decide +kernel
  unfold bagStep stepOk
  show (bif (bagOwn 3 && (takes 0 (num' 1) && fits 3 4 [v])) then (mkS 3 none' 0 (insV L v), [], true, ()) else _) = _
  rw [ht, (bag_fit hv).1]; rfl
theorem bag_rem {L : List Val} {v : Val} (hv : name v = true) : bagStep (mkS 3 none' 0 L) (num' 1) 5 [v] = (mkS 3 none' 0 (delV L v), [], true, ()) := by
  have ht : takes 0 (num' 1) = true := by decide +kernel
  unfold bagStep stepOk
  show (bif (bagOwn 3 && (takes 0 (num' 1) && fits 3 5 [v])) then (mkS 3 none' 0 (delV L v), [], true, ()) else _) = _
  rw [ht, (bag_fit hv).2]; rfl
theorem okBone {L : List Val} {v : Val} {o : Int} (hL : L.length ≤ 100) (hs : sortedV L = true) (hv : okV v = true) : okBStep (mkS 3 none' 0 L) (num' 1) o [v] = true := by
  simp only [okBStep, okL, Bool.and_eq_true, decide_eq_true_eq]
  exact ⟨⟨hL, hs⟩, by decide +kernel, okVs_iff.2 ⟨by simp [maxLen], by simpa using hv⟩, by simp⟩
theorem w4_6 (N : Nat) {β : Type} (x0 : Bool → Option β) (x1 : List Val → Int → Option β) (y : Option β) (l : List Val) (hok : okVs l = true) (hl : l.length ≤ 30) (b : Int) (hx0 : x0 true = y) (hx1 : (∀ v ∈ l, name v = true) → x1 l b = y) :
    ∀ (n k : Nat), l.length - k < n → (∀ v ∈ l.take k, name v = true) → W4_6 N x0 x1 n l b l (l.length : Int) (k : Int) = y
  | 0, k, h, _ => by omega
  | n + 1, k, h, hk => by
    unfold W4_6
    by_cases hd : k < l.length
    · have hmem := getD_mem (d := ((0 : Int), ((0 : Int), (ByteArray.empty, ())))) hd
      have hv := (okVs_iff.1 hok).2 _ hmem
      have htk := take_at (d := ((0 : Int), ((0 : Int), (ByteArray.empty, ())))) hd
      rw [cond_dec (by omega), cond_t (in_dec hd), Int.toNat_natCast, wi64 _ (by omega) (by omega), show ((k : Int) + 1) = ((k + 1 : Nat) : Int) by omega]
      generalize List.getD l k ((0 : Int), ((0 : Int), (ByteArray.empty, ()))) = v at hmem hv htk
      generalize hc : decide (((v.2.2.1.size : Nat) : Int) > (100 : Int)) = c
      cases c with
      | true => exact hx0
      | false =>
        rw [hv]
        cases hn : name v with
        | false => exact hx0
        | true =>
          refine w4_6 N x0 x1 y l hok hl b hx0 hx1 n (k + 1) (by omega) fun w hw => ?_
          rw [htk] at hw
          rcases List.mem_append.1 hw with hw | hw
          · exact hk w hw
          · rw [List.mem_singleton.1 hw]; exact hn
    · rw [cond_dec' (by omega)]
      refine hx1 fun v hv => hk v ?_
      rw [List.take_of_length_le (by omega)]; exact hv
def rotV (l : List Val) (b k : Nat) : List Val := (List.range k).map fun i => l.getD ((i + b) % l.length) none'
theorem rot_mem {l : List Val} {b : Nat} (hl : 0 < l.length) (y : Val) : y ∈ rotV l b l.length ↔ y ∈ l := by
  unfold rotV
  rw [List.mem_map]
  constructor
  · rintro ⟨i, _, rfl⟩
    exact getD_mem (Nat.mod_lt _ hl)
  · intro hy
    obtain ⟨j, hj, e⟩ := List.mem_iff_getElem.1 hy
    have hr : b % l.length < l.length := Nat.mod_lt _ hl
    have key : ∀ i, (i + b) % l.length = (i + b % l.length) % l.length := fun i => by rw [Nat.add_mod, Nat.add_mod i (b % l.length), Nat.mod_mod]
    by_cases hc : b % l.length ≤ j
    · refine ⟨j - b % l.length, List.mem_range.2 (by omega), ?_⟩
      rw [key, show j - b % l.length + b % l.length = j by omega, Nat.mod_eq_of_lt hj, List.getD_eq_getElem?_getD, List.getElem?_eq_getElem hj]; exact e
    · refine ⟨j + l.length - b % l.length, List.mem_range.2 (by omega), ?_⟩
      rw [key, show j + l.length - b % l.length + b % l.length = j + l.length by omega, Nat.add_mod_right, Nat.mod_eq_of_lt hj, List.getD_eq_getElem?_getD, List.getElem?_eq_getElem hj]; exact e
theorem tmod_nat (a b : Nat) : Int.tmod (a : Int) (b : Int) = ((a % b : Nat) : Int) := by
  rw [Int.tmod_eq_emod_of_nonneg (by omega)]; rfl
theorem w4_14 (N : Nat) {β : Type} (x3 : List Val → Int → Int → Int → Int → ByteArray → Int → List Val → Int → Int → Int → ByteArray → Int → List Val → Option β) (l : List Val) (hok : okVs l = true) (hn : ∀ v ∈ l, name v = true) (hl : l.length ≤ 30) (b : Nat) (hb : b ≤ 255) :
    ∀ (n k : Nat), l.length - k < n → k ≤ l.length →
    W4_14 N x3 n l (b : Int) 3 0 0 ByteArray.empty 0 ((l.take k).foldl insV []) 3 0 0 ByteArray.empty 0 ((rotV l b k).foldl insV []) (l.length : Int) (k : Int) =
      x3 l (b : Int) 3 0 0 ByteArray.empty 0 (l.foldl insV []) 3 0 0 ByteArray.empty 0 ((rotV l b l.length).foldl insV [])
  | 0, k, h, _ => by omega
  | n + 1, k, h, hk => by
    unfold W4_14
    by_cases hd : k < l.length
    · have hmod : (k + b) % l.length < l.length := Nat.mod_lt _ (by omega)
      have hmem := getD_mem (d := ((0 : Int), ((0 : Int), (ByteArray.empty, ())))) hd
      have hmem2 := getD_mem (d := ((0 : Int), ((0 : Int), (ByteArray.empty, ())))) hmod
      have hv := (okVs_iff.1 hok).2 _ hmem
      have hv2 := (okVs_iff.1 hok).2 _ hmem2
      have htk := take_at (d := ((0 : Int), ((0 : Int), (ByteArray.empty, ())))) hd
      have hrot : rotV l b (k + 1) = rotV l b k ++ [List.getD l ((k + b) % l.length) ((0 : Int), ((0 : Int), (ByteArray.empty, ())))] := by
        unfold rotV; rw [List.range_succ, List.map_append]; rfl
      have hw1 : IntKind.wrap .i64 ((k : Int) + IntKind.wrap .i64 (b : Int)) = ((k + b : Nat) : Int) := by
        rw [wi64 (b : Int) (by omega) (by omega), wi64 _ (by omega) (by omega)]; omega
      rw [cond_dec (by omega), cond_t (in_dec hd), Int.toNat_natCast, hw1, tmod_nat, show ((((l.length : Nat) : Int) == (0 : Int))) = false from beq_false_of_ne (by omega), cond_false, cond_t (in_dec hmod), Int.toNat_natCast]
      have n1 := hn _ hmem
      have n2 := hn _ hmem2
      have e1 : ∀ L : List Val, ((3 : Int), (((0 : Int), ((0 : Int), (ByteArray.empty, ()))), ((0 : Int), (L, ())))) = mkS 3 none' 0 L := fun L => rfl
      obtain ⟨s1, s2, s3⟩ := addAll_spec (l := l.take k) (acc := []) rfl
      obtain ⟨r1, r2, r3⟩ := addAll_spec (l := rotV l b k) (acc := []) rfl
      have lr : (rotV l b k).length = k := by simp [rotV]
      have lt : (l.take k).length ≤ k := by rw [List.length_take]; omega
      have l1 : ((l.take k).foldl insV []).length ≤ 100 := by simp only [List.length_nil] at s3; omega
      have l2 : ((rotV l b k).foldl insV []).length ≤ 100 := by simp only [List.length_nil] at r3; omega
      simp only [e1, okBone l1 s1 hv, okBone l2 r1 hv2, bag_add n1, bag_add n2, cond_true]
      rw [wi64 _ (by omega) (by omega), show ((k : Int) + 1) = ((k + 1 : Nat) : Int) by omega]
      have ih := w4_14 N x3 l hok hn hl b hb n (k + 1) (by omega) (by omega)
      rw [htk, hrot, List.foldl_append, List.foldl_append] at ih
      exact ih
    · rw [cond_dec' (by omega), List.take_of_length_le (by omega), show k = l.length by omega]
theorem w4_25 (N : Nat) {β : Type} (x5 : Int → Int → Int → ByteArray → Int → List Val → Int → Int → ByteArray → Int → Int → Int → ByteArray → Int → List Val → Bool → Int → Int → Int → ByteArray → Int → List Val → Option β) (A C : List Val) (v : Val) (t : Bool) (l : List Val) (hok : okVs l = true) (hn : ∀ v ∈ l, name v = true) (hl : l.length ≤ 30) :
    ∀ (n k : Nat), l.length - k < n → k ≤ l.length →
    W4_25 N x5 n 3 0 0 ByteArray.empty 0 A v.1 v.2.1 v.2.2.1 3 0 0 ByteArray.empty 0 C t 3 0 0 ByteArray.empty 0 (((l.take k).filter (· != v)).foldl insV []) l (l.length : Int) (k : Int) =
      x5 3 0 0 ByteArray.empty 0 A v.1 v.2.1 v.2.2.1 3 0 0 ByteArray.empty 0 C t 3 0 0 ByteArray.empty 0 ((l.filter (· != v)).foldl insV [])
  | 0, k, h, _ => by omega
  | n + 1, k, h, hk => by
    unfold W4_25
    by_cases hd : k < l.length
    · have hmem := getD_mem (d := ((0 : Int), ((0 : Int), (ByteArray.empty, ())))) hd
      have hv := (okVs_iff.1 hok).2 _ hmem
      have htk := take_at (d := ((0 : Int), ((0 : Int), (ByteArray.empty, ())))) hd
      rw [cond_dec (by omega), cond_t (in_dec hd), Int.toNat_natCast]
      have n1 := hn _ hmem
      generalize List.getD l k ((0 : Int), ((0 : Int), (ByteArray.empty, ()))) = w at hmem hv htk n1
      have e : ((w.1 == v.1) && ((w.2.1 == v.2.1) && ((w.2.2.1 == v.2.2.1) && true))) = (w == v) := veq w v
      rw [e]
      have e1 : ∀ L : List Val, ((3 : Int), (((0 : Int), ((0 : Int), (ByteArray.empty, ()))), ((0 : Int), (L, ())))) = mkS 3 none' 0 L := fun L => rfl
      obtain ⟨s1, s2, s3⟩ := addAll_spec (l := (l.take k).filter (· != v)) (acc := []) rfl
      have lt : ((l.take k).filter (· != v)).length ≤ k := Nat.le_trans (List.length_filter_le _ _) (by rw [List.length_take]; omega)
      have l1 : (((l.take k).filter (· != v)).foldl insV []).length ≤ 100 := by simp only [List.length_nil] at s3; omega
      have ih := w4_25 N x5 A C v t l hok hn hl n (k + 1) (by omega) (by omega)
      rw [htk, List.filter_append] at ih
      have hw2 : IntKind.wrap .i64 ((k : Int) + 1) = ((k + 1 : Nat) : Int) := by rw [wi64 _ (by omega) (by omega)]; omega
      cases hwv : (w == v) with
      | true =>
        have hf : ([w].filter (· != v)) = [] := by simp [bne, hwv]
        rw [hf, List.append_nil] at ih
        simp only [Bool.not_true, cond_false]
        rw [hw2]; exact ih
      | false =>
        have hf : ([w].filter (· != v)) = [w] := by simp [bne, hwv]
        rw [hf, List.foldl_append] at ih
        simp only [Bool.not_false, cond_true, e1, okBone l1 s1 hv, bag_add n1]
        rw [hw2]; exact ih
    · rw [cond_dec' (by omega), List.take_of_length_le (by omega)]
theorem okSSl {A B : List Val} (hA : A.length ≤ 100) (hB : B.length ≤ 100) : okSS (mkS 3 none' 0 A) (mkS 3 none' 0 B) = true := by
  simp only [okSS, okSame2, Bool.and_eq_true, decide_eq_true_eq]
  exact ⟨by show A.length ≤ 1000000; omega, by show B.length ≤ 1000000; omega⟩
def fuel4 (l : List Val) (b : Int) : Nat := 50
theorem plain4 (l : List Val) (b : Int) (h : okTurns l b = true) : F4 (fuel4 l b) l b = some (true, ()) := by
  simp only [okTurns, Bool.and_eq_true] at h
  obtain ⟨hok, hb⟩ := h
  obtain ⟨hb1, hb2⟩ := wf_u8.1 hb
  obtain ⟨bn, rfl⟩ := Int.eq_ofNat_of_zero_le hb1
  have hbn : bn ≤ 255 := by omega
  unfold F4
  by_cases h30 : ((l.length : Nat) : Int) > 30
  · rw [cond_dec h30]
  · rw [cond_dec' h30]
    have hl : l.length ≤ 30 := by omega
    refine w4_6 _ _ _ _ l hok hl (bn : Int) rfl (fun hn => ?_) _ 0 (by unfold fuel4; omega) (by simp)
    refine Eq.trans (w4_14 _ _ l hok hn hl bn hbn _ 0 (by unfold fuel4; omega) (Nat.zero_le _)) ?_
    obtain ⟨s1, s2, s3⟩ := addAll_spec (l := l) (acc := []) rfl
    obtain ⟨r1, r2, r3⟩ := addAll_spec (l := rotV l bn l.length) (acc := []) rfl
    have e1 : ∀ L : List Val, ((3 : Int), (((0 : Int), ((0 : Int), (ByteArray.empty, ()))), ((0 : Int), (L, ())))) = mkS 3 none' 0 L := fun L => rfl
    have lr : (rotV l bn l.length).length = l.length := by simp [rotV]
    have l1 : (l.foldl insV []).length ≤ 100 := by simp only [List.length_nil] at s3; omega
    have l2 : ((rotV l bn l.length).foldl insV []).length ≤ 100 := by simp only [List.length_nil] at r3; omega
    simp only [e1, okSSl l1 l2, cond_true]
    by_cases h0 : l = []
    · subst h0
      show (bif (!sameS (mkS 3 none' 0 []) (mkS 3 none' 0 [])) then _ else _) = _
      rw [sameS_self]; rfl
    · have hpos : 0 < l.length := List.length_pos_iff.2 h0
      have hAB : l.foldl insV [] = (rotV l bn l.length).foldl insV [] := sorted_ext s1 r1 fun y => by rw [s2, r2, rot_mem hpos]
      rw [← hAB, sameS_self]
      have hz : ((((l.length : Nat) : Int) == (0 : Int))) = false := beq_false_of_ne (by omega)
      have hmod : bn % l.length < l.length := Nat.mod_lt _ hpos
      have hmem := getD_mem (d := ((0 : Int), ((0 : Int), (ByteArray.empty, ())))) hmod
      simp only [Bool.not_true, cond_false, hz]
      rw [show IntKind.wrap .i64 (bn : Int) = (bn : Int) from wi64 _ (by omega) (by omega), tmod_nat, cond_t (in_dec hmod), Int.toNat_natCast]
      have hv := (okVs_iff.1 hok).2 _ hmem
      have n1 := hn _ hmem
      generalize List.getD l (bn % l.length) ((0 : Int), ((0 : Int), (ByteArray.empty, ()))) = v at hmem hv n1
      have hin : insV (l.foldl insV []) v = l.foldl insV [] := by
        have : hasV (l.foldl insV []) v = true := hasV_iff.2 ((s2 v).2 (.inr hmem))
        show (bif hasV (l.foldl insV []) v then l.foldl insV [] else _) = _
        rw [this]; rfl
      have hadd := bag_add (L := l.foldl insV []) n1
      rw [hin] at hadd
      rw [okBone l1 s1 hv, cond_true, hadd]
      refine Eq.trans (w4_25 _ _ (l.foldl insV []) (l.foldl insV []) v true l hok hn hl _ 0 (by unfold fuel4; omega) (Nat.zero_le _)) ?_
      have e2 : ((v.1, (v.2.1, (v.2.2.1, ()))) : Val) = v := rfl
      obtain ⟨q1, q2, q3⟩ := addAll_spec (l := l.filter (· != v)) (acc := []) rfl
      have lq : (l.filter (· != v)).length ≤ l.length := List.length_filter_le _ _
      have l3 : ((l.filter (· != v)).foldl insV []).length ≤ 100 := by simp only [List.length_nil] at q3; omega
      have l4 : (delV (l.foldl insV []) v).length ≤ 100 := Nat.le_trans (len_del _ _) l1
      have hD : delV (l.foldl insV []) v = (l.filter (· != v)).foldl insV [] := sorted_ext (sorted_del s1) q1 fun y => by
        rw [mem_del s1, s2, q2, List.mem_filter]
        simp
      simp only [e1, e2, okBone l1 s1 hv, bag_rem n1, okSSl l1 l1, sameS_self, okSSl l4 l3, cond_true]
      rw [hD, sameS_self]

end Go.L14
