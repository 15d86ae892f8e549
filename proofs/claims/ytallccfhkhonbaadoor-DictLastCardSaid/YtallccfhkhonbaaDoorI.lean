/- The walks of slices.Insert and slices.Delete at values. Own text of this session. -/
import Derived.Test.YtallccfhkhonbaaDoorW0
import Derived.Test.YtallccfhkhonbaaDoorIns
set_option linter.unusedVariables false
set_option linter.unusedSimpArgs false
namespace Go.L17
open Go Go.RowKit Go.Abs Go.Inc

set_option maxHeartbeats 4000000 in
set_option maxRecDepth 1000000 in
theorem del (b n c i j : Nat) (cur : Array Value) (E : TypeId) (w : World) (hg : w.heap[b]? = some (.cells cur E (0, 0))) (hcur : cur.size = c * 3) (hn : n ≤ c) (hij : i < j) (hj : j ≤ n) (hbig : n * 32 ≤ 140737488351232)
    (h1 : ∀ v ∈ cur.toList, v.oneCell' = true) :
    Calls Go.Proofs.Tryd.prog 27 #[.slice (some ⟨b, 0, none⟩) n c, .int .i64 i, .int .i64 j] w fun e w' =>
      e = .returned (.slice (some ⟨b, 0, none⟩) (n - (j - i)) c) ∧ ∃ row : Array Value, w' = w.drew.setRow b row ∧ row.size = c * 3 ∧ row.toList.take ((n - (j - i)) * 3) = cur.toList.take (i * 3) ++ (cur.toList.take (n * 3)).drop (j * 3) ∧ (∀ v ∈ row.toList, v.oneCell' = true) := by
  obtain ⟨news, hnews⟩ : ∃ news, news = (cur.toList.take (n * 3)).drop (j * 3) := ⟨_, rfl⟩
  have hlen : news.length = (n - j) * 3 := by rw [hnews]; simp [hcur]; omega
  have hone : ∀ v ∈ news, v.oneCell' = true := fun v hv => by rw [hnews] at hv; exact h1 v (List.mem_of_mem_take (List.mem_of_mem_drop hv))
  have hgd : w.drew.heap[b]? = some (.cells cur E (0, 0)) := hg
  obtain ⟨A, hA, hsrc⟩ : ∃ A : Addr, (if c = j then some (⟨b, 0, none⟩ : Addr) else some ⟨b, j * 3, none⟩) = some A ∧ Hid (∀ t u, news[t]? = some u → w.drew.cell? (A.add t) = some u) := by
    by_cases h : c = j
    · refine ⟨⟨b, 0, none⟩, by simp [h], fun t u hu => ?_⟩
      have h0 : news.length = 0 := by rw [hlen]; omega
      rw [List.length_eq_zero_iff.1 h0] at hu
      simp at hu
    · refine ⟨⟨b, j * 3, none⟩, by simp [h], fun t u hu => ?_⟩
      rw [Addr.add_lit, cell_of_row w.drew b _ cur E (0, 0) hgd, ← Array.getElem?_toList]
      rw [hnews, List.getElem?_drop, List.getElem?_take] at hu
      split at hu
      · exact hu
      · cases hu
  have s1 : Hid (news.length = (n - j) * 3) := hlen
  have s2 : Hid (∀ u ∈ news, u.oneCell' = true) := hone
  have s3 : Hid (∀ t, t < news.length → (w.drew.cell? ⟨b, 0 + i * 3 + t, none⟩).isSome = true ∧ w.drew.frozen? ⟨b, 0 + i * 3 + t, none⟩ = false) := by
    intro t ht
    rw [hlen] at ht
    exact ⟨by rw [cell_of_row w.drew b _ cur E (0, 0) hgd, Array.getElem?_eq_getElem (by omega)]; rfl, frozen_of_row w.drew b _ cur E hgd⟩
  obtain ⟨row1, hrow1⟩ : ∃ row1, row1 = (cur.toList.take (0 + i * 3) ++ news ++ cur.toList.drop (0 + i * 3 + news.length)).toArray := ⟨_, rfl⟩
  have hrow1s : row1.size = c * 3 := by rw [hrow1]; simp [hlen, hcur]; omega
  have hset : w.drew.setCells b (0 + i * 3) news = w.drew.setRow b row1 := by rw [hrow1]; exact setCells_row w.drew b _ cur E news hgd (by rw [hlen, hcur]; omega) hone
  obtain ⟨W1, hW1⟩ : ∃ W1, W1 = w.drew.setRow b row1 := ⟨_, rfl⟩
  have hg1 : W1.heap[b]? = some (.cells row1 E (0, 0)) := by rw [hW1]; exact setRow_heap w.drew b cur row1 E _ hgd
  obtain ⟨zv, hzv, hz3⟩ : ∃ zv, (∀ w, (zeroValue 25).run Go.Proofs.Tryd.prog w = .ok zv w) ∧ zv.cells.toList = [.int .i64 0, .int .i64 0, .string ByteArray.empty] := ⟨_, Go.Proofs.Tryd.zeroValue25, by rfl⟩
  have hzs : zv.cells.size = 3 := by rw [← Array.length_toList, hz3]; rfl
  have hz1 : ∀ v ∈ zv.cells.toList, v.oneCell' = true := by rw [hz3]; intro v hv; simp at hv; rcases hv with rfl | rfl <;> rfl
  have hinf : (Go.Proofs.Tryd.prog.info? 25).map (·.size) = some 3 := by kernel_rfl
  obtain ⟨i0, hi0, hi3⟩ : ∃ i0, Go.Proofs.Tryd.prog.info? 25 = some i0 ∧ i0.size = 3 := by
    cases h : Go.Proofs.Tryd.prog.info? 25 with
    | none => rw [h] at hinf; cases hinf
    | some i => rw [h] at hinf; exact ⟨i, rfl, by simpa using hinf⟩
  obtain ⟨row2, hrow2⟩ : ∃ row2, row2 = (row1.toList.take ((i + (n - j)) * 3) ++ (Builtin.zeroCells zv.cells (n - (i + (n - j)))).toList ++ row1.toList.drop ((i + (n - j)) * 3 + (n - (i + (n - j))) * 3)).toArray := ⟨_, rfl⟩
  have hcl : ∀ ty, (Builtin.clear_ #[26] ty #[.slice (some ⟨b, (i + (n - j)) * 3, none⟩) (n - (i + (n - j))) (c - (i + (n - j)))]).run Go.Proofs.Tryd.prog W1 = .ok (.tuple #[]) (W1.setRow b row2) :=
    fun ty => by rw [hrow2]; exact run_clear_n W1 26 25 ty zv 3 Go.Proofs.Tryd.underlying26 hzv hzs hz1 b _ _ _ row1 E (by omega) hg1 (by rw [hrow1s]; omega)
  have hrow2' : Hid (row2 = (row1.toList.take ((i + (n - j)) * 3) ++ (Builtin.zeroCells zv.cells (n - (i + (n - j)))).toList ++ row1.toList.drop ((i + (n - j)) * 3 + (n - (i + (n - j))) * 3)).toArray) := hrow2
  have hrow1' : Hid (row1 = (cur.toList.take (0 + i * 3) ++ news ++ cur.toList.drop (0 + i * 3 + news.length)).toArray) := hrow1
  have hnews' : Hid (news = (cur.toList.take (n * 3)).drop (j * 3)) := hnews
  have hW : Hid (W1 = w.drew.setCells b (0 + i * 3) news) := hW1.trans hset.symm
  have hW1' : Hid (W1 = w.drew.setRow b row1) := hW1
  have hzs' : zv.cells.size = 3 := hzs
  have hz1' : Hid (∀ v ∈ zv.cells.toList, v.oneCell' = true) := hz1
  have hic : i ≤ c := by omega
  have hjc : j ≤ c := by omega
  have hlt : i < j := hij
  clear hW1 hset hrow1 hrow2 hnews hlen hg1 hrow1s hone hgd hzv hz3 hzs hz1 hg hinf
  go_enter Go.Proofs.Tryd.func27, Go.Proofs.Tryd.ntmps27
  go_wp2_with fail
  go_region_law (refine step_append_room rfl (.tmp 22) (.tmp 25) 26 rfl 25 i0 3 Go.Proofs.Tryd.underlying26 hi0 hi3 b 0 i c (by simp [Act.eval, Act.put]) A (n - j) (c - j) news (by simp [Act.eval, Act.put]) s1.out hsrc.out s2.out (by omega) s3.out ?_; rw [← hW.out])
  go_wp2_with (at_builtin; refine wpList_clear_r _ rfl _ _ rfl _ rfl (hcl _) ?_)
  go_ret
  refine ⟨by rw [show n - (j - i) = i + (n - j) by omega]; rfl, row2, ?_, ?_, ?_, ?_⟩
  · rw [hW1'.out, setRow_setRow]
  all_goals
    have e2 := hrow2'.out
    have e1 := hrow1'.out
    have e0 := hnews'.out
    have l0 : news.length = (n - j) * 3 := s1.out
    have l1 : row1.size = c * 3 := by rw [e1]; simp [l0, hcur]; omega
  · rw [e2]; simp [size_zeroCells, l1, hzs']; omega
  · rw [e2, show n - (j - i) = i + (n - j) by omega, List.append_assoc, List.take_left' (by simp [l1]; omega), e1]
    simp only [Nat.zero_add]
    rw [show (i + (n - j)) * 3 = i * 3 + news.length by rw [l0]; omega, List.take_left' (by simp [hcur, l0]; omega), e0]
  · have o1 : ∀ v ∈ row1.toList, v.oneCell' = true := by
      intro v hv
      rw [e1] at hv
      simp only [List.mem_append] at hv
      rcases hv with (hv | hv) | hv
      · exact h1 v (List.mem_of_mem_take hv)
      · exact s2.out v hv
      · exact h1 v (List.mem_of_mem_drop hv)
    intro v hv
    rw [e2] at hv
    simp only [List.mem_append] at hv
    rcases hv with (hv | hv) | hv
    · exact o1 v (List.mem_of_mem_take hv)
    · exact zeroCells_one hz1'.out v hv
    · exact o1 v (List.mem_of_mem_drop hv)

set_option maxHeartbeats 4000000 in
set_option maxRecDepth 1000000 in
theorem insEnd (ad ad2 : Option Addr) (n c m c2 : Nat) (v' : Value) (w w' : World) (hn : n ≤ c) (hm : 0 < m) (hbig : (n + m) * 32 ≤ 140737488351232)
    (hrun : ∀ ty, (Builtin.append_ #[26, 26] ty #[.slice ad n c, .slice ad2 m c2]).run Go.Proofs.Tryd.prog w = .ok v' w') :
    Calls Go.Proofs.Tryd.prog 26 #[.slice ad n c, .int .i64 n, .slice ad2 m c2] w fun e w'' => e = .returned v' ∧ w'' = w' := by
  have hz1 : ¬ ((m : Int) = 0) := by omega
  go_enter Go.Proofs.Tryd.func26, Go.Proofs.Tryd.ntmps26
  cases ad with
  | none =>
    go_wp2_with (at_builtin; refine Lib.wpList_append_run _ rfl _ _ _ _ rfl _ _ rfl rfl _ _ (hrun _) ?_)
    go_ret
    exact ⟨rfl, rfl⟩
  | some a =>
    obtain ⟨ab, ao, asp⟩ := a
    go_wp2_with (at_builtin; refine Lib.wpList_append_run _ rfl _ _ _ _ rfl _ _ rfl rfl _ _ (hrun _) ?_)
    all_goals (go_ret; exact ⟨rfl, rfl⟩)

set_option maxHeartbeats 4000000 in
set_option maxRecDepth 1000000 in
theorem insShift (b n c i vb voff m vc : Nat) (cur : Array Value) (E : TypeId) (vs : List Value) (w : World) (hi : i < n) (hm : 0 < m) (hroom : n + m ≤ c) (hbig : (n + m) * 32 ≤ 140737488351232) (hvb : vb ≠ b)
    (hg : w.heap[b]? = some (.cells cur E (0, 0))) (hcur : cur.size = c * 3) (hvl : vs.length = m * 3)
    (hvs : ∀ j v, vs[j]? = some v → w.cell? ⟨vb, voff + j, none⟩ = some v) (h1 : ∀ v ∈ cur.toList, v.oneCell' = true) (h1v : ∀ v ∈ vs, v.oneCell' = true) :
    Calls Go.Proofs.Tryd.prog 26 #[.slice (some ⟨b, 0, none⟩) n c, .int .i64 i, .slice (some ⟨vb, voff, none⟩) m vc] w fun e w' =>
      e = .returned (.slice (some ⟨b, 0, none⟩) (n + m) c) ∧ ∃ row : Array Value, w' = w.drew.setRow b row ∧ row.size = c * 3 ∧
        row.toList.take ((n + m) * 3) = cur.toList.take (i * 3) ++ vs ++ (cur.toList.take (n * 3)).drop (i * 3) ∧ (∀ v ∈ row.toList, v.oneCell' = true) := by
  have hz1 : ¬ ((m : Int) = 0) := by omega
  have hz2 : ¬ ((i : Int) = (n : Int)) := by omega
  have hsz : (Go.Proofs.Tryd.prog.info? 25).map (·.size) = some 3 := by kernel_rfl
  obtain ⟨v0, hv0⟩ : ∃ v, vs[0]? = some v := ⟨vs[0]'(by omega), List.getElem?_eq_getElem (by omega)⟩
  have hov : ∀ lb cb, (callFunc 35 #[.slice (some ⟨vb, voff, none⟩) m vc, .slice (some ⟨b, (i + m) * 3, none⟩) lb cb]).run Go.Proofs.Tryd.prog w = .ok (.value (.bool false)) w := fun lb cb => by
    rw [run_callFunc_extern Go.Proofs.Tryd.func35 (by kernel_rfl) (by kernel_rfl) (by kernel_rfl) (e := Extern.SlicesOverlaps.overlaps #[26, 26] #[4]) (by kernel_rfl),
      run_overlaps_own w 26 4 25 Go.Proofs.Tryd.underlying26 3 Go.Proofs.Tryd.sizeOf25 ⟨vb, voff, none⟩ ⟨b, (i + m) * 3, none⟩ m vc lb cb hvb v0 (hvs 0 v0 hv0) cur E hg (by omega)]
    rfl
  obtain ⟨seg, hseg⟩ : ∃ seg, seg = (cur.toList.take (n * 3)).drop (i * 3) := ⟨_, rfl⟩
  have hsl : seg.length = (n - i) * 3 := by rw [hseg]; simp [hcur]; omega
  have hs1 : ∀ v ∈ seg, v.oneCell' = true := fun v hv => by rw [hseg] at hv; exact h1 v (List.mem_of_mem_take (List.mem_of_mem_drop hv))
  have hgd : w.drew.heap[b]? = some (.cells cur E (0, 0)) := hg
  have hsget : ∀ j v, seg[j]? = some v → cur[i * 3 + j]? = some v := fun j v hj => by
    rw [← Array.getElem?_toList]
    rw [hseg, List.getElem?_drop, List.getElem?_take] at hj
    split at hj
    · exact hj
    · cases hj
  obtain ⟨row1, hrow1⟩ : ∃ row1, row1 = (cur.toList.take ((i + m) * 3) ++ seg ++ cur.toList.drop ((i + m) * 3 + seg.length)).toArray := ⟨_, rfl⟩
  have hrow1s : row1.size = c * 3 := by rw [hrow1]; simp [hsl, hcur]; omega
  have hcp1 : ∀ ty dc sc, (Builtin.copy_ #[26, 26] ty #[.slice (some ⟨b, (i + m) * 3, none⟩) (n + m - (i + m)) dc, .slice (some ⟨b, i * 3, none⟩) (n + m - i) sc]).run Go.Proofs.Tryd.prog w.drew = .ok (goInt (Nat.min (n + m - i) (n + m - (i + m)))) (w.drew.setRow b row1) := fun ty dc sc => by
    rw [hrow1]
    exact run_copy_n w.drew _ _ ty 25 b ((i + m) * 3) (n + m - (i + m)) dc ⟨b, i * 3, none⟩ (n + m - i) sc 3 cur E seg Go.Proofs.Tryd.underlying26 hsz hgd (by rw [hsl]; simp only [Nat.min_def]; split <;> omega)
      (fun j v hj => by rw [Addr.add_lit, cell_of_row w.drew b _ cur E (0, 0) hgd]; exact hsget j v hj) (by rw [hsl, hcur]; omega) hs1
  obtain ⟨W1, hW1⟩ : ∃ W1, W1 = w.drew.setRow b row1 := ⟨_, rfl⟩
  have hg1 : W1.heap[b]? = some (.cells row1 E (0, 0)) := by rw [hW1]; exact setRow_heap w.drew b cur row1 E _ hgd
  obtain ⟨row2, hrow2⟩ : ∃ row2, row2 = (row1.toList.take (i * 3) ++ vs ++ row1.toList.drop (i * 3 + vs.length)).toArray := ⟨_, rfl⟩
  have hcp2 : ∀ ty dc, (Builtin.copy_ #[26, 26] ty #[.slice (some ⟨b, i * 3, none⟩) (n + m - i) dc, .slice (some ⟨vb, voff, none⟩) m vc]).run Go.Proofs.Tryd.prog W1 = .ok (goInt (Nat.min m (n + m - i))) (W1.setRow b row2) := fun ty dc => by
    rw [hrow2]
    exact run_copy_n W1 _ _ ty 25 b (i * 3) (n + m - i) dc ⟨vb, voff, none⟩ m vc 3 row1 E vs Go.Proofs.Tryd.underlying26 hsz hg1 (by rw [hvl]; simp only [Nat.min_def]; split <;> omega)
      (fun j v hj => by
        rw [Addr.add_lit, hW1, World.cell?_of_block (a := ⟨vb, voff + j, none⟩) (w := w) (setRow_other w.drew b vb row1 hvb)]
        exact hvs j v hj) (by rw [hvl, hrow1s]; omega) h1v
  have hw1 : IntKind.i64.wrap ((i : Int) + (m : Int)) = (i : Int) + (m : Int) := by rw [IntKind.wrap_i64]; omega
  have hb1 : (0 : Int) ≤ (i : Int) + (m : Int) := by omega
  have hin : i ≤ n := by omega
  have htn : ((i : Int) + (m : Int)).toNat = i + m := by omega
  have hb2 : ¬ (c = i + m) := by omega
  have hb3 : (i : Int) ≤ (n : Int) + (m : Int) := by omega
  have hb4 : ¬ (c = i) := by omega
  rw [← hW1] at hcp1
  have k1 : Hid (row1 = (cur.toList.take ((i + m) * 3) ++ seg ++ cur.toList.drop ((i + m) * 3 + seg.length)).toArray) := hrow1
  have k2 : Hid (row2 = (row1.toList.take (i * 3) ++ vs ++ row1.toList.drop (i * 3 + vs.length)).toArray) := hrow2
  have k3 : Hid (seg = (cur.toList.take (n * 3)).drop (i * 3)) := hseg
  have k4 : Hid (W1 = w.drew.setRow b row1) := hW1
  have k5 : Hid (seg.length = (n - i) * 3) := hsl
  have k6 : Hid (row1.size = c * 3) := hrow1s
  have k7 : Hid (∀ v ∈ seg, v.oneCell' = true) := hs1
  have k8 : Hid (vs.length = m * 3) := hvl
  have k9 : Hid (∀ v ∈ vs, v.oneCell' = true) := h1v
  have k10 : Hid (∀ v ∈ cur.toList, v.oneCell' = true) := h1
  clear hW1 hrow1 hrow2 hseg hsl hs1 hgd hsget hrow1s hg1 hsz hv0 hvs h1 h1v hvl
  go_enter Go.Proofs.Tryd.func26, Go.Proofs.Tryd.ntmps26
  go_wp2_with (simp only [hov])
  go_region_law (refine step_copy_r rfl _ _ 26 26 rfl _ _ (by simp [Act.eval, Act.put]) (by simp [Act.eval, Act.put]) (hcp1 _ _ _) ?_)
  go_wp2_with (at_builtin; refine wpList_copy_r _ rfl _ _ 26 26 rfl _ _ rfl rfl (hcp2 _ _) ?_)
  go_ret
  refine ⟨rfl, row2, by rw [k4.out, setRow_setRow], ?_, ?_, ?_⟩
  all_goals
    have e1 := k1.out
    have e2 := k2.out
    have e3 := k3.out
    have l1 := k5.out
    have l2 := k6.out
    have l3 := k8.out
  · rw [e2]; simp [l2, l3]; omega
  · have a1 : (cur.toList.take ((i + m) * 3)).length = (i + m) * 3 := by simp [hcur]; omega
    have a2 : row1.toList.take (i * 3) = cur.toList.take (i * 3) := by
      rw [e1, List.append_assoc, List.take_append_of_le_length (by rw [a1]; omega), List.take_take]
      congr 1; omega
    have a3 : row1.toList.drop (i * 3 + vs.length) = seg ++ cur.toList.drop ((i + m) * 3 + seg.length) := by
      rw [e1, List.append_assoc]
      exact List.drop_left' (by rw [a1, l3]; omega)
    rw [e2, a2, a3, ← e3]
    have a4 : (cur.toList.take (i * 3) ++ vs ++ seg).length = (n + m) * 3 := by simp [hcur, l1, l3]; omega
    rw [← List.append_assoc]
    exact List.take_left' a4
  · have o1 : ∀ v ∈ row1.toList, v.oneCell' = true := by
      intro v hv
      rw [e1] at hv
      simp only [List.mem_append] at hv
      rcases hv with (hv | hv) | hv
      · exact k10.out v (List.mem_of_mem_take hv)
      · exact k7.out v hv
      · exact k10.out v (List.mem_of_mem_drop hv)
    intro v hv
    rw [e2] at hv
    simp only [List.mem_append] at hv
    rcases hv with (hv | hv) | hv
    · exact o1 v (List.mem_of_mem_take hv)
    · exact k9.out v hv
    · exact o1 v (List.mem_of_mem_drop hv)
set_option maxHeartbeats 4000000 in
set_option maxRecDepth 1000000 in
theorem insGrow (b n c i vb voff m vc : Nat) (cur : Array Value) (E : TypeId) (vs : List Value) (w : World) (hi : i < n) (hm : 0 < m) (hnc : n ≤ c) (hroom : c < n + m) (hbig : (n + m) * 32 ≤ 140737488351232) (hvb : vb ≠ b)
    (hg : w.heap[b]? = some (.cells cur E (0, 0))) (hcur : cur.size = c * 3) (hvl : vs.length = m * 3)
    (hvs : ∀ j v, vs[j]? = some v → w.cell? ⟨vb, voff + j, none⟩ = some v) (h1 : ∀ v ∈ cur.toList, v.oneCell' = true) (h1v : ∀ v ∈ vs, v.oneCell' = true) :
    Calls Go.Proofs.Tryd.prog 26 #[.slice (some ⟨b, 0, none⟩) n c, .int .i64 i, .slice (some ⟨vb, voff, none⟩) m vc] w fun e w' =>
      ∃ G row, e = .returned (.slice (some ⟨w.heap.size, 0, none⟩) (n + m) G) ∧ n + m ≤ G ∧ Below w.heap.size w w' ∧ w'.heap[w.heap.size]? = some (.cells row 25 (0, 0)) ∧ row.size = G * 3 ∧
        row.toList.take ((n + m) * 3) = cur.toList.take (i * 3) ++ vs ++ (cur.toList.take (n * 3)).drop (i * 3) ∧ (∀ v ∈ row.toList, v.oneCell' = true) := by
  have hz1 : ¬ ((m : Int) = 0) := by omega
  have hz2 : ¬ ((i : Int) = (n : Int)) := by omega
  have hz3 : (c : Int) < (n : Int) + (m : Int) := by omega
  have hinf : (Go.Proofs.Tryd.prog.info? 25).map (fun i => (i.zero.map (fun z => z.cells.toList), i.size, i.bytes)) = some (some [.int .i64 0, .int .i64 0, .string ByteArray.empty], 3, 32) := by kernel_rfl
  obtain ⟨i0, zv, hi0, hz0, hzc, hi3, hib⟩ : ∃ i0 zv, Go.Proofs.Tryd.prog.info? 25 = some i0 ∧ i0.zero = some zv ∧ zv.cells.toList = [.int .i64 0, .int .i64 0, .string ByteArray.empty] ∧ i0.size = 3 ∧ i0.bytes = 32 := by
    cases h : Go.Proofs.Tryd.prog.info? 25 with
    | none => rw [h] at hinf; cases hinf
    | some i =>
      rw [h] at hinf
      simp only [Option.map_some, Option.some.injEq, Prod.mk.injEq] at hinf
      obtain ⟨p1, p2, p3⟩ := hinf
      cases hz : i.zero with
      | none => rw [hz] at p1; cases p1
      | some z => rw [hz] at p1; exact ⟨i, z, rfl, hz, by simpa using p1, p2, p3⟩
  have hzs : zv.cells.size = 3 := by rw [← Array.length_toList, hzc]; rfl
  have hzo : ∀ v ∈ zv.cells.toList, v.oneCell' = true := by rw [hzc]; intro v hv; simp at hv; rcases hv with rfl | rfl <;> rfl
  have hsz : (Go.Proofs.Tryd.prog.info? 25).map (·.size) = some 3 := by rw [hi0]; simp [hi3]
  obtain ⟨v0, hv0⟩ : ∃ v, vs[0]? = some v := ⟨vs[0]'(by omega), List.getElem?_eq_getElem (by omega)⟩
  have hbw : b < w.heap.size := (Array.getElem?_eq_some_iff.1 hg).1
  have hvw : vb < w.heap.size := block_lt_of_cell (hvs 0 v0 hv0)
  have hkk : (n : Int) + (m : Int) - (i : Int) = ((n + m - i : Nat) : Int) := by omega
  have hik : i + (n + m - i) = n + m := by omega
  have hgd : w.drew.heap[b]? = some (.cells cur E (0, 0)) := hg
  have hold : (Builtin.firstCells i0.size i (.slice (some ⟨b, 0, none⟩) i c)).run Go.Proofs.Tryd.prog w.drew = .ok (cur.toList.take (i * 3)).toArray w.drew := by
    rw [hi3]
    exact run_firstCells_some w.drew 3 i ⟨b, 0, none⟩ i c (cur.toList.take (i * 3)) (by rw [List.length_take, Array.length_toList, hcur]; omega) (fun j v hj => by
      rw [Addr.add_lit, cell_of_row w.drew b _ cur E (0, 0) hgd, ← Array.getElem?_toList, Nat.zero_add]
      rw [List.getElem?_take] at hj
      split at hj
      · exact hj
      · cases hj)
  have hrz : ∀ ty, (Builtin.append_ #[26, 3] ty #[.slice (some ⟨b, 0, none⟩) i c, .int .i64 ((n : Int) + (m : Int) - (i : Int))]).run Go.Proofs.Tryd.prog w =
      .ok (.slice (some ⟨w.heap.size, 0, none⟩) (n + m) (grownCap w (n + m) c 25)) (w.drew.alloc (.cells ((cur.toList.take (i * 3)).toArray ++ Builtin.zeroCells zv.cells (n + m - i) ++ Builtin.zeroCells zv.cells (grownCap w (n + m) c 25 - (n + m))) 25)) := fun ty => by
    have h := Lib.run_append_grow_zeros w 26 3 ty 25 i0 zv .i64 .i64 Go.Proofs.Tryd.underlying26 Go.Proofs.Tryd.underlying3 hi0 hz0 (some ⟨b, 0, none⟩) i c (cur.toList.take (i * 3)) hold (n + m - i) (by omega) (by omega) (by omega) (by omega) (by rw [hib]; omega) (by rw [hib, hik]; exact growslice_fits hroom (by omega))
    rw [hik] at h
    rw [hkk]
    exact h
  obtain ⟨G, hG⟩ : ∃ G, G = grownCap w (n + m) c 25 := ⟨_, rfl⟩
  obtain ⟨ROW, hROW⟩ : ∃ ROW : Array Value, ROW = (cur.toList.take (i * 3)).toArray ++ Builtin.zeroCells zv.cells (n + m - i) ++ Builtin.zeroCells zv.cells (G - (n + m)) := ⟨_, rfl⟩
  rw [← hG] at hrz
  rw [← hROW] at hrz
  have hGn : n + m ≤ G := by rw [hG]; exact grownCap_ge w _ _ _
  have hRl : ROW.size = G * 3 := by
    rw [hROW]
    simp only [Array.size_append, List.size_toArray, List.length_take, Array.length_toList, hcur, size_zeroCells, hzs]
    omega
  have hRo : ∀ v ∈ ROW.toList, v.oneCell' = true := by
    intro v hv
    rw [hROW] at hv
    simp only [Array.toList_append, List.mem_append] at hv
    rcases hv with (hv | hv) | hv
    · exact h1 v (List.mem_of_mem_take hv)
    · exact zeroCells_one hzo v hv
    · exact zeroCells_one hzo v hv
  have hRt : ROW.toList.take (i * 3) = cur.toList.take (i * 3) := by
    rw [hROW]
    simp only [Array.toList_append, List.append_assoc]
    exact List.take_left' (by simp [hcur]; omega)
  obtain ⟨W1, hW1⟩ : ∃ W1, W1 = w.drew.alloc (.cells ROW 25) := ⟨_, rfl⟩
  rw [← hW1] at hrz
  have hg1 : W1.heap[w.heap.size]? = some (.cells ROW 25 (0, 0)) := by rw [hW1]; exact heap_alloc_new w.drew _
  have hold1 : ∀ k, k < w.heap.size → W1.heap[k]? = w.heap[k]? := fun k hk => by rw [hW1]; exact heap_alloc_old w.drew _ hk
  obtain ⟨rowA, hrowA⟩ : ∃ rowA, rowA = (ROW.toList.take (i * 3) ++ vs ++ ROW.toList.drop (i * 3 + vs.length)).toArray := ⟨_, rfl⟩
  have hAs : rowA.size = G * 3 := by rw [hrowA]; simp [hRl, hvl]; omega
  have hcpA : ∀ ty dc, (Builtin.copy_ #[26, 26] ty #[.slice (some ⟨w.heap.size, i * 3, none⟩) (n + m - i) dc, .slice (some ⟨vb, voff, none⟩) m vc]).run Go.Proofs.Tryd.prog W1 = .ok (goInt (Nat.min m (n + m - i))) (W1.setRow w.heap.size rowA) := fun ty dc => by
    rw [hrowA]
    exact run_copy_n W1 _ _ ty 25 w.heap.size (i * 3) (n + m - i) dc ⟨vb, voff, none⟩ m vc 3 ROW 25 vs Go.Proofs.Tryd.underlying26 hsz hg1 (by rw [hvl]; simp only [Nat.min_def]; split <;> omega)
      (fun j v hj => by
        rw [Addr.add_lit, World.cell?_of_block (a := ⟨vb, voff + j, none⟩) (w := w) (hold1 vb hvw)]
        exact hvs j v hj) (by rw [hvl, hRl]; omega) h1v
  obtain ⟨seg, hseg⟩ : ∃ seg, seg = (cur.toList.take (n * 3)).drop (i * 3) := ⟨_, rfl⟩
  have hsl : seg.length = (n - i) * 3 := by rw [hseg]; simp [hcur]; omega
  have hs1 : ∀ v ∈ seg, v.oneCell' = true := fun v hv => by rw [hseg] at hv; exact h1 v (List.mem_of_mem_take (List.mem_of_mem_drop hv))
  have hsget : ∀ j v, seg[j]? = some v → cur[i * 3 + j]? = some v := fun j v hj => by
    rw [← Array.getElem?_toList]
    rw [hseg, List.getElem?_drop, List.getElem?_take] at hj
    split at hj
    · exact hj
    · cases hj
  obtain ⟨W2, hW2⟩ : ∃ W2, W2 = W1.setRow w.heap.size rowA := ⟨_, rfl⟩
  have hg2 : W2.drew.heap[w.heap.size]? = some (.cells rowA 25 (0, 0)) := by rw [hW2]; exact setRow_heap W1 w.heap.size ROW rowA 25 _ hg1
  have hgb : W2.drew.heap[b]? = some (.cells cur E (0, 0)) := by
    rw [hW2]
    show (W1.setRow w.heap.size rowA).heap[b]? = _
    rw [setRow_other W1 w.heap.size b rowA (by omega), hold1 b hbw]; exact hg
  obtain ⟨rowB, hrowB⟩ : ∃ rowB, rowB = (rowA.toList.take ((i + m) * 3) ++ seg ++ rowA.toList.drop ((i + m) * 3 + seg.length)).toArray := ⟨_, rfl⟩
  have hcpB : ∀ ty dc sc, (Builtin.copy_ #[26, 26] ty #[.slice (some ⟨w.heap.size, (i + m) * 3, none⟩) (n + m - (i + m)) dc, .slice (some ⟨b, i * 3, none⟩) (n - i) sc]).run Go.Proofs.Tryd.prog W2.drew = .ok (goInt (Nat.min (n - i) (n + m - (i + m)))) (W2.drew.setRow w.heap.size rowB) := fun ty dc sc => by
    rw [hrowB]
    exact run_copy_n W2.drew _ _ ty 25 w.heap.size ((i + m) * 3) (n + m - (i + m)) dc ⟨b, i * 3, none⟩ (n - i) sc 3 rowA 25 seg Go.Proofs.Tryd.underlying26 hsz hg2 (by rw [hsl]; simp only [Nat.min_def]; split <;> omega)
      (fun j v hj => by rw [Addr.add_lit, cell_of_row W2.drew b _ cur E (0, 0) hgb]; exact hsget j v hj) (by rw [hsl, hAs]; omega) hs1
  rw [← hW2] at hcpA
  have hG63 : G ≤ 9223372036854775807 := by
    have := grownCap_le_maxLen w (n + m) c 25 (by unfold maxLen; omega)
    rw [← hG] at this
    unfold maxLen at this
    omega
  have hB : Below w.heap.size w (W2.drew.setRow w.heap.size rowB) := by
    have b1 : Below w.heap.size w W1 := by rw [hW1]; exact ((Below.refl _ w).drew).alloc (Nat.le_refl _) _
    have b2 : Below w.heap.size w W2 := by rw [hW2]; exact b1.trans ⟨rfl, rfl, rfl, by simp, fun k hk => setRow_other W1 w.heap.size k rowA (by omega)⟩
    exact b2.drew.trans ⟨rfl, rfl, rfl, by simp, fun k hk => setRow_other W2.drew w.heap.size k rowB (by omega)⟩
  have hgB : (W2.drew.setRow w.heap.size rowB).heap[w.heap.size]? = some (.cells rowB 25 (0, 0)) := setRow_heap W2.drew w.heap.size rowA rowB 25 _ hg2
  have k13 : Hid (Below w.heap.size w (W2.drew.setRow w.heap.size rowB)) := hB
  have k14 : Hid ((W2.drew.setRow w.heap.size rowB).heap[w.heap.size]? = some (.cells rowB 25 (0, 0))) := hgB
  have k15 : Hid (n + m ≤ G) := hGn
  clear hB hgB
  have hGi : ¬ (G = i) := by omega
  have hGim : ¬ (G = i + m) := by omega
  have hci : ¬ (c = i) := by omega
  have hw1 : IntKind.i64.wrap ((i : Int) + (m : Int)) = (i : Int) + (m : Int) := by rw [IntKind.wrap_i64]; omega
  have hb1 : (0 : Int) ≤ (i : Int) + (m : Int) := by omega
  have hin : i ≤ n := by omega
  have htn : ((i : Int) + (m : Int)).toNat = i + m := by omega
  have hb3 : (i : Int) ≤ (n : Int) := by omega
  obtain ⟨N, hN⟩ : ∃ N, N = w.heap.size := ⟨_, rfl⟩
  have k0 : Hid (W1 = w.drew.alloc (.cells ROW 25)) := hW1
  have k1 : Hid (W2 = W1.setRow w.heap.size rowA) := hW2
  have k2 : Hid (rowA = (ROW.toList.take (i * 3) ++ vs ++ ROW.toList.drop (i * 3 + vs.length)).toArray) := hrowA
  have k3 : Hid (rowB = (rowA.toList.take ((i + m) * 3) ++ seg ++ rowA.toList.drop ((i + m) * 3 + seg.length)).toArray) := hrowB
  have k4 : Hid (seg = (cur.toList.take (n * 3)).drop (i * 3)) := hseg
  have k5 : Hid (seg.length = (n - i) * 3) := hsl
  have k6 : Hid (rowA.size = G * 3) := hAs
  have k7 : Hid (∀ v ∈ seg, v.oneCell' = true) := hs1
  have k8 : Hid (vs.length = m * 3) := hvl
  have k9 : Hid (∀ v ∈ vs, v.oneCell' = true) := h1v
  have k10 : Hid (∀ v ∈ ROW.toList, v.oneCell' = true) := hRo
  have k11 : Hid (ROW.toList.take (i * 3) = cur.toList.take (i * 3)) := hRt
  have k12 : Hid (ROW.size = G * 3) := hRl
  clear hkk hik hold hROW hG hRl hW1 hW2 hrowA hrowB hseg hsl hAs hs1 hvl h1v hRo hRt hg1 hold1 hg2 hgb hsget hgd hg hvs hv0 hinf hzc hzo hsz h1
  go_enter Go.Proofs.Tryd.func26, Go.Proofs.Tryd.ntmps26
  go_wp2_with (first
    | (at_builtin; refine Lib.wpList_append_run _ rfl _ _ _ _ rfl _ _ rfl rfl _ _ (hrz _) ?_)
    | (at_builtin; refine wpList_copy_r _ rfl _ _ 26 26 rfl _ _ rfl rfl (hcpA _ _) ?_))
  go_region_law (refine step_copy_r rfl _ _ 26 26 rfl _ _ (by simp [Act.eval, Act.put]) (by simp [Act.eval, Act.put]) (hcpB _ _ _) ?_)
  go_wp2
  go_ret
  refine ⟨G, rowB, rfl, k15.out, k13.out, k14.out, ?_, ?_, ?_⟩
  all_goals
    have e1 := k2.out
    have e2 := k3.out
    have e3 := k4.out
    have l1 := k5.out
    have l2 := k6.out
    have l3 := k8.out
    have l4 := k12.out
    have l5 := k15.out
  · rw [e2]; simp [l2, l1]; omega
  · have a1 : rowA.toList = cur.toList.take (i * 3) ++ vs ++ ROW.toList.drop (i * 3 + vs.length) := by rw [e1, k11.out]
    have a2 : (cur.toList.take (i * 3) ++ vs).length = (i + m) * 3 := by simp [hcur, l3]; omega
    rw [e2, a1, List.take_left' a2, ← e3]
    exact List.take_left' (by rw [List.length_append, a2, l1]; omega)
  · have o1 : ∀ v ∈ rowA.toList, v.oneCell' = true := by
      intro v hv
      rw [e1] at hv
      simp only [List.mem_append] at hv
      rcases hv with (hv | hv) | hv
      · exact k10.out v (List.mem_of_mem_take hv)
      · exact k9.out v hv
      · exact k10.out v (List.mem_of_mem_drop hv)
    intro v hv
    rw [e2] at hv
    simp only [List.mem_append] at hv
    rcases hv with (hv | hv) | hv
    · exact o1 v (List.mem_of_mem_take hv)
    · exact k7.out v hv
    · exact o1 v (List.mem_of_mem_drop hv)

theorem okx26 {gl : List (Nat × AVal)} : XOK Go.Proofs.Tryd.prog gl 26 X26 := by
  have hinf : (Go.Proofs.Tryd.prog.info? 25).map (fun i => (i.size, zOk VT i.zero, i.bytes)) = some (3, true, 32) := by kernel_rfl
  cases h : Go.Proofs.Tryd.prog.info? 25 with
  | none => rw [h] at hinf; cases hinf
  | some i0 =>
    rw [h] at hinf
    simp only [Option.map_some, Option.some.injEq, Prod.mk.injEq] at hinf
    exact xok_insert (T := 26) (E := 25) Go.Proofs.Tryd.underlying26 h hinf.1 hinf.2.1 hinf.2.2 rfl insEnd insShift insGrow
theorem okx27 {gl : List (Nat × AVal)} : XOK Go.Proofs.Tryd.prog gl 27 X27 := xok_delete rfl del

end Go.L17
