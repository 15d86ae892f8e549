/- The abstract machine, part 11: make, append. Own text of this session. -/
import Derived.Test.YtkkkjcpfahhhpaaDoorAbs10
set_option linter.unusedVariables false
set_option linter.unusedSimpArgs false
namespace Go.Abs
open Go Go.RowKit

section
variable {P : Program} {gl : List (Nat × AVal)} {C : Cfg} {V0 V : Vis} {w0 : Base} {w : World} {x : Ctx} {ρ : St} {a : Act} {nt : Nat}
variable {α : Type} {K : St → Foot → Option α} {z : α} {d ty : Nat} {ps : String} {af : Array Edge} {gd : Option (Nat × Bool)}

theorem wrap_small {n : Int} (h0 : 0 ≤ n) (h : n < 9223372036854775808) : IntKind.i64.wrap n = n := by
  have h1 : n % 18446744073709551616 = n := Int.emod_eq_of_lt h0 (by omega)
  have h2 : IntKind.i64.wrap n = (if n % 18446744073709551616 ≥ 9223372036854775808 then n % 18446744073709551616 - 18446744073709551616 else n % 18446744073709551616) := by
    unfold IntKind.wrap; simp [IntKind.bits, IntKind.signed]
  rw [h2, h1, if_neg (by omega)]

theorem ev_makeSlice (hC : CfgOk P gl C) (h : R gl V0 w0 C.nt x ρ a w) (hlt : d < C.nt) {T : Nat} {N M : Operand}
    (e : evOp C ρ ⟨some d, .makeSlice T N M, ty, ps, af, gd⟩ K = some z) : Sound P gl C V0 w0 w ρ a ⟨some d, .makeSlice T N M, ty, ps, af, gd⟩ K z := by
  simp only [evOp] at e
  split at e
  case h_2 => cases e
  rename_i t eb n m hT hE hN hM hn
  split at e
  case h_2 => cases e
  rename_i hsz
  simp only [Bool.and_eq_true] at hsz
  have hsz1 := Nat.le_of_ble_eq_true hsz.1
  have hsz2 := Nat.le_of_ble_eq_true hsz.2
  cases hc : (decide (0 ≤ n) && (decide (n * (eb : Int) ≤ 140737488351232) && n == m)) with
  | false => rw [hc] at e; cases e
  | true =>
    rw [hc] at e; simp only [cond_true] at e
    simp only [Bool.and_eq_true, decide_eq_true_eq, beq_iff_eq] at hc
    obtain ⟨c1, c2, rfl⟩ := hc
    have hNv := int_of (opnd_rep hC h hN).1
    have hMv := int_of (opnd_rep hC h hM).1
    obtain ⟨E, hu, hck⟩ := chk_sl (hC.tab _ _ hT)
    obtain ⟨E', i', hu', hi', hb'⟩ := hC.eb _ _ hE
    rw [hu] at hu'; cases hu'
    obtain ⟨i, hi, hs, hz⟩ := chk_info hck
    have hii := Option.some.inj (hi'.symm.trans hi)
    rw [hii] at hb'
    obtain ⟨zv, hzv, hzr⟩ := zeroD_rep (V := x.V) hz
    have hle : n ≤ 140737488351232 := by
      have : n * 1 ≤ n * (eb : Int) := Int.mul_le_mul_of_nonneg_left (by omega) c1
      omega
    have hw := wrap_small c1 (by omega)
    have hnb : n.toNat * eb ≤ 140737488351232 := by
      have : ((n.toNat * eb : Nat) : Int) ≤ 140737488351232 := by rw [Int.natCast_mul, Int.toNat_of_nonneg c1]; exact c2
      omega
    have hbn : (eb : Int) * n ≤ 140737488351232 := by rw [Int.mul_comm]; exact c2
    have hrun : (execOp a.eval ⟨some d, .makeSlice T N M, ty, ps, af, gd⟩).run P w = .ok (.value (.slice (some ⟨w.heap.size, 0, none⟩) n.toNat n.toNat)) (w.alloc (.cells (List.replicate n.toNat zv.cells.toList).flatten.toArray E)) := by
      have t1 : (decide (n < 0) || decide ((i.bytes : Int) * n > 2 ^ 48)) = false := by
        rw [hb']; simp; omega
      have hcells : (Array.range (n.toNat * t.size)).map (fun j => (if n.toNat * t.size = 0 then #[] else zv.cells)[j % (if n.toNat * t.size = 0 then #[] else zv.cells).size]!) = (List.replicate n.toNat zv.cells.toList).flatten.toArray := by
        have hzl := hzr.len
        by_cases h0 : n.toNat = 0
        · simp [h0]
        · have h1 : ¬ n.toNat * t.size = 0 := by
            intro hh; rcases Nat.mul_eq_zero.1 hh with h | h <;> omega
          simp only [if_neg h1]
          apply Array.ext'
          have := zeros_list zv.cells.toList n.toNat
          rw [hzl] at this
          rw [← this]; simp
      have hroom : ¬ (roomBytes < n.toNat * i.bytes) := by rw [hb']; simp only [roomBytes]; omega
      simp only [execOp, Instr.makeSlice, hNv, hMv, asInt, asIntOf, Sem.run_bind, Sem.run_pure, Result.andThen_ok, run_underlying hu, typeInfo, run_program, hi, hw, Sem.run_ite, t1, chk_size hck]
      rw [if_neg (by simp; omega)]
      simp only [askRoom, Sem.run_ite, gt_iff_lt, if_neg hroom, Sem.run_pure, Result.andThen_ok]
      by_cases h0 : n.toNat * t.size = 0
      · simp only [h0, if_true, Sem.run_pure, Result.andThen_ok] at hcells ⊢
        rw [hcells]; simp [newRow]
      · simp only [h0, if_false, Sem.run_bind, zeroValue, typeInfo, run_program, Result.andThen_ok, hi, Sem.run_pure, hzv] at hcells ⊢
        rw [hcells]; simp [newRow]
    refine ⟨_, _, e, fun Kc Q hK => ?_⟩
    unfold Oper.wp
    rw [hrun]
    have hrr : RepArr (RepT x.V t) (List.replicate n.toNat (zeroD t)) (List.replicate n.toNat zv.cells.toList).flatten := rep_replicate hzr _
    have hlen := RepArr.len (fun _ _ q => q.len) hrr
    have H : ((t.size, n.toNat).2 = 0 ∧ ∃ u, AVal.ar t (List.replicate n.toNat (zeroD t)) = .ar u [] ∧ (t.size, n.toNat).1 = u.size) ∨
        ((t.size, n.toNat).2 ≠ 0 ∧ (w.alloc (.cells (List.replicate n.toNat zv.cells.toList).flatten.toArray E)).heap[w.heap.size]? = some (.cells (List.replicate n.toNat zv.cells.toList).flatten.toArray E (0, 0)) ∧
          RepCs x (.ar t (List.replicate n.toNat (zeroD t))) (List.replicate n.toNat zv.cells.toList).flatten ∧
          (∀ u xs, AVal.ar t (List.replicate n.toNat (zeroD t)) = .ar u xs → (t.size, n.toNat).1 = u.size ∧ (List.replicate n.toNat zv.cells.toList).flatten.toArray.size = (t.size, n.toNat).2 * u.size)) := by
      by_cases h0 : n.toNat = 0
      · exact .inl ⟨h0, t, by rw [h0]; rfl, rfl⟩
      · refine .inr ⟨h0, by rw [heap_alloc_new], ⟨_, [], by simp, hrr, by simp⟩, fun u xs e => ?_⟩
        cases e
        exact ⟨rfl, by rw [List.size_toArray, hlen, List.length_replicate]⟩
    obtain ⟨x', hx'⟩ := h.boxG (Nat.le_refl _) (A := .os d n.toNat) (v := .slice (some ⟨w.heap.size, 0, none⟩) n.toNat n.toNat) hlt hn (below_alloc _) H
      (fun k m => by simp [mentions] at m) (fun y hy => ⟨_, _, _, hy, rfl, Nat.le_refl _, fun _ => rfl⟩) (fun k m => (beq_true.1 (show Nat.beq d k = true from m)).symm)
    exact hK _ _ _ hx'

/-! ### Appends -/
theorem strip_men (g k : Nat) : ∀ A : AVal, mentions k (strip g A) = mentions k A := by
  intro A
  induction A with
  | sl t xs tg => cases tg <;> simp only [strip] <;> first | rfl | (split <;> rfl)
  | pr a b iha ihb => simp only [strip, mentions, iha, ihb]
  | tu a ih => simp only [strip, mentions, ih]
  | cl f a b iha ihb => simp only [strip, mentions, iha, ihb]
  | _ => rfl

theorem strip_ar {g : Nat} {B : AVal} {t : Ty} {xs : t.sl.den} (e : strip g B = .ar t xs) : B = .ar t xs := by
  cases B with
  | sl u ys tg =>
    cases tg with
    | no => cases e
    | full => cases e
    | nl => cases e
    | nn => cases e
    | own q => simp only [strip] at e; split at e <;> cases e
  | ar u ys => exact e
  | _ => cases e

theorem get_strip (g : Nat) : ∀ (ρ : St) (r : Nat), get (stripAll g ρ) r = (get ρ r).map (strip g)
  | [], r => rfl
  | (q, v) :: l, r => by
    simp only [stripAll, get]
    split
    · rfl
    · exact get_strip g l r

theorem RepCs.strip {x x' : Ctx} {g : Nat} (hV : VLe x.V x'.V) (hs : x'.sg = x.sg) (ht : ∀ q p, q ≠ g → x.tg q = some p → x'.tg q = some p) : ∀ {A cs}, RepCs x A cs → RepCs x' (strip g A) cs
  | .i _ _, _, e => e
  | .b _, _, e => e
  | .s _, _, e => e
  | .sl t xs tg, cs, ⟨r, k⟩ => by
    cases tg with
    | no => exact ⟨r.mono hV, fun v e => trivial⟩
    | full => exact ⟨r.mono hV, fun v e => k v e⟩
    | nl => exact ⟨r.mono hV, fun v e => k v e⟩
    | nn => exact ⟨r.mono hV, fun v e => k v e⟩
    | own q =>
      simp only [Abs.strip]
      split
      · exact ⟨r.mono hV, fun v e => trivial⟩
      · rename_i hq
        rw [beq_false] at hq
        exact ⟨r.mono hV, fun v e => ht _ _ hq (k v e)⟩
  | .un, _, e => e
  | .pr a b, _, ⟨c1, c2, e, r, s⟩ => ⟨c1, c2, e, RepCs.strip hV hs ht r, RepCs.strip hV hs ht s⟩
  | .bx k off, _, ⟨bl, sz, e, r⟩ => ⟨bl, sz, by rw [hs]; exact e, r⟩
  | .bi k i off, _, ⟨bl, sz, e, r⟩ => ⟨bl, sz, by rw [hs]; exact e, r⟩
  | .pt t d, _, ⟨bl, off, es, e, r, s⟩ => ⟨bl, off, es, e, r.mono hV, s.mono hV⟩
  | .nls, _, e => e
  | .cn _, _, e => e
  | .fn _, _, e => e
  | .junk, _, e => e
  | .ar t xs, _, ⟨c1, c2, e, r, s⟩ => ⟨c1, c2, e, RepArr.imp (fun _ _ q => q.mono hV) r, s⟩
  | .os k n, _, ⟨bl, sz, c, e, r⟩ => ⟨bl, sz, c, by rw [hs]; exact e, r⟩
  | .cl f a b, _, ⟨c1, c2, e, r, s⟩ => ⟨c1, c2, e, RepCs.strip hV hs ht r, RepCs.strip hV hs ht s⟩

theorem RepV1.strip {x x' : Ctx} {g : Nat} (hV : VLe x.V x'.V) (hs : x'.sg = x.sg) (ht : ∀ q p, q ≠ g → x.tg q = some p → x'.tg q = some p) {A v} (h : RepV1 x A v) : RepV1 x' (strip g A) v := by
  cases A with
  | un => exact h
  | pr a b => obtain ⟨cs, e, r⟩ := h; exact ⟨cs, e, RepCs.strip (A := .pr a b) hV hs ht r⟩
  | ar t xs => exact h.elim
  | sl t xs tg =>
    have := RepCs.strip (A := .sl t xs tg) hV hs ht h
    cases tg with
    | no => exact this
    | full => exact this
    | nl => exact this
    | nn => exact this
    | own q => revert this; simp only [Abs.strip]; split <;> exact id
  | tu a => exact h.elim
  | nd => exact h.elim
  | i k n => exact h
  | b b => exact h
  | s s => exact h
  | cl f a b => exact RepCs.strip (A := .cl f a b) hV hs ht h
  | bx k o => exact RepCs.strip (A := .bx k o) hV hs ht h
  | bi k i o => exact RepCs.strip (A := .bi k i o) hV hs ht h
  | pt t d => exact RepCs.strip (A := .pt t d) hV hs ht h
  | nls => exact h
  | cn v => exact h
  | fn f => exact h
  | junk => exact h
  | os k n => exact RepCs.strip (A := .os k n) hV hs ht h

theorem RepTup.strip {x x' : Ctx} {g : Nat} (hV : VLe x.V x'.V) (hs : x'.sg = x.sg) (ht : ∀ q p, q ≠ g → x.tg q = some p → x'.tg q = some p) : ∀ {A vs}, RepTup x A vs → RepTup x' (strip g A) vs
  | .un, _, e => e
  | .pr a b, _, ⟨v, r, e, k, s⟩ => ⟨v, r, e, k.strip hV hs ht, RepTup.strip hV hs ht s⟩

theorem RepV.strip {x x' : Ctx} {g : Nat} (hV : VLe x.V x'.V) (hs : x'.sg = x.sg) (ht : ∀ q p, q ≠ g → x.tg q = some p → x'.tg q = some p) {A v} (h : RepV x A v) : RepV x' (strip g A) v := by
  cases A with
  | tu l => obtain ⟨vs, e, r⟩ := h; exact ⟨vs, e, r.strip hV hs ht⟩
  | nd => exact h
  | sl t xs tg =>
    have := RepV1.strip (A := .sl t xs tg) hV hs ht h
    cases tg with
    | no => exact this
    | full => exact this
    | nl => exact this
    | nn => exact this
    | own q => revert this; simp only [Abs.strip]; split <;> exact id
  | un => exact RepV1.strip (A := .un) hV hs ht h
  | pr a b => exact RepV1.strip (A := .pr a b) hV hs ht h
  | ar t xs => exact h.elim
  | i k n => exact h
  | b b => exact h
  | s s => exact h
  | cl f a b => exact RepV1.strip (A := .cl f a b) hV hs ht h
  | bx k o => exact RepV1.strip (A := .bx k o) hV hs ht h
  | bi k i o => exact RepV1.strip (A := .bi k i o) hV hs ht h
  | pt t d => exact RepV1.strip (A := .pt t d) hV hs ht h
  | nls => exact h
  | cn v => exact h
  | fn f => exact h
  | junk => exact h
  | os k n => exact RepV1.strip (A := .os k n) hV hs ht h

/-- The state behind an append: tag g stands for the new slice. -/
theorem R.tagged {w' : World} {V' : Vis} {g s : Nat} {v : Value} (h : R gl V0 w0 nt x ρ a w) (hv : VisOk V' w') (hg : VLe x.V V') (ho : ∀ b o, b < w0.w.heap.size → V' b o = x.V b o)
    (hbel : w0.But w') (hsz : w.heap.size ≤ w'.heap.size)
    (hbox : ∀ k bl sz, x.sg k = some (bl, sz) → sz.2 ≠ 0 → w'.heap[bl]? = w.heap[bl]? ∧ ∀ o, V' bl o = none)
    (htag : ∀ q ad n c s', q ≠ g → x.tg q = some (.slice ad n c, s') → n ≠ c → ∀ bl, ad = some ⟨bl, 0, none⟩ → w'.heap[bl]? = w.heap[bl]? ∧ (∀ o, n * s' ≤ o → x.V bl o = none → V' bl o = none))
    (hnew : ∃ ad n c, v = .slice ad n c ∧ n ≤ c ∧ (n = c ∨ ∃ bl cur E, ad = some ⟨bl, 0, none⟩ ∧ w0.w.heap.size ≤ bl ∧ w'.heap[bl]? = some (.cells cur E (0, 0)) ∧ cur.size = c * s ∧ (∀ o, n * s ≤ o → V' bl o = none) ∧
      (∀ k sz, sz.2 ≠ 0 → x.sg k ≠ some (bl, sz)) ∧ (∀ q n' c' s', q ≠ g → x.tg q = some (.slice (some ⟨bl, 0, none⟩) n' c', s') → n' = c'))) :
    R gl V0 w0 nt { V := V', sg := x.sg, tg := fun q => if q = g then some (v, s) else x.tg q } (stripAll g ρ) a w' := by
  let x' : Ctx := { V := V', sg := x.sg, tg := fun q => if q = g then some (v, s) else x.tg q }
  have ht : ∀ q p, q ≠ g → x.tg q = some p → x'.tg q = some p := fun q p hq e => by show (if _ then _ else _) = _; rw [if_neg hq]; exact e
  refine ⟨⟨hv, h.good.grow.trans hg, fun b o hb hd => (ho b o hb).trans (h.good.old b o hb hd), ?_, ?_, h.good.inj, ?_, ?_, hbel, ?_, h.good.gok, h.good.pin⟩, ?_, h.defs, h.size, h.pk⟩
  · intro k A e
    rw [get_strip] at e
    cases hk : get ρ (br k) with
    | none => rw [hk] at e; cases e
    | some B =>
      rw [hk] at e; cases e
      obtain ⟨bl, sz, h1, h2⟩ := h.good.box k B hk
      refine ⟨bl, sz, h1, ?_⟩
      rcases h2 with ⟨hz, t, rfl, hzt⟩ | ⟨hz, cs, E, h2, h3, h4⟩
      · exact .inl ⟨hz, t, rfl, hzt⟩
      · exact .inr ⟨hz, cs, E, (hbox _ _ _ h1 hz).1.trans h2, RepCs.strip (x' := x') hg rfl ht h3, fun t xs e => h4 _ _ (strip_ar e)⟩
  · intro k bl sz e hz
    obtain ⟨h1, h2, h3⟩ := h.good.sgs k bl sz e hz
    exact ⟨h1, Nat.lt_of_lt_of_le h2 hsz, (hbox _ _ _ e hz).2⟩
  · intro q v' s' e
    change (if q = g then _ else _) = _ at e
    split at e
    · cases e
      obtain ⟨ad, n, c, rfl, h1, h2⟩ := hnew
      exact ⟨ad, n, c, rfl, h1, h2.imp id fun ⟨bl, cur, E, a1, a2, a3, a4, a5, a6, _⟩ => ⟨bl, cur, E, a1, a2, a3, a4, a5, a6⟩⟩
    · rename_i hq
      obtain ⟨ad, n, c, rfl, h1, h2⟩ := h.good.tag q v' s' e
      refine ⟨ad, n, c, rfl, h1, ?_⟩
      by_cases hnc : n = c
      · exact .inl hnc
      · refine .inr ?_
        obtain ⟨bl, cur, E, a1, a2, a3, a4, a5, a6⟩ := h2.resolve_left hnc
        obtain ⟨b1, b2⟩ := htag q ad n c s' hq e hnc bl a1
        exact ⟨bl, cur, E, a1, a2, b1.trans a3, a4, fun o ho' => b2 o ho' (a5 o ho'), a6⟩
  · intro q q' bl n c s1 n' c' s2 e1 e2 hn hn'
    change (if q = g then _ else _) = _ at e1
    change (if q' = g then _ else _) = _ at e2
    split at e1 <;> split at e2
    · rename_i h1 h2; rw [h1, h2]
    · rename_i h1 h2
      cases e1
      obtain ⟨ad, m, cc, e3, _, h4⟩ := hnew
      cases e3
      obtain ⟨bl', cur, E, a1, _, _, _, _, _, a7⟩ := h4.resolve_left hn
      cases a1
      exact absurd (a7 q' n' c' s2 h2 e2) hn'
    · rename_i h1 h2
      cases e2
      obtain ⟨ad, m, cc, e3, _, h4⟩ := hnew
      cases e3
      obtain ⟨bl', cur, E, a1, _, _, _, _, _, a7⟩ := h4.resolve_left hn'
      cases a1
      exact absurd (a7 q n c s1 h1 e1) hn
    · exact h.good.tinj q q' bl n c s1 n' c' s2 e1 e2 hn hn'
  · intro r A k e m
    rw [get_strip] at e
    cases hk : get ρ r with
    | none => rw [hk] at e; cases e
    | some B =>
      rw [hk] at e; cases e
      rw [strip_men] at m
      obtain ⟨A', h'⟩ := h.good.clo r B k hk m
      exact ⟨strip g A', by rw [get_strip, h']; rfl⟩
  · intro t A e
    rw [get_strip] at e
    cases hk : get ρ (tr t) with
    | none => rw [hk] at e; cases e
    | some B =>
      rw [hk] at e; cases e
      exact RepV.strip (x' := x') hg rfl ht (h.slots t B hk)

end
end Go.Abs
