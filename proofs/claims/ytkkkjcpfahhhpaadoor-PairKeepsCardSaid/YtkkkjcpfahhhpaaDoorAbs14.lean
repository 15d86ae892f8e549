/- The abstract machine, part 14: regions in the order of the text. Own text of this session. -/
import Derived.Test.YtkkkjcpfahhhpaaDoorAbs13
set_option linter.unusedVariables false
set_option linter.unusedSimpArgs false
namespace Go.Abs
open Go Go.RowKit

section
variable {P : Program} {gl : List (Nat × AVal)} {C : Cfg} {V0 V : Vis} {w0 : Base} {w : World} {x : Ctx} {ρ : St} {a : Act} {nt : Nat}
variable {α : Type} {z : α}

/-- Only what a state answers counts. -/
theorem R.congr {ρ' : St} (h : R gl V0 w0 nt x ρ a w) (e : ∀ r, get ρ r = get ρ' r) : R gl V0 w0 nt x ρ' a w :=
  ⟨⟨h.good.vis, h.good.grow, h.good.old, fun k A q => h.good.box k A ((e _).trans q), h.good.sgs, h.good.inj, h.good.tag, h.good.tinj, h.good.bel,
    fun r A k q m => by obtain ⟨A', h'⟩ := h.good.clo r A k ((e _).trans q) m; exact ⟨A', (e _).symm.trans h'⟩, h.good.gok, h.good.pin⟩,
    fun t A q => h.slots t A ((e _).trans q), h.defs, h.size, h.pk⟩

theorem closedIn_men {keep : List Nat} {k : Nat} : ∀ {A : AVal}, closedIn keep A = true → mentions k A = true → br k ∈ keep := by
  intro A
  induction A with
  | bx j o => intro h m; simp only [mentions, beq_true] at m; subst m; exact mem_iff.1 h
  | bi j i o => intro h m; simp only [mentions, beq_true] at m; subst m; exact mem_iff.1 h
  | os j n => intro h m; simp only [mentions, beq_true] at m; subst m; exact mem_iff.1 h
  | pr p q ihp ihq =>
    intro h m
    simp only [closedIn] at h
    split at h
    case h_2 => cases h
    rename_i h1
    simp only [mentions] at m
    split at m
    · rename_i hm; exact ihp h1 hm
    · exact ihq h m
  | cl f p q ihp ihq =>
    intro h m
    simp only [closedIn] at h
    split at h
    case h_2 => cases h
    rename_i h1
    simp only [mentions] at m
    split at m
    · rename_i hm; exact ihp h1 hm
    · exact ihq h m
  | tu p ih => intro h m; exact ih h m
  | _ => intro h m; simp [mentions] at m

theorem get_focusOn {keep : List Nat} {ρ : St} : ∀ {l : List Nat} {m : St}, focusOn keep ρ l = some m →
    (∀ q A, get m q = some A → get ρ q = some A ∧ closedIn keep A = true) ∧ (∀ k A, br k ∈ l → get ρ (br k) = some A → get m (br k) = some A)
  | [], m, e => by cases e; exact ⟨(fun q A h => by cases h), (fun k A h => by cases h)⟩
  | r :: l, m, e => by
    simp only [focusOn] at e
    split at e
    · rename_i hn
      obtain ⟨h1, h2⟩ := get_focusOn e
      refine ⟨h1, fun k A hk hg => ?_⟩
      rcases List.mem_cons.1 hk with rfl | hk
      · rw [hn] at hg; cases hg
      · exact h2 k A hk hg
    · rename_i v hv
      split at e
      · rename_i hc
        split at e
        case h_2 => cases e
        rename_i m' hm'
        cases e
        obtain ⟨h1, h2⟩ := get_focusOn hm'
        refine ⟨fun q A hq => ?_, fun k A hk hg => ?_⟩
        · simp only [get] at hq
          split at hq
          · rename_i hrq; rw [beq_true] at hrq; subst hrq; cases hq; exact ⟨hv, hc⟩
          · exact h1 q A hq
        · simp only [get]
          split
          · rename_i hrq; rw [beq_true] at hrq; subst hrq; rw [hv] at hg; exact hg
          · rename_i hrq
            rw [beq_false] at hrq
            rcases List.mem_cons.1 hk with hk | hk
            · exact absurd hk.symm hrq
            · exact h2 k A hk hg
      · rename_i hc hr
        obtain ⟨h1, h2⟩ := get_focusOn e
        refine ⟨h1, fun k A hk hg => ?_⟩
        rcases List.mem_cons.1 hk with rfl | hk
        · exfalso
          rw [beq_true] at hr
          simp only [br] at hr; omega
        · exact h2 k A hk hg
      · cases e

theorem R.focus {keep : List Nat} {m : St} (h : R gl V0 w0 nt x ρ a w) (e : focusOn keep ρ keep = some m) : R gl V0 w0 nt x m a w := by
  obtain ⟨h1, h2⟩ := get_focusOn e
  exact ⟨⟨h.good.vis, h.good.grow, h.good.old, fun k A q => h.good.box k A (h1 _ _ q).1, h.good.sgs, h.good.inj, h.good.tag, h.good.tinj, h.good.bel,
    fun r A k q hm => by
      obtain ⟨g1, g2⟩ := h1 r A q
      obtain ⟨A', h'⟩ := h.good.clo r A k g1 hm
      exact ⟨A', h2 k A' (closedIn_men g2 hm) h'⟩, h.good.gok, h.good.pin⟩,
    fun t A q => h.slots t A (h1 _ _ q).1, h.defs, h.size, h.pk⟩

theorem get_put_self {q : Nat} {v : AVal} (e : get ρ q = some v) (r : Nat) : get (put q v ρ) r = get ρ r := by
  rw [get_put]; split
  · rename_i h; subst h; exact e.symm
  · rfl

theorem yielded_bool (h : R gl V0 w0 nt x ρ a w) {ops : List Oper} {j g : Nat} (hj : (ops[j]?).bind (·.dst) = some g) {b : Bool} (hg : get ρ (tr g) = some (.b b)) : yielded ops.toArray a.tmps j = some b := by
  have hv := bool_of (h.slots g _ hg)
  unfold yielded
  rw [List.getElem?_toArray, hj]
  rw [Array.getD_eq_getD_getElem?] at hv
  cases hgg : a.tmps[g]? with
  | none => rw [hgg] at hv; simp [undef] at hv
  | some u => rw [hgg] at hv; simp only [Option.getD_some] at hv; subst hv; simp [hgg]

theorem yielded_nd (h : R gl V0 w0 nt x ρ a w) {ops : List Oper} {j g : Nat} (hj : (ops[j]?).bind (·.dst) = some g) (hg : get ρ (tr g) = some .nd) : yielded ops.toArray a.tmps j = none := by
  have hv : a.tmps.getD g undef = undef := h.slots g _ hg
  unfold yielded
  rw [List.getElem?_toArray, hj]
  rw [Array.getD_eq_getD_getElem?] at hv
  cases hgg : a.tmps[g]? with
  | none => simp [hgg]
  | some u => rw [hgg] at hv; simp only [Option.getD_some] at hv; subst hv; simp [hgg, undef]

theorem R.skip (h : R gl V0 w0 nt x ρ a w) {d : Nat} (hd : d < nt) : R gl V0 w0 nt x (put (tr d) .nd ρ) (a.put (some d) undef) w := h.set hd rfl (fun k m => by simp [mentions] at m)

theorem dst_lt {o : Oper} {d : Nat} (h : dstOk C o = true) (hd : o.dst = some d) : d < C.nt := by
  simp only [dstOk, hd] at h; exact Nat.le_of_ble_eq_true h

theorem evOps_sound (hC : CfgOk P gl C) {Q : Exit → Act → World → Prop} {ops : List Oper} : ∀ {l : List Oper} {ρ : St} {F : List FootM} {K : St → List FootM → Option α} {x : Ctx} {a : Act} {w : World}, evOps C ops l ρ F K = some z → R gl V0 w0 C.nt x ρ a w →
    (∀ ρ' F' x' a' w', K ρ' F' = some z → R gl V0 w0 C.nt x' ρ' a' w' → Q .normal a' w') → wpList P ops.toArray Q l a w
  | [], ρ, F, K, x, a, w, e, h, hK => hK _ _ _ _ _ e h
  | o :: l, ρ, F, K, x, a, w, e, h, hK => by
    simp only [evOps] at e
    unfold wpList
    split at e
    · cases e
    · -- no guard
      rename_i hd hg
      rw [if_pos (by simp [Region.wanted, hg])]
      obtain ⟨ρ', f, e', hy⟩ := evOp_sound hC h hd e
      exact .inl (hy _ _ fun x' a' w' h' => evOps_sound hC e' h' hK)
    · rename_i j wnt hd hg
      split at e
      case h_2 => cases e
      rename_i g d hj hdst
      have hlt := dst_lt hd hdst
      split at e
      · rename_i b hb
        have hyb := yielded_bool h hj hb
        cases b with
        | true =>
          simp only [cond_true] at e
          have h1 := h.congr (fun r => (get_put_self hb r).symm)
          cases wnt with
          | true =>
            simp only at e
            rw [if_pos (by simp [Region.wanted, hg, hyb])]
            obtain ⟨ρ', f, e', hy⟩ := evOp_sound hC h1 hd e
            exact .inl (hy _ _ fun x' a' w' h' => evOps_sound hC e' h' hK)
          | false =>
            simp only at e
            rw [if_neg (by simp [Region.wanted, hg, hyb]), hdst]
            exact evOps_sound hC e (h1.skip hlt) hK
        | false =>
          simp only [cond_false] at e
          have h1 := h.congr (fun r => (get_put_self hb r).symm)
          cases wnt with
          | false =>
            simp only at e
            rw [if_pos (by simp [Region.wanted, hg, hyb])]
            obtain ⟨ρ', f, e', hy⟩ := evOp_sound hC h1 hd e
            exact .inl (hy _ _ fun x' a' w' h' => evOps_sound hC e' h' hK)
          | true =>
            simp only at e
            rw [if_neg (by simp [Region.wanted, hg, hyb]), hdst]
            exact evOps_sound hC e (h1.skip hlt) hK
      · rename_i hb
        have hyb := yielded_nd h hj hb
        rw [if_neg (by simp [Region.wanted, hg, hyb]), hdst]
        exact evOps_sound hC e (h.skip hlt) hK
      · cases e

end
end Go.Abs
