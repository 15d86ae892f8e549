/- The abstract machine, part 20: functions that copy a slice. Own text of this session. -/
import Derived.Test.YtkkkjcpfahhhpaaDoorAbs19
set_option linter.unusedVariables false
namespace Go.Abs
open Go Go.RowKit

/-- What a copy is, at the end. -/
def outC (ρ : St) (t : Ty) (r : Nat) : Option t.sl.den := match get ρ (tr r) with
  | some (.os k n) => match get ρ (br k) with
    | some (.ar u ys) => match decEq u t with
      | .isTrue h => bif decide (n = ys.length) then some (h ▸ ys) else none
      | .isFalse _ => none
    | _ => none
  | some (.sl _ [] .full) => some []
  | _ => none

def runC (g : Tag) (C : Cfg) (t : Ty) (r : Nat) (L : Loops t.sl.den) (fn : Func) (xs : t.sl.den) : Option t.sl.den :=
  match fn.body with
  | some c => ev C L c [(0, .sl t xs g)] fun e ρ => match e with | .exit _ => none | _ => outC ρ t r
  | none => none

section
variable {P : Program} {gl : List (Nat × AVal)} {C : Cfg}

theorem copy_of {V0 : Vis} {w0 : Base} {w : World} {x : Ctx} {ρ : St} {a : Act} {nt r : Nat} {t : Ty} {xs : t.sl.den} (h : R gl V0 w0 nt x ρ a w) (e : outC ρ t r = some xs) :
    ∃ ad c, a.tmps.getD r undef = .slice ad (List.length xs) c ∧ List.length xs ≤ c ∧
      (c = 0 ∨ ∃ bl cs E, c ≠ 0 ∧ ad = some ⟨bl, 0, none⟩ ∧ w0.own bl ∧ w.heap[bl]? = some (.cells cs E (0, 0)) ∧ RepCs x (.ar t xs) cs.toList ∧ cs.size = c * t.size ∧ ∀ o, x.V bl o = none) := by
  unfold outC at e
  split at e
  · rename_i k n hr
    split at e
    case h_2 => cases e
    rename_i u ys hb
    split at e
    case h_2 => cases e
    rename_i hu _
    subst hu
    cases hn : decide (n = List.length ys) with
    | false => rw [hn] at e; cases e
    | true =>
      rw [hn] at e; cases e
      have hn' : n = List.length ys := by simpa using hn
      subst hn'
      obtain ⟨bl, sz, ad, hs, hv, hle, had⟩ := os_of (h.slots r _ hr)
      refine ⟨ad, sz.2, hv, hle, ?_⟩
      by_cases h0 : sz.2 = 0
      · exact .inl h0
      · obtain ⟨cs, E, h1, h2, h3⟩ := h.good.at hb hs h0
        exact .inr ⟨bl, cs, E, h0, had h0, (h.good.sgs k bl sz hs h0).1, h1, h2, (h3 _ _ rfl).2, (h.good.sgs k bl sz hs h0).2.2⟩
  · rename_i u hr
    cases e
    obtain ⟨⟨ad, c, es, hcs, _⟩, htag⟩ := h.slots r _ hr
    obtain ⟨a', n', hv⟩ := htag _ rfl
    have hcs' : a.tmps.getD r undef = .slice ad 0 c := by simpa using hcs
    rw [hv] at hcs'
    cases hcs'
    exact ⟨_, 0, hv, Nat.le_refl _, .inl rfl⟩
  · cases e

theorem runC_sound {V : Vis} {w : World} {f r : Nat} {fn : Func} {t : Ty} {xs : t.sl.den} {g : Tag} {v : Value} (hm : P.follows .mixedOrders = true) (hC : CfgOk P gl C) (hf : P.funcs[f]? = some fn) (hnt : fn.ntmps = C.nt)
    (hres : fn.results.toList = [.tmp r]) {L : Loops t.sl.den} (hL : loopsOk C L fn) (hn : runC g C t r L fn xs = some xs)
    (h0 : R gl V (Base.at w) C.nt (bare V) [(0, .sl t xs g)] { tmps := [v].toArray ++ Array.replicate (C.nt - [v].toArray.size) undef, defers := [] } w) :
    Calls P f #[v] w fun e w' => ∃ ad c V', e = .returned (.slice ad (List.length xs) c) ∧ Below w.heap.size w w' ∧ List.length xs ≤ c ∧ VisOk V' w' ∧ VLe V V' ∧ (∀ b o, b < w.heap.size → V' b o = V b o) ∧
      (c = 0 ∨ ∃ bl cs E, c ≠ 0 ∧ ad = some ⟨bl, 0, none⟩ ∧ w.heap.size ≤ bl ∧ w'.heap[bl]? = some (.cells cs E (0, 0)) ∧ RepCs (bare V') (.ar t xs) cs.toList ∧ cs.size = c * t.size ∧ ∀ o, V' bl o = none) := by
  unfold runC at hn
  unfold loopsOk at hL
  split at hn
  case h_2 => cases hn
  rename_i c hc
  rw [hc] at hL
  refine calls_of_wp hf hc ?_
  rw [hnt]
  refine ev_sound hm hC c hL hn h0 ?_
  intro ex ρ' x' a' w' e' h'
  have fin : outC ρ' t r = some xs → a'.defers = [] ∧ ∃ v, (results fn a'.tmps).run P w' = .ok v w' ∧ ∃ ad c V', Ending.returned v = .returned (.slice ad (List.length xs) c) ∧ Below w.heap.size w w' ∧ List.length xs ≤ c ∧ VisOk V' w' ∧ VLe V V' ∧
      (∀ b o, b < w.heap.size → V' b o = V b o) ∧
      (c = 0 ∨ ∃ bl cs E, c ≠ 0 ∧ ad = some ⟨bl, 0, none⟩ ∧ w.heap.size ≤ bl ∧ w'.heap[bl]? = some (.cells cs E (0, 0)) ∧ RepCs (bare V') (.ar t xs) cs.toList ∧ cs.size = c * t.size ∧ ∀ o, V' bl o = none) := by
    intro ho
    obtain ⟨ad, cc, hv, hle, hk⟩ := copy_of h' ho
    have hr : fn.results = #[.tmp r] := by apply Array.ext'; simpa using hres
    have hrun : (results fn a'.tmps).run P w' = .ok (a'.tmps.getD r undef) w' := by
      unfold results
      rw [hr]
      simp
    refine ⟨h'.defs, _, hrun, ad, cc, x'.V, by rw [hv], h'.good.bel.to, hle, h'.good.vis, h'.good.grow, fun b o hb => h'.good.old b o hb (fun h => h), hk.imp id ?_⟩
    rintro ⟨bl, cs, E, k1, k2, k3, k4, ⟨c1, c2, k5, k6, k7⟩, k8, k9⟩
    exact ⟨bl, cs, E, k1, k2, (Base.own_at.1 k3), k4, ⟨c1, c2, k5, k6, k7⟩, k8, k9⟩
  cases ex with
  | normal => exact fin e'
  | exit id => cases e'
  | ret => exact fin e'

/-- **A function that copies its slice**, from what its evaluation comes to. -/
theorem clone_of {f r : Nat} {fn : Func} {t : Ty} {eb : Nat} (hm : P.follows .mixedOrders = true) (hC : CfgOk P gl C) (hf : P.funcs[f]? = some fn) (hnt : fn.ntmps = C.nt)
    (hres : fn.results.toList = [.tmp r]) (hn : Nat.blt 0 C.nt = true) (hu : Nat.blt 0 t.size = true)
    (hrun : ∀ xs : t.sl.den, List.length xs * eb ≤ 140737488351232 → (xs = [] → ∃ L, loopsOk C L fn ∧ runC .nl C t r L fn xs = some xs) ∧ ∃ L, loopsOk C L fn ∧ runC .nn C t r L fn xs = some xs) : CloneOK P gl f t eb := by
  intro V w xs v hg hv hr hb
  have hlt : 0 < C.nt := Nat.le_of_ble_eq_true hn
  have h0 := R.start (t := .pr (.sl t) .un) (d := (xs, ())) (vs := [v]) (nt := C.nt) hv hg ⟨v, [], rfl, hr, rfl⟩ hlt
  have hr' : RepCs (bare V) (.sl t xs .no) [v] := hr
  obtain ⟨⟨ad, c, es, hv0, hle, harr, hrd⟩, _⟩ := hr'
  have hv0' : v = .slice ad (List.length xs) c := by simpa using hv0
  have hget : ({ tmps := [v].toArray ++ Array.replicate (C.nt - [v].toArray.size) undef, defers := [] } : Act).tmps.getD 0 undef = v := by
    rw [Array.getD_eq_getD_getElem?, Array.getElem?_append_left (by simp)]
    simp
  have go : ∀ g, TagOk (bare V) t g v → R gl V (Base.at w) C.nt (bare V) [(0, .sl t xs g)] { tmps := [v].toArray ++ Array.replicate (C.nt - [v].toArray.size) undef, defers := [] } w := by
    intro g hg
    have h3 := h0.set (d := 0) hlt (A := .sl t xs g) (v := v) ⟨⟨ad, c, es, hv0, hle, harr, hrd⟩, fun v hv => by cases hv; exact hg⟩ (fun k m => by simp [mentions] at m)
    have h4 := put_none (a := { tmps := [v].toArray ++ Array.replicate (C.nt - [v].toArray.size) undef, defers := [] }) (t := 0)
    rw [hget] at h4
    rw [h4] at h3
    exact h3
  obtain ⟨q1, q2⟩ := hrun xs hb
  cases ad with
  | none =>
    have hnil : xs = [] := by
      have hel := RepArr.len (fun x cs h => RepT.len h) harr
      cases hy : xs with
      | nil => rfl
      | cons p l =>
        exfalso
        have hpos : 0 < es.length := by
          rw [hel, hy]
          exact Nat.mul_pos (by simp) (Nat.le_of_ble_eq_true hu)
        obtain ⟨bl, off, e, _⟩ := hrd 0 es[0] (by rw [List.getElem?_eq_getElem hpos])
        cases e
    obtain ⟨L, hL, hn⟩ := q1 hnil
    exact runC_sound hm hC hf hnt hres hL hn (go .nl ⟨_, _, hv0'⟩)
  | some a =>
    obtain ⟨L, hL, hn⟩ := q2
    exact runC_sound hm hC hf hnt hres hL hn (go .nn ⟨_, _, _, hv0'⟩)
end
end Go.Abs
