/- The abstract machine, part 19: the last steps of a function's contract. Own text of this session. -/
import Derived.Test.YtkkkjcpfahhhpaaDoorAbs18
set_option linter.unusedVariables false
namespace Go.Abs
open Go Go.RowKit

def ebOk (P : Program) (T b : Nat) : Bool := match P.underlying T with
  | some (.slice E) => match P.info? E with | some i => i.bytes == b | none => false
  | _ => false

def fnOk (P : Program) (f : Nat) : Bool := match P.funcs[f]? with
  | some fn => fn.body.isSome && !(fn.name == "runtime.NumGoroutine")
  | none => false

def specsAll (P : Program) (gl : List (Nat × AVal)) : List (Nat × Abs.Spec) → Prop
  | [] => True
  | (f, S) :: l => SpecOK P gl f S ∧ fnOk P f = true ∧ specsAll P gl l

theorem look_mem {α : Type} {T : Nat} {t : α} : ∀ {l : List (Nat × α)}, look l T = some t → (T, t) ∈ l
  | [], h => by cases h
  | (r, v) :: l, h => by
    simp only [look] at h
    split at h
    · rename_i hr; rw [beq_true] at hr; subst hr; cases h; exact List.mem_cons_self
    · exact List.mem_cons_of_mem _ (look_mem h)

theorem specsAll_mem {P : Program} {gl : List (Nat × AVal)} {f : Nat} {S : Abs.Spec} : ∀ {l : List (Nat × Abs.Spec)}, specsAll P gl l → (f, S) ∈ l → SpecOK P gl f S ∧ fnOk P f = true
  | [], _, h => by cases h
  | (g, U) :: l, ⟨h1, h2, h3⟩, h => by
    rcases List.mem_cons.1 h with h | h
    · cases h; exact ⟨h1, h2⟩
    · exact specsAll_mem h3 h

def tabOk (P : Program) : List (Nat × Ty) → Bool
  | [] => true
  | (T, t) :: l => chk P t (.inl T) && (Nat.blt t.ht 9999 && tabOk P l)

theorem tabOk_mem {P : Program} {T : Nat} {t : Ty} : ∀ {l : List (Nat × Ty)}, tabOk P l = true → (T, t) ∈ l → chk P t (.inl T) = true ∧ t.ht < 9999
  | [], _, h => by cases h
  | (U, u) :: l, hh, h => by
    simp only [tabOk, Bool.and_eq_true] at hh
    rcases List.mem_cons.1 h with h | h
    · cases h; exact ⟨hh.1, Nat.le_of_ble_eq_true hh.2.1⟩
    · exact tabOk_mem hh.2.2 h

def ebsOk (P : Program) : List (Nat × Nat) → Bool
  | [] => true
  | (T, b) :: l => ebOk P T b && ebsOk P l

theorem ebsOk_mem {P : Program} {T b : Nat} : ∀ {l : List (Nat × Nat)}, ebsOk P l = true → (T, b) ∈ l → ebOk P T b = true
  | [], _, h => by cases h
  | (U, u) :: l, hh, h => by
    simp only [ebsOk, Bool.and_eq_true] at hh
    rcases List.mem_cons.1 h with h | h
    · cases h; exact hh.1
    · exact ebsOk_mem hh.2 h

def arrOk (P : Program) (T : Nat) (t : Ty) (n : Nat) : Bool := match P.underlying T with
  | some (.array m E) => decide (m = n) && (chk P t (.inl E) && Nat.ble 1 t.size)
  | _ => false

def arrsOk (P : Program) : List (Nat × (Ty × Nat)) → Bool
  | [] => true
  | (T, tn) :: l => arrOk P T tn.1 tn.2 && arrsOk P l

theorem arrsOk_mem {P : Program} {T : Nat} {t : Ty} {n : Nat} : ∀ {l : List (Nat × (Ty × Nat))}, arrsOk P l = true → (T, (t, n)) ∈ l → arrOk P T t n = true
  | [], _, h => by cases h
  | (U, u) :: l, hh, h => by
    simp only [arrsOk, Bool.and_eq_true] at hh
    rcases List.mem_cons.1 h with h | h
    · cases h; exact hh.1
    · exact arrsOk_mem hh.2 h

def clonesAll (P : Program) (gl : List (Nat × AVal)) : List (Nat × (Ty × Nat)) → Prop
  | [] => True
  | (f, te) :: l => CloneOK P gl f te.1 te.2 ∧ fnOk P f = true ∧ clonesAll P gl l

theorem clonesAll_mem {P : Program} {gl : List (Nat × AVal)} {f : Nat} {te : Ty × Nat} : ∀ {l : List (Nat × (Ty × Nat))}, clonesAll P gl l → (f, te) ∈ l → CloneOK P gl f te.1 te.2 ∧ fnOk P f = true
  | [], _, h => by cases h
  | (g, u) :: l, ⟨h1, h2, h3⟩, h => by
    rcases List.mem_cons.1 h with h | h
    · cases h; exact ⟨h1, h2⟩
    · exact clonesAll_mem h3 h

def callsAll (P : Program) (gl : List (Nat × AVal)) : List (Nat × XCall) → Prop
  | [] => True
  | (_, xc) :: l => XOK P gl xc.f xc.X ∧ fnOk P xc.f = true ∧ callsAll P gl l

theorem callsAll_mem {P : Program} {gl : List (Nat × AVal)} {d : Nat} {xc : XCall} : ∀ {l : List (Nat × XCall)}, callsAll P gl l → (d, xc) ∈ l → XOK P gl xc.f xc.X ∧ fnOk P xc.f = true
  | [], _, h => by cases h
  | (g, u) :: l, ⟨h1, h2, h3⟩, h => by
    rcases List.mem_cons.1 h with h | h
    · cases h; exact ⟨h1, h2⟩
    · exact callsAll_mem h3 h

theorem cfgOk_of {P : Program} {gl : List (Nat × AVal)} {C : Cfg} (ht : tabOk P C.tab = true) (he : ebsOk P C.eb = true) (hs : specsAll P gl C.specs) (hcl : clonesAll P gl C.clones) (hg : C.glob = gl) (hx : callsAll P gl C.calls := by exact trivial) (ha : arrsOk P C.arrs = true := by kernel_rfl) : CfgOk P gl C := by
  refine ⟨fun T t h => (tabOk_mem ht (look_mem h)).1, fun T t h => (tabOk_mem ht (look_mem h)).2, fun T b h => ?_, fun f S h => ?_, fun f te h => ?_, fun d xc h => ?_, hg, fun T t n h => ?_⟩
  · have h1 := ebsOk_mem he (look_mem h)
    simp only [ebOk] at h1
    split at h1
    case h_2 => cases h1
    rename_i E hE
    split at h1
    case h_2 => cases h1
    rename_i i hi
    exact ⟨E, i, hE, hi, by simpa using h1⟩
  · obtain ⟨h1, h2⟩ := specsAll_mem hs (look_mem h)
    refine ⟨h1, ?_⟩
    simp only [fnOk] at h2
    split at h2
    case h_2 => cases h2
    rename_i fn hfn
    simp only [Bool.and_eq_true, Bool.not_eq_true'] at h2
    exact ⟨fn, hfn, h2.1, h2.2⟩
  · obtain ⟨h1, h2⟩ := clonesAll_mem hcl (look_mem h)
    refine ⟨h1, ?_⟩
    simp only [fnOk] at h2
    split at h2
    case h_2 => cases h2
    rename_i fn hfn
    simp only [Bool.and_eq_true, Bool.not_eq_true'] at h2
    exact ⟨fn, hfn, h2.1, h2.2⟩
  · obtain ⟨h1, h2⟩ := callsAll_mem hx h
    refine ⟨h1, ?_⟩
    simp only [fnOk] at h2
    split at h2
    case h_2 => cases h2
    rename_i fn hfn
    simp only [Bool.and_eq_true, Bool.not_eq_true'] at h2
    exact ⟨fn, hfn, h2.1, h2.2⟩
  · have h1 := arrsOk_mem ha (look_mem h)
    simp only [arrOk] at h1
    split at h1
    case h_2 => cases h1
    rename_i m E hE
    simp only [Bool.and_eq_true, decide_eq_true_eq] at h1
    obtain ⟨rfl, h2, h3⟩ := h1
    exact ⟨E, hE, h2, Nat.le_of_ble_eq_true h3⟩

def tlen : Ty → Nat
  | .pr _ b => tlen b + 1
  | _ => 0

theorem tup_len {x : Ctx} : ∀ {t : Ty} {y : t.den} {vs : List Value}, RepTup x (Abs.enc t y) vs → vs.length = tlen t
  | .un, _, vs, h => by rw [show vs = [] from h]; rfl
  | .pr a b, y, vs, ⟨v, r, e, _, h⟩ => by subst e; simp [tlen, tup_len h]
  | .int _, _, _, h => h.elim
  | .bool, _, _, h => h.elim
  | .str, _, _, h => h.elim
  | .sl _, _, _, h => h.elim
  | .o1, _, _, h => h.elim

/-- A function's contract, from what its evaluation comes to. -/
theorem spec_of {P : Program} {gl : List (Nat × AVal)} {C : Cfg} {f : Nat} {fn : Func} {S : Abs.Spec} (hm : P.follows .mixedOrders = true) (hC : CfgOk P gl C) (hf : P.funcs[f]? = some fn) (hnt : fn.ntmps = C.nt)
    (hmul : multiOk S fn.results.toList.length = true) (hlen : Nat.ble (tlen S.ta) C.nt = true) (hrun : ∀ y : S.ta.den, S.pre y = true → ∃ L, loopsOk C L fn ∧ run C S L fn y = some (S.val y)) : SpecOK P gl f S :=
  run_sound hm hC hf hnt hmul hrun (fun V y vs h => by rw [tup_len h]; exact Nat.le_of_ble_eq_true hlen)

/-- The same for a function that asks whether its first slice is nil. -/
theorem spec_of0 {P : Program} {gl : List (Nat × AVal)} {C : Cfg} {f : Nat} {fn : Func} {u b tr : Ty} {mu : Bool} {pre : (Ty.pr (.sl u) b).den → Bool} {val : (Ty.pr (.sl u) b).den → tr.den} (hm : P.follows .mixedOrders = true) (hC : CfgOk P gl C) (hf : P.funcs[f]? = some fn) (hnt : fn.ntmps = C.nt)
    (hmul : multiOk ⟨.pr (.sl u) b, tr, mu, pre, val⟩ fn.results.toList.length = true) (hu : Nat.blt 0 u.size = true) (hlen : Nat.ble (tlen (.pr (.sl u) b)) C.nt = true)
    (hrun : ∀ y : (Ty.pr (.sl u) b).den, pre y = true → (y.1 = [] → ∃ L, loopsOk C L fn ∧ run0 .nl C ⟨.pr (.sl u) b, tr, mu, pre, val⟩ L fn y = some (val y)) ∧ ∃ L, loopsOk C L fn ∧ run0 .nn C ⟨.pr (.sl u) b, tr, mu, pre, val⟩ L fn y = some (val y)) :
    SpecOK P gl f ⟨.pr (.sl u) b, tr, mu, pre, val⟩ :=
  run_sound0 hm hC hf hnt hmul hu hrun (fun V y vs h => by rw [tup_len h]; exact Nat.le_of_ble_eq_true hlen)
end Go.Abs
