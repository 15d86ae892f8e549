/- The contracts of dict.find and dict.scan. Own text of this session. -/
import Derived.Test.YtallccfhkhonbaaDoorW0
import Derived.Test.YtallccfhkhonbaaDoorDscan
import Derived.Test.YtallccfhkhonbaaDoorFind
set_option linter.unusedVariables false
namespace Go.L17
open Go Go.RowKit Go.Abs Go.Inc Go.WIter

theorem cmp_of {gl : List (Nat × AVal)} (h : SpecOK Go.Proofs.Tryd.prog gl 34 S34) {V : Vis} {w : World} (hg : GlobOk gl V) (hv : VisOk V w) (a b : Val) (W : World) (hb : Below w.heap.size w W) :
    Calls Go.Proofs.Tryd.prog 34 #[aggV a, aggV b] W fun e W' => e = .returned (.int .i64 (cmpV a b)) ∧ Below W.heap.size W W' := by
  refine (h V W (a, (b, ())) [aggV a, aggV b] rfl hg (hv.below hb) ?_).mono ?_
  · exact ⟨_, _, rfl, ⟨_, rfl, [.int .i64 a.1], _, rfl, rfl, [.int .i64 a.2.1], _, rfl, rfl, [.string a.2.2.1], [], rfl, rfl, rfl⟩, _, _, rfl, ⟨_, rfl, [.int .i64 b.1], _, rfl, rfl, [.int .i64 b.2.1], _, rfl, rfl, [.string b.2.2.1], [], rfl, rfl, rfl⟩, rfl⟩
  · rintro e W' ⟨v, V', rfl, _, _, _, hr, hbl⟩
    have := int_of (k := .i64) (n := cmpV a b) hr
    subst this
    exact ⟨rfl, hbl⟩
theorem okD24 {gl : List (Nat × AVal)} (h : SpecOK Go.Proofs.Tryd.prog gl 34 S34) : XOK Go.Proofs.Tryd.prog gl 24 X24 :=
  xok_find fun xs key ad c w V hl hs hg hv => (callsIn_wide (n := 3)).1 (find_in Fence.wide 3 trivial trivial trivial trivial rfl (Nat.le_refl _) xs key hl ad c w hs fun a b W hb => callsIn_wide.2 (cmp_of h hg hv a b W hb))
theorem okD25 {gl : List (Nat × AVal)} (h : SpecOK Go.Proofs.Tryd.prog gl 34 S34) : XOK Go.Proofs.Tryd.prog gl 25 X25 :=
  xok_scan fun xs fr to ad c w V hl hs hg hv => ((callsIn_wide (n := 3)).1 (dict_scan_in Fence.wide 3 rfl trivial trivial trivial trivial rfl (Nat.le_refl _) xs fr to hl ad c w hs fun a b W hb => callsIn_wide.2 (cmp_of h hg hv a b W hb))).mono
    fun e w' ⟨v, h1, h2, h3⟩ => ⟨v, h1, h2, _, _, by omega, h3⟩
end Go.L17
