/-
  DERIVED. GIVEN WITH THE SEED: THE PROGRAM's TIES (one call each: nine closed facts by the kernel) AND EACH ROW's TIE, after the 31st guide's Derived/Test/Toyas{Tie, Card}.lean. No idea stands in it: it is a product of the set-up. Laid BY PROGRAM, IN A SANDBOX (cutbox-door.mjs). By AI agents, Wed Nov 11 2026. No macro, syntax, notation, axiom, sorry.
-/
import Derived.Test.YtaeinncalendfaaDoorRows
import Derived.LaidByTextLater
import Derived.SevenTiedAt
import Derived.LaidSub
import Derived.LaidOnce
namespace Go.Proofs.YtaeinncalendfaaDoor
open Go
set_option maxRecDepth 100000
theorem seatTie1 : Tryd.prog.laidByTextLater [("incognito/value.yes", Rows.laid_incognito_value_yes), ("incognito/value.no", Rows.laid_incognito_value_no), ("incognito/sign.models", Rows.laid_incognito_sign_models), ("incognito/sign.ops", Rows.laid_incognito_sign_ops)] [.data, .data, .widerDeep, .widerDeep] true :=
  Program.laidByTextLater_by_one 29 8 15 (by kernel_rfl) (by kernel_rfl) (by kernel_rfl) (by kernel_rfl) (by kernel_rfl) (by kernel_rfl) (fun _ _ => by kernel_rfl)
theorem noOwnUnsafe : Tryd.pinned.checked.prog.headLifts.contains "ownunsafe" = false := by kernel_rfl
theorem tie : Tryd.prog.laidByTextLater [("incognito/value.yes", Rows.laid_incognito_value_yes), ("incognito/value.no", Rows.laid_incognito_value_no)] [.data, .data] true :=
  Program.laidByTextLater.sub seatTie1 ["incognito/value.yes", "incognito/value.no"] (by kernel_rfl) (by kernel_rfl)
theorem signTakes_row_tie : Rows.signTakesRow.laidByTextAt .later Tryd.pinned [.data, .data] true :=
  OpenClaim.laidByTextAt_later rfl rfl tie noOwnUnsafe
theorem signArgs_row_tie : Rows.signArgsRow.laidByTextAt .later Tryd.pinned [.data, .data] true :=
  OpenClaim.laidByTextAt_later rfl rfl tie noOwnUnsafe
theorem signOuts_row_tie : Rows.signOutsRow.laidByTextAt .later Tryd.pinned [.data, .data] true :=
  OpenClaim.laidByTextAt_later rfl rfl tie noOwnUnsafe
theorem signFits_row_tie : Rows.signFitsRow.laidByTextAt .later Tryd.pinned [.data, .data] true :=
  OpenClaim.laidByTextAt_later rfl rfl tie noOwnUnsafe
theorem tie2 : Tryd.prog.laidByTextLater [("incognito/value.yes", Rows.laid_incognito_value_yes), ("incognito/value.no", Rows.laid_incognito_value_no), ("incognito/sign.models", Rows.laid_incognito_sign_models), ("incognito/sign.ops", Rows.laid_incognito_sign_ops)] [.data, .data, .widerDeep, .widerDeep] true :=
  Program.laidByTextLater.sub seatTie1 ["incognito/value.yes", "incognito/value.no", "incognito/sign.models", "incognito/sign.ops"] (by kernel_rfl) (by kernel_rfl)
theorem signWords_row_tie : Rows.signWordsRow.laidByTextAt .later Tryd.pinned [.data, .data, .widerDeep, .widerDeep] true :=
  OpenClaim.laidByTextAt_later rfl rfl tie2 noOwnUnsafe
theorem signTakesUpto_row_tie : Rows.signTakesUptoRow.laidByTextAt .later Tryd.pinned [.data, .data] true :=
  OpenClaim.laidByTextAt_later rfl rfl tie noOwnUnsafe
theorem signArgsUpto_row_tie : Rows.signArgsUptoRow.laidByTextAt .later Tryd.pinned [.data, .data] true :=
  OpenClaim.laidByTextAt_later rfl rfl tie noOwnUnsafe
theorem signOutsUpto_row_tie : Rows.signOutsUptoRow.laidByTextAt .later Tryd.pinned [.data, .data] true :=
  OpenClaim.laidByTextAt_later rfl rfl tie noOwnUnsafe
theorem signFitsUpto_row_tie : Rows.signFitsUptoRow.laidByTextAt .later Tryd.pinned [.data, .data] true :=
  OpenClaim.laidByTextAt_later rfl rfl tie noOwnUnsafe
theorem signWordsUpto_row_tie : Rows.signWordsUptoRow.laidByTextAt .later Tryd.pinned [.data, .data, .widerDeep, .widerDeep] true :=
  OpenClaim.laidByTextAt_later rfl rfl tie2 noOwnUnsafe
end Go.Proofs.YtaeinncalendfaaDoor
