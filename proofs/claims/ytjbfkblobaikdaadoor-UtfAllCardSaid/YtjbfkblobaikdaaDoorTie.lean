/-
  DERIVED. GIVEN WITH THE SEED: THE PROGRAM's TIES (one call each: nine closed facts by the kernel) AND EACH ROW's TIE, after the 31st guide's Derived/Test/Toyas{Tie, Card}.lean. No idea stands in it: it is a product of the set-up. Laid BY PROGRAM, IN A SANDBOX (cutbox-door.mjs). By AI agents, Wed Nov 11 2026. No macro, syntax, notation, axiom, sorry.
-/
import Derived.Test.YtjbfkblobaikdaaDoorRows
import Derived.LaidByTextLater
import Derived.SevenTiedAt
import Derived.LaidSub
import Derived.LaidOnce
namespace Go.Proofs.YtjbfkblobaikdaaDoor
open Go
set_option maxRecDepth 100000
theorem seatTie1 : Tryd.prog.laidByTextLater [("errors.errorType", Rows.laid_errors_errorType), ("warrant/utf.least", Rows.laid_warrant_utf_least)] [.handle, .data] true :=
  Program.laidByTextLater_by_one 21 8 6 (by kernel_rfl) (by kernel_rfl) (by kernel_rfl) (by kernel_rfl) (by kernel_rfl) (by kernel_rfl) (fun _ _ => by kernel_rfl)
theorem noOwnUnsafe : Tryd.pinned.checked.prog.headLifts.contains "ownunsafe" = false := by kernel_rfl
theorem tie : Tryd.prog.laidByTextLater [("errors.errorType", Rows.laid_errors_errorType), ("warrant/utf.least", Rows.laid_warrant_utf_least)] [.handle, .data] true :=
  Program.laidByTextLater.sub seatTie1 ["errors.errorType", "warrant/utf.least"] (by kernel_rfl) (by kernel_rfl)
theorem utfChecks_row_tie : Rows.utfChecksRow.laidByTextAt .later Tryd.pinned [.handle, .data] true :=
  OpenClaim.laidByTextAt_later rfl rfl tie noOwnUnsafe
theorem utfNext_row_tie : Rows.utfNextRow.laidByTextAt .later Tryd.pinned [.handle, .data] true :=
  OpenClaim.laidByTextAt_later rfl rfl tie noOwnUnsafe
theorem utfBack_row_tie : Rows.utfBackRow.laidByTextAt .later Tryd.pinned [.handle, .data] true :=
  OpenClaim.laidByTextAt_later rfl rfl tie noOwnUnsafe
theorem utfAll_row_tie : Rows.utfAllRow.laidByTextAt .later Tryd.pinned [.handle, .data] true :=
  OpenClaim.laidByTextAt_later rfl rfl tie noOwnUnsafe
theorem utfChecksUpto_row_tie : Rows.utfChecksUptoRow.laidByTextAt .later Tryd.pinned [.handle, .data] true :=
  OpenClaim.laidByTextAt_later rfl rfl tie noOwnUnsafe
theorem utfNextUpto_row_tie : Rows.utfNextUptoRow.laidByTextAt .later Tryd.pinned [.handle, .data] true :=
  OpenClaim.laidByTextAt_later rfl rfl tie noOwnUnsafe
theorem utfBackUpto_row_tie : Rows.utfBackUptoRow.laidByTextAt .later Tryd.pinned [.handle, .data] true :=
  OpenClaim.laidByTextAt_later rfl rfl tie noOwnUnsafe
theorem utfAllUpto_row_tie : Rows.utfAllUptoRow.laidByTextAt .later Tryd.pinned [.handle, .data] true :=
  OpenClaim.laidByTextAt_later rfl rfl tie noOwnUnsafe
end Go.Proofs.YtjbfkblobaikdaaDoor
