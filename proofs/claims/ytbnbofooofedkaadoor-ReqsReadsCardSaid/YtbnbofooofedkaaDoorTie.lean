/-
  DERIVED. GIVEN WITH THE SEED: THE PROGRAM's TIES (one call each: nine closed facts by the kernel) AND EACH ROW's TIE, after the 31st guide's Derived/Test/Toyas{Tie, Card}.lean. No idea stands in it: it is a product of the set-up. Laid BY PROGRAM, IN A SANDBOX (cutbox-door.mjs). By AI agents, Wed Nov 11 2026. No macro, syntax, notation, axiom, sorry.
-/
import Derived.Test.YtbnbofooofedkaaDoorRows
import Derived.LaidByTextLater
import Derived.SevenTiedAt
import Derived.LaidSub
import Derived.LaidOnce
namespace Go.Proofs.YtbnbofooofedkaaDoor
open Go
set_option maxRecDepth 100000
theorem seatTie1 : Tryd.prog.laidByTextLater [("locksmith/locksmithhand.names", Rows.laid_locksmith_locksmithhand_names), ("locksmith/locksmithhand.kinds", Rows.laid_locksmith_locksmithhand_kinds)] [.data, .data] true :=
  Program.laidByTextLater_by_one 19 8 29 (by kernel_rfl) (by kernel_rfl) (by kernel_rfl) (by kernel_rfl) (by kernel_rfl) (by kernel_rfl) (fun _ _ => by kernel_rfl)
theorem noOwnUnsafe : Tryd.pinned.checked.prog.headLifts.contains "ownunsafe" = false := by kernel_rfl
theorem tie : Tryd.prog.laidByTextLater [("locksmith/locksmithhand.names", Rows.laid_locksmith_locksmithhand_names), ("locksmith/locksmithhand.kinds", Rows.laid_locksmith_locksmithhand_kinds)] [.data, .data] true :=
  Program.laidByTextLater.sub seatTie1 ["locksmith/locksmithhand.names", "locksmith/locksmithhand.kinds"] (by kernel_rfl) (by kernel_rfl)
theorem reqsReads_row_tie : Rows.reqsReadsRow.laidByTextAt .later Tryd.pinned [.data, .data] true :=
  OpenClaim.laidByTextAt_later rfl rfl tie noOwnUnsafe
theorem reqsLays_row_tie : Rows.reqsLaysRow.laidByTextAt .later Tryd.pinned [.data, .data] true :=
  OpenClaim.laidByTextAt_later rfl rfl tie noOwnUnsafe
theorem reqsBack_row_tie : Rows.reqsBackRow.laidByTextAt .later Tryd.pinned [.data, .data] true :=
  OpenClaim.laidByTextAt_later rfl rfl tie noOwnUnsafe
theorem reqsReadsUpto_row_tie : Rows.reqsReadsUptoRow.laidByTextAt .later Tryd.pinned [.data, .data] true :=
  OpenClaim.laidByTextAt_later rfl rfl tie noOwnUnsafe
theorem reqsLaysUpto_row_tie : Rows.reqsLaysUptoRow.laidByTextAt .later Tryd.pinned [.data, .data] true :=
  OpenClaim.laidByTextAt_later rfl rfl tie noOwnUnsafe
theorem reqsBackUpto_row_tie : Rows.reqsBackUptoRow.laidByTextAt .later Tryd.pinned [.data, .data] true :=
  OpenClaim.laidByTextAt_later rfl rfl tie noOwnUnsafe
end Go.Proofs.YtbnbofooofedkaaDoor
