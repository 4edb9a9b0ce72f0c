/-
  DERIVED. GIVEN WITH THE SEED: THE PROGRAM's TIES (one call each: nine closed facts by the kernel) AND EACH ROW's TIE, after the 31st guide's Derived/Test/Toyas{Tie, Card}.lean. No idea stands in it: it is a product of the set-up. Laid BY PROGRAM, IN A SANDBOX (cutbox-door.mjs). By AI agents, Wed Nov 11 2026. No macro, syntax, notation, axiom, sorry.
-/
import Derived.Test.YtbplehaogncjoaaGreatDoorRows
import Derived.LaidByTextLater
import Derived.SevenTiedAt
import Derived.LaidSub
import Derived.LaidOnce
namespace Go.Proofs.YtbplehaogncjoaaGreatDoor
open Go
set_option maxRecDepth 100000
theorem seatTie1 : Tryz.prog.laidByTextLater [("math/bits.deBruijn32tab", Rows.laid_math_bits_deBruijn32tab), ("errors.errorType", Rows.laid_errors_errorType), ("steelyard/store.errForm", Rows.laid_steelyard_store_errForm), ("steelyard/store.errTorn", Rows.laid_steelyard_store_errTorn), ("steelyard/store.errSum", Rows.laid_steelyard_store_errSum), ("steelyard/store.errShard", Rows.laid_steelyard_store_errShard)] [.data, .handle, .sentinel, .sentinel, .sentinel, .sentinel] true :=
  Program.laidByTextLater_by_one 97 8 33 (by kernel_rfl) (by kernel_rfl) (by kernel_rfl) (by kernel_rfl) (by kernel_rfl) (by kernel_rfl) (fun _ _ => by kernel_rfl)
theorem noOwnUnsafe : Tryz.pinned.checked.prog.headLifts.contains "ownunsafe" = false := by kernel_rfl
theorem tie : Tryz.prog.laidByTextLater [("math/bits.deBruijn32tab", Rows.laid_math_bits_deBruijn32tab), ("errors.errorType", Rows.laid_errors_errorType), ("steelyard/store.errForm", Rows.laid_steelyard_store_errForm), ("steelyard/store.errTorn", Rows.laid_steelyard_store_errTorn), ("steelyard/store.errSum", Rows.laid_steelyard_store_errSum), ("steelyard/store.errShard", Rows.laid_steelyard_store_errShard)] [.data, .handle, .sentinel, .sentinel, .sentinel, .sentinel] true :=
  Program.laidByTextLater.sub seatTie1 ["math/bits.deBruijn32tab", "errors.errorType", "steelyard/store.errForm", "steelyard/store.errTorn", "steelyard/store.errSum", "steelyard/store.errShard"] (by kernel_rfl) (by kernel_rfl)
theorem storeLong_row_tie : Rows.storeLongRow.laidByTextAt .later Tryz.pinned [.data, .handle, .sentinel, .sentinel, .sentinel, .sentinel] true :=
  OpenClaim.laidByTextAt_later rfl rfl tie noOwnUnsafe
theorem storeCuts_row_tie : Rows.storeCutsRow.laidByTextAt .later Tryz.pinned [.data, .handle, .sentinel, .sentinel, .sentinel, .sentinel] true :=
  OpenClaim.laidByTextAt_later rfl rfl tie noOwnUnsafe
theorem storeTold_row_tie : Rows.storeToldRow.laidByTextAt .later Tryz.pinned [.data, .handle, .sentinel, .sentinel, .sentinel, .sentinel] true :=
  OpenClaim.laidByTextAt_later rfl rfl tie noOwnUnsafe
theorem storeNumbers_row_tie : Rows.storeNumbersRow.laidByTextAt .later Tryz.pinned [.data, .handle, .sentinel, .sentinel, .sentinel, .sentinel] true :=
  OpenClaim.laidByTextAt_later rfl rfl tie noOwnUnsafe
theorem storeCompacts_row_tie : Rows.storeCompactsRow.laidByTextAt .later Tryz.pinned [.data, .handle, .sentinel, .sentinel, .sentinel, .sentinel] true :=
  OpenClaim.laidByTextAt_later rfl rfl tie noOwnUnsafe
theorem storeLongUpto_row_tie : Rows.storeLongUptoRow.laidByTextAt .later Tryz.pinned [.data, .handle, .sentinel, .sentinel, .sentinel, .sentinel] true :=
  OpenClaim.laidByTextAt_later rfl rfl tie noOwnUnsafe
theorem storeCutsUpto_row_tie : Rows.storeCutsUptoRow.laidByTextAt .later Tryz.pinned [.data, .handle, .sentinel, .sentinel, .sentinel, .sentinel] true :=
  OpenClaim.laidByTextAt_later rfl rfl tie noOwnUnsafe
theorem storeToldUpto_row_tie : Rows.storeToldUptoRow.laidByTextAt .later Tryz.pinned [.data, .handle, .sentinel, .sentinel, .sentinel, .sentinel] true :=
  OpenClaim.laidByTextAt_later rfl rfl tie noOwnUnsafe
theorem storeNumbersUpto_row_tie : Rows.storeNumbersUptoRow.laidByTextAt .later Tryz.pinned [.data, .handle, .sentinel, .sentinel, .sentinel, .sentinel] true :=
  OpenClaim.laidByTextAt_later rfl rfl tie noOwnUnsafe
theorem storeCompactsUpto_row_tie : Rows.storeCompactsUptoRow.laidByTextAt .later Tryz.pinned [.data, .handle, .sentinel, .sentinel, .sentinel, .sentinel] true :=
  OpenClaim.laidByTextAt_later rfl rfl tie noOwnUnsafe
end Go.Proofs.YtbplehaogncjoaaGreatDoor
