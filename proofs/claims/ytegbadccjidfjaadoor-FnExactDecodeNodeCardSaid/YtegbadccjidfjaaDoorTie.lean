/-
  DERIVED. GIVEN WITH THE SEED: THE PROGRAM's TIES (one call each: nine closed facts by the kernel) AND EACH ROW's TIE, after the 31st guide's Derived/Test/Toyas{Tie, Card}.lean. No idea stands in it: it is a product of the set-up. Laid BY PROGRAM, IN A SANDBOX (cutbox-door.mjs). By AI agents, Wed Nov 11 2026. No macro, syntax, notation, axiom, sorry.
-/
import Derived.Test.YtegbadccjidfjaaDoorRows
import Derived.LaidByTextLater
import Derived.SevenTiedAt
import Derived.LaidSub
import Derived.LaidOnce
namespace Go.Proofs.YtegbadccjidfjaaDoor
open Go
set_option maxRecDepth 100000
theorem seatTie1 : Tryd.prog.laidByTextLater [("errors.errorType", Rows.laid_errors_errorType), ("loop.example/s01595/impl.errSize", Rows.laid_loop_example_s01595_impl_errSize), ("loop.example/s01595/impl.errSum", Rows.laid_loop_example_s01595_impl_errSum), ("loop.example/s01595/impl.errForm", Rows.laid_loop_example_s01595_impl_errForm)] [.handle, .sentinel, .sentinel, .sentinel] true :=
  Program.laidByTextLater_by_one 73 8 2 (by kernel_rfl) (by kernel_rfl) (by kernel_rfl) (by kernel_rfl) (by kernel_rfl) (by kernel_rfl) (fun _ _ => by kernel_rfl)
theorem noOwnUnsafe : Tryd.pinned.checked.prog.headLifts.contains "ownunsafe" = false := by kernel_rfl
theorem tie : Tryd.prog.laidByTextLater [("errors.errorType", Rows.laid_errors_errorType), ("loop.example/s01595/impl.errSize", Rows.laid_loop_example_s01595_impl_errSize), ("loop.example/s01595/impl.errSum", Rows.laid_loop_example_s01595_impl_errSum), ("loop.example/s01595/impl.errForm", Rows.laid_loop_example_s01595_impl_errForm)] [.handle, .sentinel, .sentinel, .sentinel] true :=
  Program.laidByTextLater.sub seatTie1 ["errors.errorType", "loop.example/s01595/impl.errSize", "loop.example/s01595/impl.errSum", "loop.example/s01595/impl.errForm"] (by kernel_rfl) (by kernel_rfl)
theorem fnExactEncodeTable_row_tie : Rows.fnExactEncodeTableRow.laidByTextAt .later Tryd.pinned [.handle, .sentinel, .sentinel, .sentinel] true :=
  OpenClaim.laidByTextAt_later rfl rfl tie noOwnUnsafe
theorem fnExactEncodeSuper_row_tie : Rows.fnExactEncodeSuperRow.laidByTextAt .later Tryd.pinned [.handle, .sentinel, .sentinel, .sentinel] true :=
  OpenClaim.laidByTextAt_later rfl rfl tie noOwnUnsafe
theorem fnExactDecodeTable_row_tie : Rows.fnExactDecodeTableRow.laidByTextAt .later Tryd.pinned [.handle, .sentinel, .sentinel, .sentinel] true :=
  OpenClaim.laidByTextAt_later rfl rfl tie noOwnUnsafe
theorem fnExactDecodeSuper_row_tie : Rows.fnExactDecodeSuperRow.laidByTextAt .later Tryd.pinned [.handle, .sentinel, .sentinel, .sentinel] true :=
  OpenClaim.laidByTextAt_later rfl rfl tie noOwnUnsafe
theorem fnExactEncodeNode_row_tie : Rows.fnExactEncodeNodeRow.laidByTextAt .later Tryd.pinned [.handle, .sentinel, .sentinel, .sentinel] true :=
  OpenClaim.laidByTextAt_later rfl rfl tie noOwnUnsafe
theorem fnExactDecodeNode_row_tie : Rows.fnExactDecodeNodeRow.laidByTextAt .later Tryd.pinned [.handle, .sentinel, .sentinel, .sentinel] true :=
  OpenClaim.laidByTextAt_later rfl rfl tie noOwnUnsafe
theorem fnExactMkfsSteps_row_tie : Rows.fnExactMkfsStepsRow.laidByTextAt .later Tryd.pinned [.handle, .sentinel, .sentinel, .sentinel] true :=
  OpenClaim.laidByTextAt_later rfl rfl tie noOwnUnsafe
theorem fnExactMkfs_row_tie : Rows.fnExactMkfsRow.laidByTextAt .later Tryd.pinned [.handle, .sentinel, .sentinel, .sentinel] true :=
  OpenClaim.laidByTextAt_later rfl rfl tie noOwnUnsafe
theorem fnExactEncodeTableUpto_row_tie : Rows.fnExactEncodeTableUptoRow.laidByTextAt .later Tryd.pinned [.handle, .sentinel, .sentinel, .sentinel] true :=
  OpenClaim.laidByTextAt_later rfl rfl tie noOwnUnsafe
theorem fnExactEncodeSuperUpto_row_tie : Rows.fnExactEncodeSuperUptoRow.laidByTextAt .later Tryd.pinned [.handle, .sentinel, .sentinel, .sentinel] true :=
  OpenClaim.laidByTextAt_later rfl rfl tie noOwnUnsafe
theorem fnExactDecodeTableUpto_row_tie : Rows.fnExactDecodeTableUptoRow.laidByTextAt .later Tryd.pinned [.handle, .sentinel, .sentinel, .sentinel] true :=
  OpenClaim.laidByTextAt_later rfl rfl tie noOwnUnsafe
theorem fnExactDecodeSuperUpto_row_tie : Rows.fnExactDecodeSuperUptoRow.laidByTextAt .later Tryd.pinned [.handle, .sentinel, .sentinel, .sentinel] true :=
  OpenClaim.laidByTextAt_later rfl rfl tie noOwnUnsafe
theorem fnExactEncodeNodeUpto_row_tie : Rows.fnExactEncodeNodeUptoRow.laidByTextAt .later Tryd.pinned [.handle, .sentinel, .sentinel, .sentinel] true :=
  OpenClaim.laidByTextAt_later rfl rfl tie noOwnUnsafe
theorem fnExactDecodeNodeUpto_row_tie : Rows.fnExactDecodeNodeUptoRow.laidByTextAt .later Tryd.pinned [.handle, .sentinel, .sentinel, .sentinel] true :=
  OpenClaim.laidByTextAt_later rfl rfl tie noOwnUnsafe
theorem fnExactMkfsStepsUpto_row_tie : Rows.fnExactMkfsStepsUptoRow.laidByTextAt .later Tryd.pinned [.handle, .sentinel, .sentinel, .sentinel] true :=
  OpenClaim.laidByTextAt_later rfl rfl tie noOwnUnsafe
theorem fnExactMkfsUpto_row_tie : Rows.fnExactMkfsUptoRow.laidByTextAt .later Tryd.pinned [.handle, .sentinel, .sentinel, .sentinel] true :=
  OpenClaim.laidByTextAt_later rfl rfl tie noOwnUnsafe
end Go.Proofs.YtegbadccjidfjaaDoor
