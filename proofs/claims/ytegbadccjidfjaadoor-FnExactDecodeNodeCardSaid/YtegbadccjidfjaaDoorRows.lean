/-
  NARROWER THAN 'FOR EVERY INPUT', by the rows' own cells (each row's printed sentence says how): FnExactEncodeTable: ifaces, laid · FnExactEncodeSuper: ifaces, laid · FnExactDecodeTable: ifaces, laid · FnExactDecodeSuper: ifaces, laid · FnExactEncodeNode: ifaces, laid · FnExactDecodeNode: ifaces, laid · FnExactMkfsSteps: ifaces, laid · FnExactMkfs: ifaces, laid.
  DERIVED. THE GIVEN ROWS OF THIS SEAT. 8 by the template 'for every input the law returns true; each argument reads behind the call as it read before'; 0 by the template 'total and deterministic' (their statements: YtegbadccjidfjaaDoorTotals.lean).
  GIVEN WITH THE SEED: the statements are not yours to turn. If you find one false, say at which input.
  Laid BY PROGRAM, IN A SANDBOX (cutbox-rows.mjs): the forced cells as the released guide's own fill.sh prints them over the translation d9763ff0488bb9e7… (all of the seat's roots in one cut). By AI agents, Wed Nov 11 2026. No macro, syntax, notation, axiom, sorry.
-/
import Derived.Test.YtegbadccjidfjaaDoorChecked
import GoSem.Claim
import GoSem.ClaimJoined
import GoSem.ClaimMapViews
import Derived.JoinedTies
import Derived.KernelRfl
namespace Go.Proofs.YtegbadccjidfjaaDoor
/- THE CELL 'sum', in the pinned program and in every row, IS THE sha256 OF THE DUMP (.gsa) THAT YtegbadccjidfjaaDoorProg.lean LOADS. Nothing in Lean hashes anything: it is a label: what it is worth is what the hold of that sum in a sandbox is worth. -/
noncomputable def Tryd.pinned : Pinned := { name := "ytegbadccjidfjaadoor", sum := "d9763ff0488bb9e7a48fa2e4241de1bd3dae7b9ea09c4eaca143e2e2d4044a6e", checked := Tryd.checked }
namespace Rows
def none {H : Type} : Left H := { results := [], args := [] }

/- WHAT THE LISTED PACKAGE-LEVEL VARIABLES READ AS WHEN THE CALL BEGINS. Each datum BY PROGRAM (the guide's laid-datum.mjs) off the statement by which the dump's own 'gosem.cut.vars' lays the variable. In a bare row this is a premise. The card (YtegbadccjidfjaaDoorCards.lean) ties it to the program's text. -/
def laid_errors_errorType {H : Type} : DataW H := .iface "internal/reflectlite.rtype" (.agg [.ptr (.lit (.string [101, 114, 114, 111, 114]))])
def laid_loop_example_s01595_impl_errSize {H : Type} : DataW H := .iface "*errors.errorString" (.ptr (.agg [.lit (.string [110, 111, 116, 32, 97, 32, 98, 108, 111, 99, 107, 39, 115, 32, 115, 105, 122, 101])]))
def laid_loop_example_s01595_impl_errSum {H : Type} : DataW H := .iface "*errors.errorString" (.ptr (.agg [.lit (.string [116, 104, 101, 32, 115, 117, 109, 32, 105, 115, 32, 119, 114, 111, 110, 103])]))
def laid_loop_example_s01595_impl_errForm {H : Type} : DataW H := .iface "*errors.errorString" (.ptr (.agg [.lit (.string [110, 111, 116, 32, 97, 32, 102, 111, 114, 109])]))

/-- 'laws.FnExactEncodeTable': WHATEVER THE INPUT: true; the input reads as it did. -/
def fnExactEncodeTableSpec : ChangeSpec := { name := "fnExactEncodeTable", vars := ["loop.example/s01595/impl.errForm", "loop.example/s01595/impl.errSize", "loop.example/s01595/impl.errSum"], fn := fun _ => fun
  | [d, g1, g2, g3] => { results := [.lit (.bool true)], args := [d], vars := [g1, g2, g3] }
  | _ => none }
def fnExactEncodeTableRow : OpenClaim := { program := "ytegbadccjidfjaadoor", sum := "d9763ff0488bb9e7a48fa2e4241de1bd3dae7b9ea09c4eaca143e2e2d4044a6e", func := "loop.example/s01595/laws.FnExactEncodeTable", spec := "fnExactEncodeTable", inPlace := ["internal/reflectlite.ValueOf", "(internal/reflectlite.Value).Type", "(internal/reflectlite.Value).IsNil", "internal/reflectlite.TypeOf", "(internal/reflectlite.Value).Elem", "(internal/reflectlite.Value).Set"], unfollowed := true, recurses := true, named := ["loop.example/s01595/impl.errForm", "loop.example/s01595/impl.errSize", "loop.example/s01595/impl.errSum", "errors.errorType"], ifaces := true, apart := false, laid := [("errors.errorType", laid_errors_errorType), ("loop.example/s01595/impl.errSize", laid_loop_example_s01595_impl_errSize), ("loop.example/s01595/impl.errSum", laid_loop_example_s01595_impl_errSum), ("loop.example/s01595/impl.errForm", laid_loop_example_s01595_impl_errForm)] }
def FnExactEncodeTableSaid : Prop := fnExactEncodeTableRow.holds Tryd.pinned (OpenSpec.ofChange fnExactEncodeTableSpec)

/-- ITS FALSE NEIGHBOUR: 'it returns false'. Refute it at one input. -/
def fnExactEncodeTableWrong : ChangeSpec := { name := "fnExactEncodeTable", vars := ["loop.example/s01595/impl.errForm", "loop.example/s01595/impl.errSize", "loop.example/s01595/impl.errSum"], fn := fun _ => fun
  | [d, g1, g2, g3] => { results := [.lit (.bool false)], args := [d], vars := [g1, g2, g3] }
  | _ => none }
def FnExactEncodeTableWrongFalsely : Prop := fnExactEncodeTableRow.holds Tryd.pinned (OpenSpec.ofChange fnExactEncodeTableWrong)

/-- 'laws.FnExactEncodeSuper': WHATEVER THE INPUT: true; the input reads as it did. -/
def fnExactEncodeSuperSpec : ChangeSpec := { name := "fnExactEncodeSuper", vars := ["loop.example/s01595/impl.errForm", "loop.example/s01595/impl.errSize", "loop.example/s01595/impl.errSum"], fn := fun _ => fun
  | [d, g1, g2, g3] => { results := [.lit (.bool true)], args := [d], vars := [g1, g2, g3] }
  | _ => none }
def fnExactEncodeSuperRow : OpenClaim := { program := "ytegbadccjidfjaadoor", sum := "d9763ff0488bb9e7a48fa2e4241de1bd3dae7b9ea09c4eaca143e2e2d4044a6e", func := "loop.example/s01595/laws.FnExactEncodeSuper", spec := "fnExactEncodeSuper", inPlace := ["internal/reflectlite.ValueOf", "(internal/reflectlite.Value).Type", "(internal/reflectlite.Value).IsNil", "internal/reflectlite.TypeOf", "(internal/reflectlite.Value).Elem", "(internal/reflectlite.Value).Set"], unfollowed := true, recurses := true, named := ["loop.example/s01595/impl.errForm", "loop.example/s01595/impl.errSize", "loop.example/s01595/impl.errSum", "errors.errorType"], ifaces := true, apart := false, laid := [("errors.errorType", laid_errors_errorType), ("loop.example/s01595/impl.errSize", laid_loop_example_s01595_impl_errSize), ("loop.example/s01595/impl.errSum", laid_loop_example_s01595_impl_errSum), ("loop.example/s01595/impl.errForm", laid_loop_example_s01595_impl_errForm)] }
def FnExactEncodeSuperSaid : Prop := fnExactEncodeSuperRow.holds Tryd.pinned (OpenSpec.ofChange fnExactEncodeSuperSpec)

/-- ITS FALSE NEIGHBOUR: 'it returns false'. Refute it at one input. -/
def fnExactEncodeSuperWrong : ChangeSpec := { name := "fnExactEncodeSuper", vars := ["loop.example/s01595/impl.errForm", "loop.example/s01595/impl.errSize", "loop.example/s01595/impl.errSum"], fn := fun _ => fun
  | [d, g1, g2, g3] => { results := [.lit (.bool false)], args := [d], vars := [g1, g2, g3] }
  | _ => none }
def FnExactEncodeSuperWrongFalsely : Prop := fnExactEncodeSuperRow.holds Tryd.pinned (OpenSpec.ofChange fnExactEncodeSuperWrong)

/-- 'laws.FnExactDecodeTable': WHATEVER THE INPUT: true; the input reads as it did. -/
def fnExactDecodeTableSpec : ChangeSpec := { name := "fnExactDecodeTable", vars := ["loop.example/s01595/impl.errSize", "loop.example/s01595/impl.errSum", "loop.example/s01595/impl.errForm"], fn := fun _ => fun
  | [d, g1, g2, g3] => { results := [.lit (.bool true)], args := [d], vars := [g1, g2, g3] }
  | _ => none }
def fnExactDecodeTableRow : OpenClaim := { program := "ytegbadccjidfjaadoor", sum := "d9763ff0488bb9e7a48fa2e4241de1bd3dae7b9ea09c4eaca143e2e2d4044a6e", func := "loop.example/s01595/laws.FnExactDecodeTable", spec := "fnExactDecodeTable", inPlace := ["internal/reflectlite.ValueOf", "(internal/reflectlite.Value).Type", "(internal/reflectlite.Value).IsNil", "internal/reflectlite.TypeOf", "(internal/reflectlite.Value).Elem", "(internal/reflectlite.Value).Set"], unfollowed := true, recurses := true, named := ["loop.example/s01595/impl.errSize", "loop.example/s01595/impl.errSum", "loop.example/s01595/impl.errForm", "errors.errorType"], ifaces := true, apart := false, laid := [("errors.errorType", laid_errors_errorType), ("loop.example/s01595/impl.errSize", laid_loop_example_s01595_impl_errSize), ("loop.example/s01595/impl.errSum", laid_loop_example_s01595_impl_errSum), ("loop.example/s01595/impl.errForm", laid_loop_example_s01595_impl_errForm)] }
def FnExactDecodeTableSaid : Prop := fnExactDecodeTableRow.holds Tryd.pinned (OpenSpec.ofChange fnExactDecodeTableSpec)

/-- ITS FALSE NEIGHBOUR: 'it returns false'. Refute it at one input. -/
def fnExactDecodeTableWrong : ChangeSpec := { name := "fnExactDecodeTable", vars := ["loop.example/s01595/impl.errSize", "loop.example/s01595/impl.errSum", "loop.example/s01595/impl.errForm"], fn := fun _ => fun
  | [d, g1, g2, g3] => { results := [.lit (.bool false)], args := [d], vars := [g1, g2, g3] }
  | _ => none }
def FnExactDecodeTableWrongFalsely : Prop := fnExactDecodeTableRow.holds Tryd.pinned (OpenSpec.ofChange fnExactDecodeTableWrong)

/-- 'laws.FnExactDecodeSuper': WHATEVER THE INPUT: true; the input reads as it did. -/
def fnExactDecodeSuperSpec : ChangeSpec := { name := "fnExactDecodeSuper", vars := ["loop.example/s01595/impl.errSize", "loop.example/s01595/impl.errSum", "loop.example/s01595/impl.errForm"], fn := fun _ => fun
  | [d, g1, g2, g3] => { results := [.lit (.bool true)], args := [d], vars := [g1, g2, g3] }
  | _ => none }
def fnExactDecodeSuperRow : OpenClaim := { program := "ytegbadccjidfjaadoor", sum := "d9763ff0488bb9e7a48fa2e4241de1bd3dae7b9ea09c4eaca143e2e2d4044a6e", func := "loop.example/s01595/laws.FnExactDecodeSuper", spec := "fnExactDecodeSuper", inPlace := ["internal/reflectlite.ValueOf", "(internal/reflectlite.Value).Type", "(internal/reflectlite.Value).IsNil", "internal/reflectlite.TypeOf", "(internal/reflectlite.Value).Elem", "(internal/reflectlite.Value).Set"], unfollowed := true, recurses := true, named := ["loop.example/s01595/impl.errSize", "loop.example/s01595/impl.errSum", "loop.example/s01595/impl.errForm", "errors.errorType"], ifaces := true, apart := false, laid := [("errors.errorType", laid_errors_errorType), ("loop.example/s01595/impl.errSize", laid_loop_example_s01595_impl_errSize), ("loop.example/s01595/impl.errSum", laid_loop_example_s01595_impl_errSum), ("loop.example/s01595/impl.errForm", laid_loop_example_s01595_impl_errForm)] }
def FnExactDecodeSuperSaid : Prop := fnExactDecodeSuperRow.holds Tryd.pinned (OpenSpec.ofChange fnExactDecodeSuperSpec)

/-- ITS FALSE NEIGHBOUR: 'it returns false'. Refute it at one input. -/
def fnExactDecodeSuperWrong : ChangeSpec := { name := "fnExactDecodeSuper", vars := ["loop.example/s01595/impl.errSize", "loop.example/s01595/impl.errSum", "loop.example/s01595/impl.errForm"], fn := fun _ => fun
  | [d, g1, g2, g3] => { results := [.lit (.bool false)], args := [d], vars := [g1, g2, g3] }
  | _ => none }
def FnExactDecodeSuperWrongFalsely : Prop := fnExactDecodeSuperRow.holds Tryd.pinned (OpenSpec.ofChange fnExactDecodeSuperWrong)

/-- 'laws.FnExactEncodeNode': WHATEVER THE INPUT: true; the input reads as it did. -/
def fnExactEncodeNodeSpec : ChangeSpec := { name := "fnExactEncodeNode", vars := ["loop.example/s01595/impl.errForm", "loop.example/s01595/impl.errSize", "loop.example/s01595/impl.errSum"], fn := fun _ => fun
  | [d, g1, g2, g3] => { results := [.lit (.bool true)], args := [d], vars := [g1, g2, g3] }
  | _ => none }
def fnExactEncodeNodeRow : OpenClaim := { program := "ytegbadccjidfjaadoor", sum := "d9763ff0488bb9e7a48fa2e4241de1bd3dae7b9ea09c4eaca143e2e2d4044a6e", func := "loop.example/s01595/laws.FnExactEncodeNode", spec := "fnExactEncodeNode", inPlace := ["internal/reflectlite.ValueOf", "(internal/reflectlite.Value).Type", "(internal/reflectlite.Value).IsNil", "internal/reflectlite.TypeOf", "(internal/reflectlite.Value).Elem", "(internal/reflectlite.Value).Set"], unfollowed := true, recurses := true, named := ["loop.example/s01595/impl.errForm", "loop.example/s01595/impl.errSize", "loop.example/s01595/impl.errSum", "errors.errorType"], ifaces := true, apart := false, laid := [("errors.errorType", laid_errors_errorType), ("loop.example/s01595/impl.errSize", laid_loop_example_s01595_impl_errSize), ("loop.example/s01595/impl.errSum", laid_loop_example_s01595_impl_errSum), ("loop.example/s01595/impl.errForm", laid_loop_example_s01595_impl_errForm)] }
def FnExactEncodeNodeSaid : Prop := fnExactEncodeNodeRow.holds Tryd.pinned (OpenSpec.ofChange fnExactEncodeNodeSpec)

/-- ITS FALSE NEIGHBOUR: 'it returns false'. Refute it at one input. -/
def fnExactEncodeNodeWrong : ChangeSpec := { name := "fnExactEncodeNode", vars := ["loop.example/s01595/impl.errForm", "loop.example/s01595/impl.errSize", "loop.example/s01595/impl.errSum"], fn := fun _ => fun
  | [d, g1, g2, g3] => { results := [.lit (.bool false)], args := [d], vars := [g1, g2, g3] }
  | _ => none }
def FnExactEncodeNodeWrongFalsely : Prop := fnExactEncodeNodeRow.holds Tryd.pinned (OpenSpec.ofChange fnExactEncodeNodeWrong)

/-- 'laws.FnExactDecodeNode': WHATEVER THE INPUT: true; the input reads as it did. -/
def fnExactDecodeNodeSpec : ChangeSpec := { name := "fnExactDecodeNode", vars := ["loop.example/s01595/impl.errSize", "loop.example/s01595/impl.errSum", "loop.example/s01595/impl.errForm"], fn := fun _ => fun
  | [d, g1, g2, g3] => { results := [.lit (.bool true)], args := [d], vars := [g1, g2, g3] }
  | _ => none }
def fnExactDecodeNodeRow : OpenClaim := { program := "ytegbadccjidfjaadoor", sum := "d9763ff0488bb9e7a48fa2e4241de1bd3dae7b9ea09c4eaca143e2e2d4044a6e", func := "loop.example/s01595/laws.FnExactDecodeNode", spec := "fnExactDecodeNode", inPlace := ["internal/reflectlite.ValueOf", "(internal/reflectlite.Value).Type", "(internal/reflectlite.Value).IsNil", "internal/reflectlite.TypeOf", "(internal/reflectlite.Value).Elem", "(internal/reflectlite.Value).Set"], unfollowed := true, recurses := true, named := ["loop.example/s01595/impl.errSize", "loop.example/s01595/impl.errSum", "loop.example/s01595/impl.errForm", "errors.errorType"], ifaces := true, apart := false, laid := [("errors.errorType", laid_errors_errorType), ("loop.example/s01595/impl.errSize", laid_loop_example_s01595_impl_errSize), ("loop.example/s01595/impl.errSum", laid_loop_example_s01595_impl_errSum), ("loop.example/s01595/impl.errForm", laid_loop_example_s01595_impl_errForm)] }
def FnExactDecodeNodeSaid : Prop := fnExactDecodeNodeRow.holds Tryd.pinned (OpenSpec.ofChange fnExactDecodeNodeSpec)

/-- ITS FALSE NEIGHBOUR: 'it returns false'. Refute it at one input. -/
def fnExactDecodeNodeWrong : ChangeSpec := { name := "fnExactDecodeNode", vars := ["loop.example/s01595/impl.errSize", "loop.example/s01595/impl.errSum", "loop.example/s01595/impl.errForm"], fn := fun _ => fun
  | [d, g1, g2, g3] => { results := [.lit (.bool false)], args := [d], vars := [g1, g2, g3] }
  | _ => none }
def FnExactDecodeNodeWrongFalsely : Prop := fnExactDecodeNodeRow.holds Tryd.pinned (OpenSpec.ofChange fnExactDecodeNodeWrong)

/-- 'laws.FnExactMkfsSteps': WHATEVER THE INPUT: true; the input reads as it did. -/
def fnExactMkfsStepsSpec : ChangeSpec := { name := "fnExactMkfsSteps", vars := ["loop.example/s01595/impl.errForm", "loop.example/s01595/impl.errSize", "loop.example/s01595/impl.errSum"], fn := fun _ => fun
  | [d, g1, g2, g3] => { results := [.lit (.bool true)], args := [d], vars := [g1, g2, g3] }
  | _ => none }
def fnExactMkfsStepsRow : OpenClaim := { program := "ytegbadccjidfjaadoor", sum := "d9763ff0488bb9e7a48fa2e4241de1bd3dae7b9ea09c4eaca143e2e2d4044a6e", func := "loop.example/s01595/laws.FnExactMkfsSteps", spec := "fnExactMkfsSteps", inPlace := ["internal/reflectlite.ValueOf", "(internal/reflectlite.Value).Type", "(internal/reflectlite.Value).IsNil", "internal/reflectlite.TypeOf", "(internal/reflectlite.Value).Elem", "(internal/reflectlite.Value).Set"], unfollowed := true, recurses := true, named := ["loop.example/s01595/impl.errForm", "loop.example/s01595/impl.errSize", "loop.example/s01595/impl.errSum", "errors.errorType"], ifaces := true, apart := false, laid := [("errors.errorType", laid_errors_errorType), ("loop.example/s01595/impl.errSize", laid_loop_example_s01595_impl_errSize), ("loop.example/s01595/impl.errSum", laid_loop_example_s01595_impl_errSum), ("loop.example/s01595/impl.errForm", laid_loop_example_s01595_impl_errForm)] }
def FnExactMkfsStepsSaid : Prop := fnExactMkfsStepsRow.holds Tryd.pinned (OpenSpec.ofChange fnExactMkfsStepsSpec)

/-- ITS FALSE NEIGHBOUR: 'it returns false'. Refute it at one input. -/
def fnExactMkfsStepsWrong : ChangeSpec := { name := "fnExactMkfsSteps", vars := ["loop.example/s01595/impl.errForm", "loop.example/s01595/impl.errSize", "loop.example/s01595/impl.errSum"], fn := fun _ => fun
  | [d, g1, g2, g3] => { results := [.lit (.bool false)], args := [d], vars := [g1, g2, g3] }
  | _ => none }
def FnExactMkfsStepsWrongFalsely : Prop := fnExactMkfsStepsRow.holds Tryd.pinned (OpenSpec.ofChange fnExactMkfsStepsWrong)

/-- 'laws.FnExactMkfs': WHATEVER THE INPUT: true; the input reads as it did. -/
def fnExactMkfsSpec : ChangeSpec := { name := "fnExactMkfs", vars := ["loop.example/s01595/impl.errForm", "loop.example/s01595/impl.errSize", "loop.example/s01595/impl.errSum"], fn := fun _ => fun
  | [d, g1, g2, g3] => { results := [.lit (.bool true)], args := [d], vars := [g1, g2, g3] }
  | _ => none }
def fnExactMkfsRow : OpenClaim := { program := "ytegbadccjidfjaadoor", sum := "d9763ff0488bb9e7a48fa2e4241de1bd3dae7b9ea09c4eaca143e2e2d4044a6e", func := "loop.example/s01595/laws.FnExactMkfs", spec := "fnExactMkfs", inPlace := ["internal/reflectlite.ValueOf", "(internal/reflectlite.Value).Type", "(internal/reflectlite.Value).IsNil", "internal/reflectlite.TypeOf", "(internal/reflectlite.Value).Elem", "(internal/reflectlite.Value).Set"], unfollowed := true, recurses := true, named := ["loop.example/s01595/impl.errForm", "loop.example/s01595/impl.errSize", "loop.example/s01595/impl.errSum", "errors.errorType"], ifaces := true, apart := false, laid := [("errors.errorType", laid_errors_errorType), ("loop.example/s01595/impl.errSize", laid_loop_example_s01595_impl_errSize), ("loop.example/s01595/impl.errSum", laid_loop_example_s01595_impl_errSum), ("loop.example/s01595/impl.errForm", laid_loop_example_s01595_impl_errForm)] }
def FnExactMkfsSaid : Prop := fnExactMkfsRow.holds Tryd.pinned (OpenSpec.ofChange fnExactMkfsSpec)

/-- ITS FALSE NEIGHBOUR: 'it returns false'. Refute it at one input. -/
def fnExactMkfsWrong : ChangeSpec := { name := "fnExactMkfs", vars := ["loop.example/s01595/impl.errForm", "loop.example/s01595/impl.errSize", "loop.example/s01595/impl.errSum"], fn := fun _ => fun
  | [d, g1, g2, g3] => { results := [.lit (.bool false)], args := [d], vars := [g1, g2, g3] }
  | _ => none }
def FnExactMkfsWrongFalsely : Prop := fnExactMkfsRow.holds Tryd.pinned (OpenSpec.ofChange fnExactMkfsWrong)

/- THE SECOND FORM. 'bulk': how many values and letters a reading holds, each counted each time it is reached (what is shared counts as often as it is met; a slice's spare places count too). A statement '..UptoSaid' is the law's where the arguments, and the package variables that the reading takes, are together of bulk at most 1048576: NARROWER than '..Said'. Prove '..Said' where nothing that the law and all that it calls make is longer than what came in: it says more and counts as full. Else prove '..UptoSaid'. A law counts once. -/
mutual
def uptoBulk {H : Type} : DataW H → Nat
  | .lit (.string bytes) => bytes.length + 1
  | .lit _ => 1
  | .nil => 1
  | .ptr d => uptoBulk d + 1
  | .slice elems spare => uptoBulkAll elems + uptoBulkAll spare + 1
  | .agg parts => uptoBulkAll parts + 1
  | .iface _ d => uptoBulk d + 1
  | .map entries => uptoBulkEntries entries + 1
  | .held _ => 1
def uptoBulkAll {H : Type} : List (DataW H) → Nat
  | [] => 0
  | d :: r => uptoBulk d + uptoBulkAll r
def uptoBulkEntries {H : Type} : List (Lit × DataW H) → Nat
  | [] => 0
  | x :: r => uptoBulkEntry x + uptoBulkEntries r
def uptoBulkEntry {H : Type} : Lit × DataW H → Nat
  | (.string bytes, d) => bytes.length + uptoBulk d + 1
  | (_, d) => uptoBulk d + 1
 end
def uptoSmall : (H : Type) → List (DataW H) → Bool := fun _ ds => decide (uptoBulkAll ds ≤ 1048576)
def OpenSpec.upto (s : _root_.Go.ChangeSpec) : _root_.Go.OpenSpec := { _root_.Go.OpenSpec.ofChange s with cond := some uptoSmall }

/-- 'laws.FnExactEncodeTable', WHERE WHAT IT READS IS OF BULK AT MOST 1048576: true; the input reads as it did. -/
def fnExactEncodeTableUptoRow : OpenClaim := { program := "ytegbadccjidfjaadoor", sum := "d9763ff0488bb9e7a48fa2e4241de1bd3dae7b9ea09c4eaca143e2e2d4044a6e", func := "loop.example/s01595/laws.FnExactEncodeTable", spec := "fnExactEncodeTable", inPlace := ["internal/reflectlite.ValueOf", "(internal/reflectlite.Value).Type", "(internal/reflectlite.Value).IsNil", "internal/reflectlite.TypeOf", "(internal/reflectlite.Value).Elem", "(internal/reflectlite.Value).Set"], unfollowed := true, recurses := true, named := ["loop.example/s01595/impl.errForm", "loop.example/s01595/impl.errSize", "loop.example/s01595/impl.errSum", "errors.errorType"], ifaces := true, apart := false, laid := [("errors.errorType", laid_errors_errorType), ("loop.example/s01595/impl.errSize", laid_loop_example_s01595_impl_errSize), ("loop.example/s01595/impl.errSum", laid_loop_example_s01595_impl_errSum), ("loop.example/s01595/impl.errForm", laid_loop_example_s01595_impl_errForm)], narrowed := true }
def FnExactEncodeTableUptoSaid : Prop := fnExactEncodeTableUptoRow.holds Tryd.pinned (OpenSpec.upto fnExactEncodeTableSpec)

/-- 'laws.FnExactEncodeSuper', WHERE WHAT IT READS IS OF BULK AT MOST 1048576: true; the input reads as it did. -/
def fnExactEncodeSuperUptoRow : OpenClaim := { program := "ytegbadccjidfjaadoor", sum := "d9763ff0488bb9e7a48fa2e4241de1bd3dae7b9ea09c4eaca143e2e2d4044a6e", func := "loop.example/s01595/laws.FnExactEncodeSuper", spec := "fnExactEncodeSuper", inPlace := ["internal/reflectlite.ValueOf", "(internal/reflectlite.Value).Type", "(internal/reflectlite.Value).IsNil", "internal/reflectlite.TypeOf", "(internal/reflectlite.Value).Elem", "(internal/reflectlite.Value).Set"], unfollowed := true, recurses := true, named := ["loop.example/s01595/impl.errForm", "loop.example/s01595/impl.errSize", "loop.example/s01595/impl.errSum", "errors.errorType"], ifaces := true, apart := false, laid := [("errors.errorType", laid_errors_errorType), ("loop.example/s01595/impl.errSize", laid_loop_example_s01595_impl_errSize), ("loop.example/s01595/impl.errSum", laid_loop_example_s01595_impl_errSum), ("loop.example/s01595/impl.errForm", laid_loop_example_s01595_impl_errForm)], narrowed := true }
def FnExactEncodeSuperUptoSaid : Prop := fnExactEncodeSuperUptoRow.holds Tryd.pinned (OpenSpec.upto fnExactEncodeSuperSpec)

/-- 'laws.FnExactDecodeTable', WHERE WHAT IT READS IS OF BULK AT MOST 1048576: true; the input reads as it did. -/
def fnExactDecodeTableUptoRow : OpenClaim := { program := "ytegbadccjidfjaadoor", sum := "d9763ff0488bb9e7a48fa2e4241de1bd3dae7b9ea09c4eaca143e2e2d4044a6e", func := "loop.example/s01595/laws.FnExactDecodeTable", spec := "fnExactDecodeTable", inPlace := ["internal/reflectlite.ValueOf", "(internal/reflectlite.Value).Type", "(internal/reflectlite.Value).IsNil", "internal/reflectlite.TypeOf", "(internal/reflectlite.Value).Elem", "(internal/reflectlite.Value).Set"], unfollowed := true, recurses := true, named := ["loop.example/s01595/impl.errSize", "loop.example/s01595/impl.errSum", "loop.example/s01595/impl.errForm", "errors.errorType"], ifaces := true, apart := false, laid := [("errors.errorType", laid_errors_errorType), ("loop.example/s01595/impl.errSize", laid_loop_example_s01595_impl_errSize), ("loop.example/s01595/impl.errSum", laid_loop_example_s01595_impl_errSum), ("loop.example/s01595/impl.errForm", laid_loop_example_s01595_impl_errForm)], narrowed := true }
def FnExactDecodeTableUptoSaid : Prop := fnExactDecodeTableUptoRow.holds Tryd.pinned (OpenSpec.upto fnExactDecodeTableSpec)

/-- 'laws.FnExactDecodeSuper', WHERE WHAT IT READS IS OF BULK AT MOST 1048576: true; the input reads as it did. -/
def fnExactDecodeSuperUptoRow : OpenClaim := { program := "ytegbadccjidfjaadoor", sum := "d9763ff0488bb9e7a48fa2e4241de1bd3dae7b9ea09c4eaca143e2e2d4044a6e", func := "loop.example/s01595/laws.FnExactDecodeSuper", spec := "fnExactDecodeSuper", inPlace := ["internal/reflectlite.ValueOf", "(internal/reflectlite.Value).Type", "(internal/reflectlite.Value).IsNil", "internal/reflectlite.TypeOf", "(internal/reflectlite.Value).Elem", "(internal/reflectlite.Value).Set"], unfollowed := true, recurses := true, named := ["loop.example/s01595/impl.errSize", "loop.example/s01595/impl.errSum", "loop.example/s01595/impl.errForm", "errors.errorType"], ifaces := true, apart := false, laid := [("errors.errorType", laid_errors_errorType), ("loop.example/s01595/impl.errSize", laid_loop_example_s01595_impl_errSize), ("loop.example/s01595/impl.errSum", laid_loop_example_s01595_impl_errSum), ("loop.example/s01595/impl.errForm", laid_loop_example_s01595_impl_errForm)], narrowed := true }
def FnExactDecodeSuperUptoSaid : Prop := fnExactDecodeSuperUptoRow.holds Tryd.pinned (OpenSpec.upto fnExactDecodeSuperSpec)

/-- 'laws.FnExactEncodeNode', WHERE WHAT IT READS IS OF BULK AT MOST 1048576: true; the input reads as it did. -/
def fnExactEncodeNodeUptoRow : OpenClaim := { program := "ytegbadccjidfjaadoor", sum := "d9763ff0488bb9e7a48fa2e4241de1bd3dae7b9ea09c4eaca143e2e2d4044a6e", func := "loop.example/s01595/laws.FnExactEncodeNode", spec := "fnExactEncodeNode", inPlace := ["internal/reflectlite.ValueOf", "(internal/reflectlite.Value).Type", "(internal/reflectlite.Value).IsNil", "internal/reflectlite.TypeOf", "(internal/reflectlite.Value).Elem", "(internal/reflectlite.Value).Set"], unfollowed := true, recurses := true, named := ["loop.example/s01595/impl.errForm", "loop.example/s01595/impl.errSize", "loop.example/s01595/impl.errSum", "errors.errorType"], ifaces := true, apart := false, laid := [("errors.errorType", laid_errors_errorType), ("loop.example/s01595/impl.errSize", laid_loop_example_s01595_impl_errSize), ("loop.example/s01595/impl.errSum", laid_loop_example_s01595_impl_errSum), ("loop.example/s01595/impl.errForm", laid_loop_example_s01595_impl_errForm)], narrowed := true }
def FnExactEncodeNodeUptoSaid : Prop := fnExactEncodeNodeUptoRow.holds Tryd.pinned (OpenSpec.upto fnExactEncodeNodeSpec)

/-- 'laws.FnExactDecodeNode', WHERE WHAT IT READS IS OF BULK AT MOST 1048576: true; the input reads as it did. -/
def fnExactDecodeNodeUptoRow : OpenClaim := { program := "ytegbadccjidfjaadoor", sum := "d9763ff0488bb9e7a48fa2e4241de1bd3dae7b9ea09c4eaca143e2e2d4044a6e", func := "loop.example/s01595/laws.FnExactDecodeNode", spec := "fnExactDecodeNode", inPlace := ["internal/reflectlite.ValueOf", "(internal/reflectlite.Value).Type", "(internal/reflectlite.Value).IsNil", "internal/reflectlite.TypeOf", "(internal/reflectlite.Value).Elem", "(internal/reflectlite.Value).Set"], unfollowed := true, recurses := true, named := ["loop.example/s01595/impl.errSize", "loop.example/s01595/impl.errSum", "loop.example/s01595/impl.errForm", "errors.errorType"], ifaces := true, apart := false, laid := [("errors.errorType", laid_errors_errorType), ("loop.example/s01595/impl.errSize", laid_loop_example_s01595_impl_errSize), ("loop.example/s01595/impl.errSum", laid_loop_example_s01595_impl_errSum), ("loop.example/s01595/impl.errForm", laid_loop_example_s01595_impl_errForm)], narrowed := true }
def FnExactDecodeNodeUptoSaid : Prop := fnExactDecodeNodeUptoRow.holds Tryd.pinned (OpenSpec.upto fnExactDecodeNodeSpec)

/-- 'laws.FnExactMkfsSteps', WHERE WHAT IT READS IS OF BULK AT MOST 1048576: true; the input reads as it did. -/
def fnExactMkfsStepsUptoRow : OpenClaim := { program := "ytegbadccjidfjaadoor", sum := "d9763ff0488bb9e7a48fa2e4241de1bd3dae7b9ea09c4eaca143e2e2d4044a6e", func := "loop.example/s01595/laws.FnExactMkfsSteps", spec := "fnExactMkfsSteps", inPlace := ["internal/reflectlite.ValueOf", "(internal/reflectlite.Value).Type", "(internal/reflectlite.Value).IsNil", "internal/reflectlite.TypeOf", "(internal/reflectlite.Value).Elem", "(internal/reflectlite.Value).Set"], unfollowed := true, recurses := true, named := ["loop.example/s01595/impl.errForm", "loop.example/s01595/impl.errSize", "loop.example/s01595/impl.errSum", "errors.errorType"], ifaces := true, apart := false, laid := [("errors.errorType", laid_errors_errorType), ("loop.example/s01595/impl.errSize", laid_loop_example_s01595_impl_errSize), ("loop.example/s01595/impl.errSum", laid_loop_example_s01595_impl_errSum), ("loop.example/s01595/impl.errForm", laid_loop_example_s01595_impl_errForm)], narrowed := true }
def FnExactMkfsStepsUptoSaid : Prop := fnExactMkfsStepsUptoRow.holds Tryd.pinned (OpenSpec.upto fnExactMkfsStepsSpec)

/-- 'laws.FnExactMkfs', WHERE WHAT IT READS IS OF BULK AT MOST 1048576: true; the input reads as it did. -/
def fnExactMkfsUptoRow : OpenClaim := { program := "ytegbadccjidfjaadoor", sum := "d9763ff0488bb9e7a48fa2e4241de1bd3dae7b9ea09c4eaca143e2e2d4044a6e", func := "loop.example/s01595/laws.FnExactMkfs", spec := "fnExactMkfs", inPlace := ["internal/reflectlite.ValueOf", "(internal/reflectlite.Value).Type", "(internal/reflectlite.Value).IsNil", "internal/reflectlite.TypeOf", "(internal/reflectlite.Value).Elem", "(internal/reflectlite.Value).Set"], unfollowed := true, recurses := true, named := ["loop.example/s01595/impl.errForm", "loop.example/s01595/impl.errSize", "loop.example/s01595/impl.errSum", "errors.errorType"], ifaces := true, apart := false, laid := [("errors.errorType", laid_errors_errorType), ("loop.example/s01595/impl.errSize", laid_loop_example_s01595_impl_errSize), ("loop.example/s01595/impl.errSum", laid_loop_example_s01595_impl_errSum), ("loop.example/s01595/impl.errForm", laid_loop_example_s01595_impl_errForm)], narrowed := true }
def FnExactMkfsUptoSaid : Prop := fnExactMkfsUptoRow.holds Tryd.pinned (OpenSpec.upto fnExactMkfsSpec)

end Rows
end Go.Proofs.YtegbadccjidfjaaDoor
