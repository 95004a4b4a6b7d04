/-
  No cell of these rows narrows 'for every input' (looked for: loops, veiled, ifaces, maps, wideKeys, modest, calm, conditions, laid).
  DERIVED. THE GIVEN ROWS OF THIS SEAT. 10 by the template 'for every input the law returns true; each argument reads behind the call as it read before'; 0 by the template 'total and deterministic' (their statements: YtbimmmmjdimebaaTotals.lean).
  GIVEN WITH THE SEED: the statements are not yours to turn. If you find one false, say at which input.
  Laid BY PROGRAM, IN A SANDBOX (cutbox-rows.mjs): the forced cells as the released guide's own fill.sh prints them over the translation 1e058f88b9543b6e… (all of the seat's roots in one cut). By AI agents, Wed Nov 11 2026. No macro, syntax, notation, axiom, sorry.
-/
import Derived.Test.YtbimmmmjdimebaaChecked
import GoSem.Claim
import GoSem.ClaimJoined
import GoSem.ClaimMapViews
import Derived.JoinedTies
import Derived.KernelRfl
namespace Go.Proofs.Ytbimmmmjdimebaa
/- THE CELL 'sum', in the pinned program and in every row, IS THE sha256 OF THE DUMP (.gsa) THAT YtbimmmmjdimebaaProg.lean LOADS. Nothing in Lean hashes anything: it is a label: what it is worth is what the hold of that sum in a sandbox is worth. -/
noncomputable def Try.pinned : Pinned := { name := "ytbimmmmjdimebaa", sum := "1e058f88b9543b6e1e64bbae9bd8fbbd8fbaa8bbc7eb527746b261922420aa85", checked := Try.checked }
namespace Rows
def none {H : Type} : Left H := { results := [], args := [] }

/-- 'laws.FnExactCountsOf': WHATEVER THE INPUT: true; the input reads as it did. -/
def fnExactCountsOfSpec : ChangeSpec := { name := "fnExactCountsOf", fn := fun _ => fun
  | [d1, d2] => { results := [.lit (.bool true)], args := [d1, d2] }
  | _ => none }
def fnExactCountsOfRow : OpenClaim := { program := "ytbimmmmjdimebaa", sum := "1e058f88b9543b6e1e64bbae9bd8fbbd8fbaa8bbc7eb527746b261922420aa85", func := "loop.example/s01595/laws.FnExactCountsOf", spec := "fnExactCountsOf", apart := false }
def FnExactCountsOfSaid : Prop := fnExactCountsOfRow.holds Try.pinned (OpenSpec.ofChange fnExactCountsOfSpec)

/-- ITS FALSE NEIGHBOUR: 'it returns false'. Refute it at one input. -/
def fnExactCountsOfWrong : ChangeSpec := { name := "fnExactCountsOf", fn := fun _ => fun
  | [d1, d2] => { results := [.lit (.bool false)], args := [d1, d2] }
  | _ => none }
def FnExactCountsOfWrongFalsely : Prop := fnExactCountsOfRow.holds Try.pinned (OpenSpec.ofChange fnExactCountsOfWrong)

/-- 'laws.FnExactRunsOf': WHATEVER THE INPUT: true; the input reads as it did. -/
def fnExactRunsOfSpec : ChangeSpec := { name := "fnExactRunsOf", fn := fun _ => fun
  | [d] => { results := [.lit (.bool true)], args := [d] }
  | _ => none }
def fnExactRunsOfRow : OpenClaim := { program := "ytbimmmmjdimebaa", sum := "1e058f88b9543b6e1e64bbae9bd8fbbd8fbaa8bbc7eb527746b261922420aa85", func := "loop.example/s01595/laws.FnExactRunsOf", spec := "fnExactRunsOf", apart := false }
def FnExactRunsOfSaid : Prop := fnExactRunsOfRow.holds Try.pinned (OpenSpec.ofChange fnExactRunsOfSpec)

/-- ITS FALSE NEIGHBOUR: 'it returns false'. Refute it at one input. -/
def fnExactRunsOfWrong : ChangeSpec := { name := "fnExactRunsOf", fn := fun _ => fun
  | [d] => { results := [.lit (.bool false)], args := [d] }
  | _ => none }
def FnExactRunsOfWrongFalsely : Prop := fnExactRunsOfRow.holds Try.pinned (OpenSpec.ofChange fnExactRunsOfWrong)

/-- 'laws.FnExactDevRead': WHATEVER THE INPUT: true; the input reads as it did. -/
def fnExactDevReadSpec : ChangeSpec := { name := "fnExactDevRead", fn := fun _ => fun
  | [d1, d2] => { results := [.lit (.bool true)], args := [d1, d2] }
  | _ => none }
def fnExactDevReadRow : OpenClaim := { program := "ytbimmmmjdimebaa", sum := "1e058f88b9543b6e1e64bbae9bd8fbbd8fbaa8bbc7eb527746b261922420aa85", func := "loop.example/s01595/laws.FnExactDevRead", spec := "fnExactDevRead", apart := false }
def FnExactDevReadSaid : Prop := fnExactDevReadRow.holds Try.pinned (OpenSpec.ofChange fnExactDevReadSpec)

/-- ITS FALSE NEIGHBOUR: 'it returns false'. Refute it at one input. -/
def fnExactDevReadWrong : ChangeSpec := { name := "fnExactDevRead", fn := fun _ => fun
  | [d1, d2] => { results := [.lit (.bool false)], args := [d1, d2] }
  | _ => none }
def FnExactDevReadWrongFalsely : Prop := fnExactDevReadRow.holds Try.pinned (OpenSpec.ofChange fnExactDevReadWrong)

/-- 'laws.FnExactPlanTable': WHATEVER THE INPUT: true; the input reads as it did. -/
def fnExactPlanTableSpec : ChangeSpec := { name := "fnExactPlanTable", fn := fun _ => fun
  | [d1, d2] => { results := [.lit (.bool true)], args := [d1, d2] }
  | _ => none }
def fnExactPlanTableRow : OpenClaim := { program := "ytbimmmmjdimebaa", sum := "1e058f88b9543b6e1e64bbae9bd8fbbd8fbaa8bbc7eb527746b261922420aa85", func := "loop.example/s01595/laws.FnExactPlanTable", spec := "fnExactPlanTable", unfollowed := true, recurses := true, apart := false }
def FnExactPlanTableSaid : Prop := fnExactPlanTableRow.holds Try.pinned (OpenSpec.ofChange fnExactPlanTableSpec)

/-- ITS FALSE NEIGHBOUR: 'it returns false'. Refute it at one input. -/
def fnExactPlanTableWrong : ChangeSpec := { name := "fnExactPlanTable", fn := fun _ => fun
  | [d1, d2] => { results := [.lit (.bool false)], args := [d1, d2] }
  | _ => none }
def FnExactPlanTableWrongFalsely : Prop := fnExactPlanTableRow.holds Try.pinned (OpenSpec.ofChange fnExactPlanTableWrong)

/-- 'laws.FnExactDevCrash': WHATEVER THE INPUT: true; the input reads as it did. -/
def fnExactDevCrashSpec : ChangeSpec := { name := "fnExactDevCrash", fn := fun _ => fun
  | [d1, d2] => { results := [.lit (.bool true)], args := [d1, d2] }
  | _ => none }
def fnExactDevCrashRow : OpenClaim := { program := "ytbimmmmjdimebaa", sum := "1e058f88b9543b6e1e64bbae9bd8fbbd8fbaa8bbc7eb527746b261922420aa85", func := "loop.example/s01595/laws.FnExactDevCrash", spec := "fnExactDevCrash", unfollowed := true, recurses := true, apart := false }
def FnExactDevCrashSaid : Prop := fnExactDevCrashRow.holds Try.pinned (OpenSpec.ofChange fnExactDevCrashSpec)

/-- ITS FALSE NEIGHBOUR: 'it returns false'. Refute it at one input. -/
def fnExactDevCrashWrong : ChangeSpec := { name := "fnExactDevCrash", fn := fun _ => fun
  | [d1, d2] => { results := [.lit (.bool false)], args := [d1, d2] }
  | _ => none }
def FnExactDevCrashWrongFalsely : Prop := fnExactDevCrashRow.holds Try.pinned (OpenSpec.ofChange fnExactDevCrashWrong)

/-- 'laws.FnExactDevFlush': WHATEVER THE INPUT: true; the input reads as it did. -/
def fnExactDevFlushSpec : ChangeSpec := { name := "fnExactDevFlush", fn := fun _ => fun
  | [d] => { results := [.lit (.bool true)], args := [d] }
  | _ => none }
def fnExactDevFlushRow : OpenClaim := { program := "ytbimmmmjdimebaa", sum := "1e058f88b9543b6e1e64bbae9bd8fbbd8fbaa8bbc7eb527746b261922420aa85", func := "loop.example/s01595/laws.FnExactDevFlush", spec := "fnExactDevFlush", unfollowed := true, recurses := true, apart := false }
def FnExactDevFlushSaid : Prop := fnExactDevFlushRow.holds Try.pinned (OpenSpec.ofChange fnExactDevFlushSpec)

/-- ITS FALSE NEIGHBOUR: 'it returns false'. Refute it at one input. -/
def fnExactDevFlushWrong : ChangeSpec := { name := "fnExactDevFlush", fn := fun _ => fun
  | [d] => { results := [.lit (.bool false)], args := [d] }
  | _ => none }
def FnExactDevFlushWrongFalsely : Prop := fnExactDevFlushRow.holds Try.pinned (OpenSpec.ofChange fnExactDevFlushWrong)

/-- 'laws.FnExactDevWrite': WHATEVER THE INPUT: true; the input reads as it did. -/
def fnExactDevWriteSpec : ChangeSpec := { name := "fnExactDevWrite", fn := fun _ => fun
  | [d1, d2, d3] => { results := [.lit (.bool true)], args := [d1, d2, d3] }
  | _ => none }
def fnExactDevWriteRow : OpenClaim := { program := "ytbimmmmjdimebaa", sum := "1e058f88b9543b6e1e64bbae9bd8fbbd8fbaa8bbc7eb527746b261922420aa85", func := "loop.example/s01595/laws.FnExactDevWrite", spec := "fnExactDevWrite", apart := false }
def FnExactDevWriteSaid : Prop := fnExactDevWriteRow.holds Try.pinned (OpenSpec.ofChange fnExactDevWriteSpec)

/-- ITS FALSE NEIGHBOUR: 'it returns false'. Refute it at one input. -/
def fnExactDevWriteWrong : ChangeSpec := { name := "fnExactDevWrite", fn := fun _ => fun
  | [d1, d2, d3] => { results := [.lit (.bool false)], args := [d1, d2, d3] }
  | _ => none }
def FnExactDevWriteWrongFalsely : Prop := fnExactDevWriteRow.holds Try.pinned (OpenSpec.ofChange fnExactDevWriteWrong)

/-- 'laws.FnDeviceReads': WHATEVER THE INPUT: true; the input reads as it did. -/
def fnDeviceReadsSpec : ChangeSpec := { name := "fnDeviceReads", fn := fun _ => fun
  | [d1, d2] => { results := [.lit (.bool true)], args := [d1, d2] }
  | _ => none }
def fnDeviceReadsRow : OpenClaim := { program := "ytbimmmmjdimebaa", sum := "1e058f88b9543b6e1e64bbae9bd8fbbd8fbaa8bbc7eb527746b261922420aa85", func := "loop.example/s01595/laws.FnDeviceReads", spec := "fnDeviceReads", unfollowed := true, recurses := true, apart := false }
def FnDeviceReadsSaid : Prop := fnDeviceReadsRow.holds Try.pinned (OpenSpec.ofChange fnDeviceReadsSpec)

/-- ITS FALSE NEIGHBOUR: 'it returns false'. Refute it at one input. -/
def fnDeviceReadsWrong : ChangeSpec := { name := "fnDeviceReads", fn := fun _ => fun
  | [d1, d2] => { results := [.lit (.bool false)], args := [d1, d2] }
  | _ => none }
def FnDeviceReadsWrongFalsely : Prop := fnDeviceReadsRow.holds Try.pinned (OpenSpec.ofChange fnDeviceReadsWrong)

/-- 'laws.FnPlan': WHATEVER THE INPUT: true; the input reads as it did. -/
def fnPlanSpec : ChangeSpec := { name := "fnPlan", fn := fun _ => fun
  | [d] => { results := [.lit (.bool true)], args := [d] }
  | _ => none }
def fnPlanRow : OpenClaim := { program := "ytbimmmmjdimebaa", sum := "1e058f88b9543b6e1e64bbae9bd8fbbd8fbaa8bbc7eb527746b261922420aa85", func := "loop.example/s01595/laws.FnPlan", spec := "fnPlan", unfollowed := true, recurses := true, apart := false }
def FnPlanSaid : Prop := fnPlanRow.holds Try.pinned (OpenSpec.ofChange fnPlanSpec)

/-- ITS FALSE NEIGHBOUR: 'it returns false'. Refute it at one input. -/
def fnPlanWrong : ChangeSpec := { name := "fnPlan", fn := fun _ => fun
  | [d] => { results := [.lit (.bool false)], args := [d] }
  | _ => none }
def FnPlanWrongFalsely : Prop := fnPlanRow.holds Try.pinned (OpenSpec.ofChange fnPlanWrong)

/-- 'laws.FnExactDevApply': WHATEVER THE INPUT: true; the input reads as it did. -/
def fnExactDevApplySpec : ChangeSpec := { name := "fnExactDevApply", fn := fun _ => fun
  | [d1, d2, d3] => { results := [.lit (.bool true)], args := [d1, d2, d3] }
  | _ => none }
def fnExactDevApplyRow : OpenClaim := { program := "ytbimmmmjdimebaa", sum := "1e058f88b9543b6e1e64bbae9bd8fbbd8fbaa8bbc7eb527746b261922420aa85", func := "loop.example/s01595/laws.FnExactDevApply", spec := "fnExactDevApply", unfollowed := true, recurses := true, apart := false }
def FnExactDevApplySaid : Prop := fnExactDevApplyRow.holds Try.pinned (OpenSpec.ofChange fnExactDevApplySpec)

/-- ITS FALSE NEIGHBOUR: 'it returns false'. Refute it at one input. -/
def fnExactDevApplyWrong : ChangeSpec := { name := "fnExactDevApply", fn := fun _ => fun
  | [d1, d2, d3] => { results := [.lit (.bool false)], args := [d1, d2, d3] }
  | _ => none }
def FnExactDevApplyWrongFalsely : Prop := fnExactDevApplyRow.holds Try.pinned (OpenSpec.ofChange fnExactDevApplyWrong)

/- THE SECOND FORM. 'bulk': how many values and letters a reading holds, each counted each time it is reached (what is shared counts as often as it is met; a slice's spare places count too). A statement '..UptoSaid' is the law's where the arguments, and the package variables that the reading takes, are together of bulk at most 1048576: NARROWER than '..Said'. Prove '..Said' where nothing that the law and all that it calls make is longer than what came in: it says more and counts as full. Else prove '..UptoSaid'. A law counts once. -/
mutual
def uptoBulk {H : Type} : DataW H → Nat
  | .lit (.string bytes) => bytes.length + 1
  | .lit _ => 1
  | .nil => 1
  | .ptr d => uptoBulk d + 1
  | .slice elems spare => uptoBulkAll elems + uptoBulkAll spare + 1
  | .agg parts => uptoBulkAll parts + 1
  | .iface _ d => uptoBulk d + 1
  | .map entries => uptoBulkEntries entries + 1
  | .held _ => 1
def uptoBulkAll {H : Type} : List (DataW H) → Nat
  | [] => 0
  | d :: r => uptoBulk d + uptoBulkAll r
def uptoBulkEntries {H : Type} : List (Lit × DataW H) → Nat
  | [] => 0
  | x :: r => uptoBulkEntry x + uptoBulkEntries r
def uptoBulkEntry {H : Type} : Lit × DataW H → Nat
  | (.string bytes, d) => bytes.length + uptoBulk d + 1
  | (_, d) => uptoBulk d + 1
 end
def uptoSmall : (H : Type) → List (DataW H) → Bool := fun _ ds => decide (uptoBulkAll ds ≤ 1048576)
def OpenSpec.upto (s : _root_.Go.ChangeSpec) : _root_.Go.OpenSpec := { _root_.Go.OpenSpec.ofChange s with cond := some uptoSmall }

/-- 'laws.FnExactCountsOf', WHERE WHAT IT READS IS OF BULK AT MOST 1048576: true; the input reads as it did. -/
def fnExactCountsOfUptoRow : OpenClaim := { program := "ytbimmmmjdimebaa", sum := "1e058f88b9543b6e1e64bbae9bd8fbbd8fbaa8bbc7eb527746b261922420aa85", func := "loop.example/s01595/laws.FnExactCountsOf", spec := "fnExactCountsOf", apart := false, narrowed := true }
def FnExactCountsOfUptoSaid : Prop := fnExactCountsOfUptoRow.holds Try.pinned (OpenSpec.upto fnExactCountsOfSpec)

/-- 'laws.FnExactRunsOf', WHERE WHAT IT READS IS OF BULK AT MOST 1048576: true; the input reads as it did. -/
def fnExactRunsOfUptoRow : OpenClaim := { program := "ytbimmmmjdimebaa", sum := "1e058f88b9543b6e1e64bbae9bd8fbbd8fbaa8bbc7eb527746b261922420aa85", func := "loop.example/s01595/laws.FnExactRunsOf", spec := "fnExactRunsOf", apart := false, narrowed := true }
def FnExactRunsOfUptoSaid : Prop := fnExactRunsOfUptoRow.holds Try.pinned (OpenSpec.upto fnExactRunsOfSpec)

/-- 'laws.FnExactDevRead', WHERE WHAT IT READS IS OF BULK AT MOST 1048576: true; the input reads as it did. -/
def fnExactDevReadUptoRow : OpenClaim := { program := "ytbimmmmjdimebaa", sum := "1e058f88b9543b6e1e64bbae9bd8fbbd8fbaa8bbc7eb527746b261922420aa85", func := "loop.example/s01595/laws.FnExactDevRead", spec := "fnExactDevRead", apart := false, narrowed := true }
def FnExactDevReadUptoSaid : Prop := fnExactDevReadUptoRow.holds Try.pinned (OpenSpec.upto fnExactDevReadSpec)

/-- 'laws.FnExactPlanTable', WHERE WHAT IT READS IS OF BULK AT MOST 1048576: true; the input reads as it did. -/
def fnExactPlanTableUptoRow : OpenClaim := { program := "ytbimmmmjdimebaa", sum := "1e058f88b9543b6e1e64bbae9bd8fbbd8fbaa8bbc7eb527746b261922420aa85", func := "loop.example/s01595/laws.FnExactPlanTable", spec := "fnExactPlanTable", unfollowed := true, recurses := true, apart := false, narrowed := true }
def FnExactPlanTableUptoSaid : Prop := fnExactPlanTableUptoRow.holds Try.pinned (OpenSpec.upto fnExactPlanTableSpec)

/-- 'laws.FnExactDevCrash', WHERE WHAT IT READS IS OF BULK AT MOST 1048576: true; the input reads as it did. -/
def fnExactDevCrashUptoRow : OpenClaim := { program := "ytbimmmmjdimebaa", sum := "1e058f88b9543b6e1e64bbae9bd8fbbd8fbaa8bbc7eb527746b261922420aa85", func := "loop.example/s01595/laws.FnExactDevCrash", spec := "fnExactDevCrash", unfollowed := true, recurses := true, apart := false, narrowed := true }
def FnExactDevCrashUptoSaid : Prop := fnExactDevCrashUptoRow.holds Try.pinned (OpenSpec.upto fnExactDevCrashSpec)

/-- 'laws.FnExactDevFlush', WHERE WHAT IT READS IS OF BULK AT MOST 1048576: true; the input reads as it did. -/
def fnExactDevFlushUptoRow : OpenClaim := { program := "ytbimmmmjdimebaa", sum := "1e058f88b9543b6e1e64bbae9bd8fbbd8fbaa8bbc7eb527746b261922420aa85", func := "loop.example/s01595/laws.FnExactDevFlush", spec := "fnExactDevFlush", unfollowed := true, recurses := true, apart := false, narrowed := true }
def FnExactDevFlushUptoSaid : Prop := fnExactDevFlushUptoRow.holds Try.pinned (OpenSpec.upto fnExactDevFlushSpec)

/-- 'laws.FnExactDevWrite', WHERE WHAT IT READS IS OF BULK AT MOST 1048576: true; the input reads as it did. -/
def fnExactDevWriteUptoRow : OpenClaim := { program := "ytbimmmmjdimebaa", sum := "1e058f88b9543b6e1e64bbae9bd8fbbd8fbaa8bbc7eb527746b261922420aa85", func := "loop.example/s01595/laws.FnExactDevWrite", spec := "fnExactDevWrite", apart := false, narrowed := true }
def FnExactDevWriteUptoSaid : Prop := fnExactDevWriteUptoRow.holds Try.pinned (OpenSpec.upto fnExactDevWriteSpec)

/-- 'laws.FnDeviceReads', WHERE WHAT IT READS IS OF BULK AT MOST 1048576: true; the input reads as it did. -/
def fnDeviceReadsUptoRow : OpenClaim := { program := "ytbimmmmjdimebaa", sum := "1e058f88b9543b6e1e64bbae9bd8fbbd8fbaa8bbc7eb527746b261922420aa85", func := "loop.example/s01595/laws.FnDeviceReads", spec := "fnDeviceReads", unfollowed := true, recurses := true, apart := false, narrowed := true }
def FnDeviceReadsUptoSaid : Prop := fnDeviceReadsUptoRow.holds Try.pinned (OpenSpec.upto fnDeviceReadsSpec)

/-- 'laws.FnPlan', WHERE WHAT IT READS IS OF BULK AT MOST 1048576: true; the input reads as it did. -/
def fnPlanUptoRow : OpenClaim := { program := "ytbimmmmjdimebaa", sum := "1e058f88b9543b6e1e64bbae9bd8fbbd8fbaa8bbc7eb527746b261922420aa85", func := "loop.example/s01595/laws.FnPlan", spec := "fnPlan", unfollowed := true, recurses := true, apart := false, narrowed := true }
def FnPlanUptoSaid : Prop := fnPlanUptoRow.holds Try.pinned (OpenSpec.upto fnPlanSpec)

/-- 'laws.FnExactDevApply', WHERE WHAT IT READS IS OF BULK AT MOST 1048576: true; the input reads as it did. -/
def fnExactDevApplyUptoRow : OpenClaim := { program := "ytbimmmmjdimebaa", sum := "1e058f88b9543b6e1e64bbae9bd8fbbd8fbaa8bbc7eb527746b261922420aa85", func := "loop.example/s01595/laws.FnExactDevApply", spec := "fnExactDevApply", unfollowed := true, recurses := true, apart := false, narrowed := true }
def FnExactDevApplyUptoSaid : Prop := fnExactDevApplyUptoRow.holds Try.pinned (OpenSpec.upto fnExactDevApplySpec)

end Rows
end Go.Proofs.Ytbimmmmjdimebaa
