/-
  No cell of these rows narrows 'for every input' (looked for: loops, veiled, ifaces, maps, wideKeys, modest, calm, conditions, laid).
  DERIVED. THE GIVEN ROWS OF THIS SEAT. 6 by the template 'for every input the law returns true; each argument reads behind the call as it read before'; 0 by the template 'total and deterministic' (their statements: YtajjimcplhfdoaaTotals.lean).
  GIVEN WITH THE SEED: the statements are not yours to turn. If you find one false, say at which input.
  Laid BY PROGRAM, IN A SANDBOX (cutbox-rows.mjs): the forced cells as the released guide's own fill.sh prints them over the translation 914090080ecf18b7… (all of the seat's roots in one cut). By AI agents, Wed Nov 11 2026. No macro, syntax, notation, axiom, sorry.
-/
import Derived.Test.YtajjimcplhfdoaaChecked
import GoSem.Claim
import GoSem.ClaimJoined
import GoSem.ClaimMapViews
import Derived.JoinedTies
import Derived.KernelRfl
namespace Go.Proofs.Ytajjimcplhfdoaa
/- THE CELL 'sum', in the pinned program and in every row, IS THE sha256 OF THE DUMP (.gsa) THAT YtajjimcplhfdoaaProg.lean LOADS. Nothing in Lean hashes anything: it is a label: what it is worth is what the hold of that sum in a sandbox is worth. -/
noncomputable def Try.pinned : Pinned := { name := "ytajjimcplhfdoaa", sum := "914090080ecf18b7cf3e671141a89f4641c6fb83091760369f108d0f39b6e024", checked := Try.checked }
namespace Rows
def none {H : Type} : Left H := { results := [], args := [] }

/-- 'laws.FnExactConstants': WHATEVER THE INPUT: true; the input reads as it did. -/
def fnExactConstantsSpec : ChangeSpec := { name := "fnExactConstants", fn := fun _ => fun
  | [] => { results := [.lit (.bool true)], args := [] }
  | _ => none }
def fnExactConstantsRow : OpenClaim := { program := "ytajjimcplhfdoaa", sum := "914090080ecf18b7cf3e671141a89f4641c6fb83091760369f108d0f39b6e024", func := "loop.example/s01595/laws.FnExactConstants", spec := "fnExactConstants", apart := false }
def FnExactConstantsSaid : Prop := fnExactConstantsRow.holds Try.pinned (OpenSpec.ofChange fnExactConstantsSpec)

/-- ITS FALSE NEIGHBOUR: 'it returns false'. Refute it at one input. -/
def fnExactConstantsWrong : ChangeSpec := { name := "fnExactConstants", fn := fun _ => fun
  | [] => { results := [.lit (.bool false)], args := [] }
  | _ => none }
def FnExactConstantsWrongFalsely : Prop := fnExactConstantsRow.holds Try.pinned (OpenSpec.ofChange fnExactConstantsWrong)

/-- 'laws.FnExactReserve': WHATEVER THE INPUT: true; the input reads as it did. -/
def fnExactReserveSpec : ChangeSpec := { name := "fnExactReserve", fn := fun _ => fun
  | [d] => { results := [.lit (.bool true)], args := [d] }
  | _ => none }
def fnExactReserveRow : OpenClaim := { program := "ytajjimcplhfdoaa", sum := "914090080ecf18b7cf3e671141a89f4641c6fb83091760369f108d0f39b6e024", func := "loop.example/s01595/laws.FnExactReserve", spec := "fnExactReserve", apart := false }
def FnExactReserveSaid : Prop := fnExactReserveRow.holds Try.pinned (OpenSpec.ofChange fnExactReserveSpec)

/-- ITS FALSE NEIGHBOUR: 'it returns false'. Refute it at one input. -/
def fnExactReserveWrong : ChangeSpec := { name := "fnExactReserve", fn := fun _ => fun
  | [d] => { results := [.lit (.bool false)], args := [d] }
  | _ => none }
def FnExactReserveWrongFalsely : Prop := fnExactReserveRow.holds Try.pinned (OpenSpec.ofChange fnExactReserveWrong)

/-- 'laws.FnExactCrc32': WHATEVER THE INPUT: true; the input reads as it did. -/
def fnExactCrc32Spec : ChangeSpec := { name := "fnExactCrc32", fn := fun _ => fun
  | [d] => { results := [.lit (.bool true)], args := [d] }
  | _ => none }
def fnExactCrc32Row : OpenClaim := { program := "ytajjimcplhfdoaa", sum := "914090080ecf18b7cf3e671141a89f4641c6fb83091760369f108d0f39b6e024", func := "loop.example/s01595/laws.FnExactCrc32", spec := "fnExactCrc32", apart := false }
def FnExactCrc32Said : Prop := fnExactCrc32Row.holds Try.pinned (OpenSpec.ofChange fnExactCrc32Spec)

/-- ITS FALSE NEIGHBOUR: 'it returns false'. Refute it at one input. -/
def fnExactCrc32Wrong : ChangeSpec := { name := "fnExactCrc32", fn := fun _ => fun
  | [d] => { results := [.lit (.bool false)], args := [d] }
  | _ => none }
def FnExactCrc32WrongFalsely : Prop := fnExactCrc32Row.holds Try.pinned (OpenSpec.ofChange fnExactCrc32Wrong)

/-- 'laws.FnExactLowestFree': WHATEVER THE INPUT: true; the input reads as it did. -/
def fnExactLowestFreeSpec : ChangeSpec := { name := "fnExactLowestFree", fn := fun _ => fun
  | [d1, d2] => { results := [.lit (.bool true)], args := [d1, d2] }
  | _ => none }
def fnExactLowestFreeRow : OpenClaim := { program := "ytajjimcplhfdoaa", sum := "914090080ecf18b7cf3e671141a89f4641c6fb83091760369f108d0f39b6e024", func := "loop.example/s01595/laws.FnExactLowestFree", spec := "fnExactLowestFree", unfollowed := true, recurses := true, apart := false }
def FnExactLowestFreeSaid : Prop := fnExactLowestFreeRow.holds Try.pinned (OpenSpec.ofChange fnExactLowestFreeSpec)

/-- ITS FALSE NEIGHBOUR: 'it returns false'. Refute it at one input. -/
def fnExactLowestFreeWrong : ChangeSpec := { name := "fnExactLowestFree", fn := fun _ => fun
  | [d1, d2] => { results := [.lit (.bool false)], args := [d1, d2] }
  | _ => none }
def FnExactLowestFreeWrongFalsely : Prop := fnExactLowestFreeRow.holds Try.pinned (OpenSpec.ofChange fnExactLowestFreeWrong)

/-- 'laws.FnExactClassify': WHATEVER THE INPUT: true; the input reads as it did. -/
def fnExactClassifySpec : ChangeSpec := { name := "fnExactClassify", fn := fun _ => fun
  | [d1, d2] => { results := [.lit (.bool true)], args := [d1, d2] }
  | _ => none }
def fnExactClassifyRow : OpenClaim := { program := "ytajjimcplhfdoaa", sum := "914090080ecf18b7cf3e671141a89f4641c6fb83091760369f108d0f39b6e024", func := "loop.example/s01595/laws.FnExactClassify", spec := "fnExactClassify", apart := false }
def FnExactClassifySaid : Prop := fnExactClassifyRow.holds Try.pinned (OpenSpec.ofChange fnExactClassifySpec)

/-- ITS FALSE NEIGHBOUR: 'it returns false'. Refute it at one input. -/
def fnExactClassifyWrong : ChangeSpec := { name := "fnExactClassify", fn := fun _ => fun
  | [d1, d2] => { results := [.lit (.bool false)], args := [d1, d2] }
  | _ => none }
def FnExactClassifyWrongFalsely : Prop := fnExactClassifyRow.holds Try.pinned (OpenSpec.ofChange fnExactClassifyWrong)

/-- 'laws.FnExactNewDevice': WHATEVER THE INPUT: true; the input reads as it did. -/
def fnExactNewDeviceSpec : ChangeSpec := { name := "fnExactNewDevice", fn := fun _ => fun
  | [d1, d2] => { results := [.lit (.bool true)], args := [d1, d2] }
  | _ => none }
def fnExactNewDeviceRow : OpenClaim := { program := "ytajjimcplhfdoaa", sum := "914090080ecf18b7cf3e671141a89f4641c6fb83091760369f108d0f39b6e024", func := "loop.example/s01595/laws.FnExactNewDevice", spec := "fnExactNewDevice", apart := false }
def FnExactNewDeviceSaid : Prop := fnExactNewDeviceRow.holds Try.pinned (OpenSpec.ofChange fnExactNewDeviceSpec)

/-- ITS FALSE NEIGHBOUR: 'it returns false'. Refute it at one input. -/
def fnExactNewDeviceWrong : ChangeSpec := { name := "fnExactNewDevice", fn := fun _ => fun
  | [d1, d2] => { results := [.lit (.bool false)], args := [d1, d2] }
  | _ => none }
def FnExactNewDeviceWrongFalsely : Prop := fnExactNewDeviceRow.holds Try.pinned (OpenSpec.ofChange fnExactNewDeviceWrong)

/- THE SECOND FORM. 'bulk': how many values and letters a reading holds, each counted each time it is reached (what is shared counts as often as it is met; a slice's spare places count too). A statement '..UptoSaid' is the law's where the arguments, and the package variables that the reading takes, are together of bulk at most 1048576: NARROWER than '..Said'. Prove '..Said' where nothing that the law and all that it calls make is longer than what came in: it says more and counts as full. Else prove '..UptoSaid'. A law counts once. -/
mutual
def uptoBulk {H : Type} : DataW H → Nat
  | .lit (.string bytes) => bytes.length + 1
  | .lit _ => 1
  | .nil => 1
  | .ptr d => uptoBulk d + 1
  | .slice elems spare => uptoBulkAll elems + uptoBulkAll spare + 1
  | .agg parts => uptoBulkAll parts + 1
  | .iface _ d => uptoBulk d + 1
  | .map entries => uptoBulkEntries entries + 1
  | .held _ => 1
def uptoBulkAll {H : Type} : List (DataW H) → Nat
  | [] => 0
  | d :: r => uptoBulk d + uptoBulkAll r
def uptoBulkEntries {H : Type} : List (Lit × DataW H) → Nat
  | [] => 0
  | x :: r => uptoBulkEntry x + uptoBulkEntries r
def uptoBulkEntry {H : Type} : Lit × DataW H → Nat
  | (.string bytes, d) => bytes.length + uptoBulk d + 1
  | (_, d) => uptoBulk d + 1
 end
def uptoSmall : (H : Type) → List (DataW H) → Bool := fun _ ds => decide (uptoBulkAll ds ≤ 1048576)
def OpenSpec.upto (s : _root_.Go.ChangeSpec) : _root_.Go.OpenSpec := { _root_.Go.OpenSpec.ofChange s with cond := some uptoSmall }

/-- 'laws.FnExactConstants', WHERE WHAT IT READS IS OF BULK AT MOST 1048576: true; the input reads as it did. -/
def fnExactConstantsUptoRow : OpenClaim := { program := "ytajjimcplhfdoaa", sum := "914090080ecf18b7cf3e671141a89f4641c6fb83091760369f108d0f39b6e024", func := "loop.example/s01595/laws.FnExactConstants", spec := "fnExactConstants", apart := false, narrowed := true }
def FnExactConstantsUptoSaid : Prop := fnExactConstantsUptoRow.holds Try.pinned (OpenSpec.upto fnExactConstantsSpec)

/-- 'laws.FnExactReserve', WHERE WHAT IT READS IS OF BULK AT MOST 1048576: true; the input reads as it did. -/
def fnExactReserveUptoRow : OpenClaim := { program := "ytajjimcplhfdoaa", sum := "914090080ecf18b7cf3e671141a89f4641c6fb83091760369f108d0f39b6e024", func := "loop.example/s01595/laws.FnExactReserve", spec := "fnExactReserve", apart := false, narrowed := true }
def FnExactReserveUptoSaid : Prop := fnExactReserveUptoRow.holds Try.pinned (OpenSpec.upto fnExactReserveSpec)

/-- 'laws.FnExactCrc32', WHERE WHAT IT READS IS OF BULK AT MOST 1048576: true; the input reads as it did. -/
def fnExactCrc32UptoRow : OpenClaim := { program := "ytajjimcplhfdoaa", sum := "914090080ecf18b7cf3e671141a89f4641c6fb83091760369f108d0f39b6e024", func := "loop.example/s01595/laws.FnExactCrc32", spec := "fnExactCrc32", apart := false, narrowed := true }
def FnExactCrc32UptoSaid : Prop := fnExactCrc32UptoRow.holds Try.pinned (OpenSpec.upto fnExactCrc32Spec)

/-- 'laws.FnExactLowestFree', WHERE WHAT IT READS IS OF BULK AT MOST 1048576: true; the input reads as it did. -/
def fnExactLowestFreeUptoRow : OpenClaim := { program := "ytajjimcplhfdoaa", sum := "914090080ecf18b7cf3e671141a89f4641c6fb83091760369f108d0f39b6e024", func := "loop.example/s01595/laws.FnExactLowestFree", spec := "fnExactLowestFree", unfollowed := true, recurses := true, apart := false, narrowed := true }
def FnExactLowestFreeUptoSaid : Prop := fnExactLowestFreeUptoRow.holds Try.pinned (OpenSpec.upto fnExactLowestFreeSpec)

/-- 'laws.FnExactClassify', WHERE WHAT IT READS IS OF BULK AT MOST 1048576: true; the input reads as it did. -/
def fnExactClassifyUptoRow : OpenClaim := { program := "ytajjimcplhfdoaa", sum := "914090080ecf18b7cf3e671141a89f4641c6fb83091760369f108d0f39b6e024", func := "loop.example/s01595/laws.FnExactClassify", spec := "fnExactClassify", apart := false, narrowed := true }
def FnExactClassifyUptoSaid : Prop := fnExactClassifyUptoRow.holds Try.pinned (OpenSpec.upto fnExactClassifySpec)

/-- 'laws.FnExactNewDevice', WHERE WHAT IT READS IS OF BULK AT MOST 1048576: true; the input reads as it did. -/
def fnExactNewDeviceUptoRow : OpenClaim := { program := "ytajjimcplhfdoaa", sum := "914090080ecf18b7cf3e671141a89f4641c6fb83091760369f108d0f39b6e024", func := "loop.example/s01595/laws.FnExactNewDevice", spec := "fnExactNewDevice", apart := false, narrowed := true }
def FnExactNewDeviceUptoSaid : Prop := fnExactNewDeviceUptoRow.holds Try.pinned (OpenSpec.upto fnExactNewDeviceSpec)

end Rows
end Go.Proofs.Ytajjimcplhfdoaa
