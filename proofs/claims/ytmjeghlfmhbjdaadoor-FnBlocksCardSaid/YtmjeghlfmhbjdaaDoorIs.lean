/- errors.Is at a fault of the package (a *misplaced with its cause a pointer to an errors.errorString), by the kit's walk: turned from the worked example Sentry (its lines, this program's numbers); impl.codeOf at every such fault. -/
import Derived.Test.YtmjeghlfmhbjdaaDoorT3
import Derived.LaidEql
namespace Go.Proofs.YtmjeghlfmhbjdaaDoor.EngTab
open Go.RowKit Go.Extern.Stop Go.Stop Go.Extern Go.Proofs.YtmjeghlfmhbjdaaDoor.Eng
set_option linter.unusedVariables false
set_option linter.unusedSimpArgs false
set_option maxRecDepth 100000
theorem Tis.typeOf (v : Value) (w : World) : (Extern.ReflectliteType.typeOf #[.iface 145 v]).run Tryd.prog w = .ok (.iface 130 (.agg #[.pointer (some ⟨4, 145, none⟩)])) w := by kernel_rfl
theorem Tis.comparable (w : World) : ((Extern.ReflectliteType.method fun t => do Rtype.noPackHeld "Comparable" t; pure (.bool (← typeInfo t).comparable)) #[.agg #[.pointer (some ⟨4, 145, none⟩)]]).run Tryd.prog w = .ok (.bool true) w := by kernel_rfl
theorem Tis.comparableCall (w : World) : (callFunc 100 #[.agg #[.pointer (some ⟨4, 145, none⟩)]]).run Tryd.prog w = .ok (.value (.bool true)) w := by
 have h := @run_callFunc_extern Tryd.prog 100 _ (Extern.ReflectliteType.method fun t => do Rtype.noPackHeld "Comparable" t; pure (.bool (← typeInfo t).comparable)) Tryd.func100 (by kernel_rfl) (by kernel_rfl) (by kernel_rfl) (by kernel_rfl)
 rw [h, Tis.comparable w]; rfl
theorem Tis.methodComparable (v : Value) (w : World) : (Go.method 280 130 v "Comparable").run Tryd.prog w = .ok (100, v) w := by kernel_rfl
theorem Tis.comp : (Tryd.prog.info? 145).map (·.comparable) = some true := by kernel_rfl
theorem Tis.size : (Tryd.prog.info? 168).map (·.size) = some 1 := by kernel_rfl
theorem Tis.noIsE (v : Value) (xT : TypeId) (w : World) : (Instr.typeAssert (.iface 145 v) xT 142 true).run Tryd.prog w = .ok (.tuple #[.nilIface, .bool false]) w := run_typeAssert_lacksB Tryd.underlying142 (by kernel_rfl) (by kernel_rfl) v xT w
theorem Tis.noUnwrapE (v : Value) (xT : TypeId) (w : World) : (Instr.typeAssert (.iface 145 v) xT 137 true).run Tryd.prog w = .ok (.tuple #[.nilIface, .bool false]) w := run_typeAssert_lacksB Tryd.underlying137 (by kernel_rfl) (by kernel_rfl) v xT w
theorem Tis.noUnwrapsE (v : Value) (xT : TypeId) (w : World) : (Instr.typeAssert (.iface 145 v) xT 139 true).run Tryd.prog w = .ok (.tuple #[.nilIface, .bool false]) w := run_typeAssert_lacksB Tryd.underlying139 (by kernel_rfl) (by kernel_rfl) v xT w
theorem Tis.noIsW (v : Value) (xT : TypeId) (w : World) : (Instr.typeAssert (.iface 96 v) xT 142 true).run Tryd.prog w = .ok (.tuple #[.nilIface, .bool false]) w := run_typeAssert_lacksB Tryd.underlying142 (by kernel_rfl) (by kernel_rfl) v xT w
theorem Tis.hasUnwrapW (v : Value) (xT : TypeId) (w : World) : (Instr.typeAssert (.iface 96 v) xT 137 true).run Tryd.prog w = .ok (.tuple #[.iface 96 v, .bool true]) w := run_typeAssert_hasB Tryd.underlying137 (by kernel_rfl) v xT w
theorem Tis.methodUnwrap (v : Value) (w : World) : (Go.method 280 96 v "Unwrap").run Tryd.prog w = .ok (94, v) w := by kernel_rfl
set_option maxHeartbeats 4000000 in
theorem is_wrap_same (pb po : Nat) (b : Addr) (w : World) (h1 : w.cell? ⟨pb, po + 1, none⟩ = some (.iface 145 (.pointer (some b)))) :
  Calls Tryd.prog 46 #[.iface 96 (.pointer (some ⟨pb, po, none⟩)), .iface 145 (.pointer (some b))] w fun e w' => e = .returned (.bool true) ∧ w' = w := by
 obtain ⟨i, hi, hcmp⟩ := Option.map_eq_some_iff.1 Tis.comp
 obtain ⟨j, hj, hjs⟩ := Option.map_eq_some_iff.1 Tis.size
 have h8 := @run_callFunc_extern Tryd.prog 59 _ Extern.ReflectliteType.typeOf Tryd.func59 (by kernel_rfl) (by kernel_rfl) (by kernel_rfl) (by kernel_rfl)
 have h32 := Tis.comparableCall
 have tT := Tis.typeOf
 have mR := Tis.methodComparable
 have nE := Tis.noIsE
 have uE := Tis.noUnwrapE
 have vE := Tis.noUnwrapsE
 have nW := Tis.noIsW
 have uW := Tis.hasUnwrapW
 have mU := Tis.methodUnwrap
 have heq := run_eql_iface_ptr_same (P := Tryd.prog) w b Tryd.underlying66 Tryd.underlying145 hi hcmp hj
 have hty := run_eql_iface_types (P := Tryd.prog) 96 145 (.pointer (some ⟨pb, po, none⟩)) (.pointer (some b)) Tryd.underlying66 (by decide) w
 go_enter Tryd.func46, Tryd.ntmps46
 go_wp2
 refine wp_loop_rounds 2 ?_
 rw [rounds_succ]
 go_wp2
 rw [rounds_succ]
 go_wp2
 go_ret
 exact ⟨rfl, rfl⟩
set_option maxHeartbeats 4000000 in
theorem is_wrap_other (pb po : Nat) (b a : Addr) (ca cb : Array Value) (ta tb : TypeId) (w : World) (h1 : w.cell? ⟨pb, po + 1, none⟩ = some (.iface 145 (.pointer (some a)))) (hne : a ≠ b) (ha : w.heap[a.block]? = some (.cells ca ta (0, 0))) (hb : w.heap[b.block]? = some (.cells cb tb (0, 0))) :
  Calls Tryd.prog 46 #[.iface 96 (.pointer (some ⟨pb, po, none⟩)), .iface 145 (.pointer (some b))] w fun e w' => e = .returned (.bool false) ∧ w' = w := by
 obtain ⟨i, hi, hcmp⟩ := Option.map_eq_some_iff.1 Tis.comp
 obtain ⟨j, hj, hjs⟩ := Option.map_eq_some_iff.1 Tis.size
 have h8 := @run_callFunc_extern Tryd.prog 59 _ Extern.ReflectliteType.typeOf Tryd.func59 (by kernel_rfl) (by kernel_rfl) (by kernel_rfl) (by kernel_rfl)
 have h32 := Tis.comparableCall
 have tT := Tis.typeOf
 have mR := Tis.methodComparable
 have nE := Tis.noIsE
 have uE := Tis.noUnwrapE
 have vE := Tis.noUnwrapsE
 have nW := Tis.noIsW
 have uW := Tis.hasUnwrapW
 have mU := Tis.methodUnwrap
 have heq := run_eql_iface_ptr_other (P := Tryd.prog) w Tryd.underlying66 Tryd.underlying145 hi hcmp hj (by rw [hjs]; decide) hne ha hb
 have hty := run_eql_iface_types (P := Tryd.prog) 96 145 (.pointer (some ⟨pb, po, none⟩)) (.pointer (some b)) Tryd.underlying66 (by decide) w
 go_enter Tryd.func46, Tryd.ntmps46
 go_wp2
 refine wp_loop_rounds 2 ?_
 rw [rounds_succ]
 go_wp2
 rw [rounds_succ]
 go_wp2
 go_ret
 exact ⟨rfl, rfl⟩
/-- A pointer to an errors.errorString, its block. -/
def Ptd (w : World) (a : Addr) : Prop := ∃ c t, w.heap[a.block]? = some (.cells c t (0, 0))
theorem is_any (pb po : Nat) (b a : Addr) (w : World) (h1 : w.cell? ⟨pb, po + 1, none⟩ = some (.iface 145 (.pointer (some a)))) (ha : Ptd w a) (hb : Ptd w b) :
  Calls Tryd.prog 46 #[.iface 96 (.pointer (some ⟨pb, po, none⟩)), .iface 145 (.pointer (some b))] w fun e w' => e = .returned (.bool (decide (a = b))) ∧ w' = w := by
 by_cases h : a = b
 ·subst h
  rw [decide_eq_true rfl]
  exact is_wrap_same pb po a w h1
 ·rw [decide_eq_false h]
  obtain ⟨ca, ta, ha⟩ := ha
  obtain ⟨cb, tb, hb⟩ := hb
  exact is_wrap_other pb po b a ca cb ta tb w h1 h ha hb
end Go.Proofs.YtmjeghlfmhbjdaaDoor.EngTab
