/- errors.As at this program's target, by the kit's walk: turned from the worked example Toyas (its lines, this program's numbers). -/
import Derived.Test.YtmjeghlfmhbjdaaDoorProg
import Derived.WalkKit
import Derived.LaidEql
import Derived.Stop.Asserts
import Derived.RowKitTokens
import Derived.Test.YtmjeghlfmhbjdaaDoorT2
namespace Go.Proofs.YtmjeghlfmhbjdaaDoor.EngTab
open Go.RowKit Go.Extern.Stop Go.Stop Go.Extern
set_option linter.unusedVariables false
set_option linter.unusedSimpArgs false
/-- errors.As(nil, target). -/
theorem as_nil (t : Value) (w : World) :
  Calls Tryd.prog 45 #[.nilIface, t] w fun e w' => e = .returned (.bool false) ∧ w' = w := by
 go_enter Tryd.func45, Tryd.ntmps45
 go_wp2
 go_ret
 exact ⟨rfl, rfl⟩

/-! ### CLOSED FACTS ON THE MODEL's ENTRIES FOR internal/reflectlite, at this program's types: 25: *p.E · 27: **p.E · 23: error · 45: reflectlite's rtype · 1: how many package-level variables the dump has -/
theorem Tas.valueOf27 (t : Addr) (w : World) : (ReflectliteValue.unpack (.iface 104 (.pointer (some t)))).run Tryd.prog w
  = .ok (.agg #[.pointer (some ⟨4, 104, none⟩), .pointer (some ⟨w.heap.size, 0, none⟩), .int .u64 150]) (w.alloc (.cells #[.pointer (some t)] 104)) := by kernel_rfl
theorem Tas.type27 (a : Addr) (w : World) : (ReflectliteValue.methodAny (ReflectliteValue.valueError "reflectlite.Value.Type" 0) (fun t _ _ _ => ReflectliteType.toType t) #[.agg #[.pointer (some ⟨4, 104, none⟩), .pointer (some a), .int .u64 150]]).run Tryd.prog w
  = .ok (.iface 130 (.agg #[.pointer (some ⟨4, 104, none⟩)])) w := by kernel_rfl
theorem Tas.methodKind (h : Value) (w : World) : (Go.method 280 130 (.agg #[h]) "Kind").run Tryd.prog w = .ok (79, h) w := by kernel_rfl
theorem Tas.kind27 (w : World) : ((ReflectliteType.abiMethod fun t => (fun a : Nat => Value.int IntKind.u8 (a : Int)) <$> Rtype.kind t) #[.pointer (some ⟨4, 104, none⟩)]).run Tryd.prog w = .ok (.int .u8 22) w := by kernel_rfl
theorem Tas.kind25 (w : World) : ((ReflectliteType.abiMethod fun t => (fun a : Nat => Value.int IntKind.u8 (a : Int)) <$> Rtype.kind t) #[.pointer (some ⟨4, 96, none⟩)]).run Tryd.prog w = .ok (.int .u8 22) w := by kernel_rfl

/-! ### THE ENTRIES THAT READ OR WRITE MEMORY: laws with a premise on the cell (after Derived/Lib/ReflectliteSlice.lean's manner: each unfolding a lemma of its own, by rfl) -/
theorem rlm (z : Sem Value) (f : TypeId → Addr → Nat → Nat → Sem Value) (v : Value) :
  ReflectliteValue.method z f #[v] = (do match ← ReflectliteValue.parts v with | none => z | some (t, a, fl) => f t a fl (fl % 32)) := rfl
theorem Tas.parts27 (a : Addr) (w : World) : (ReflectliteValue.parts (.agg #[.pointer (some ⟨4, 104, none⟩), .pointer (some a), .int .u64 150])).run Tryd.prog w = .ok (some (104, a, 150)) w := by kernel_rfl
/-- (Value).IsNil at the Value of a **p.E that is not nil. -/
theorem Tas.isNil27 (a p : Addr) (W : World) (ha : W.cell? a = some (.pointer (some p))) :
  (ReflectliteValue.method (ReflectliteValue.valueError "reflectlite.Value.IsNil" 0) ReflectliteValue.isNil #[.agg #[.pointer (some ⟨4, 104, none⟩), .pointer (some a), .int .u64 150]]).run Tryd.prog W = .ok (.bool false) W := by
 rw [rlm]
 simp only [Sem.run_bind, Tas.parts27, Result.andThen]
 simp [ReflectliteValue.isNil, loadVar, isAgg, underlying, Tryd.underlying104, ha, Result.andThen]

theorem Tas.methodElem (h : Value) (w : World) : (Go.method 280 130 (.agg #[h]) "Elem").run Tryd.prog w = .ok (101, .agg #[h]) w := by kernel_rfl
theorem Tas.methodImplements (h : Value) (w : World) : (Go.method 280 130 (.agg #[h]) "Implements").run Tryd.prog w = .ok (102, .agg #[h]) w := by kernel_rfl
theorem Tas.methodAssignableTo (h : Value) (w : World) : (Go.method 280 130 (.agg #[h]) "AssignableTo").run Tryd.prog w = .ok (99, .agg #[h]) w := by kernel_rfl
theorem Tas.elem27 (w : World) : (ReflectliteType.method ReflectliteType.elem #[.agg #[.pointer (some ⟨4, 104, none⟩)]]).run Tryd.prog w = .ok (.iface 130 (.agg #[.pointer (some ⟨4, 96, none⟩)])) w := by kernel_rfl
theorem Tas.implements25 (w : World) : (ReflectliteType.relation "Implements" ReflectliteType.implements_ #[.agg #[.pointer (some ⟨4, 96, none⟩)], .iface 130 (.agg #[.pointer (some ⟨4, 66, none⟩)])]).run Tryd.prog w = .ok (.bool true) w := by kernel_rfl
theorem Tas.typeOf25 (v : Value) (w : World) : (ReflectliteType.typeOf #[.iface 96 v]).run Tryd.prog w = .ok (.iface 130 (.agg #[.pointer (some ⟨4, 96, none⟩)])) w := by kernel_rfl
theorem Tas.assignable25 (w : World) : (ReflectliteType.relation "AssignableTo" ReflectliteType.assignableTo #[.agg #[.pointer (some ⟨4, 96, none⟩)], .iface 130 (.agg #[.pointer (some ⟨4, 96, none⟩)])]).run Tryd.prog w = .ok (.bool true) w := by kernel_rfl
theorem Tas.valueOf25 (e : Addr) (w : World) : (ReflectliteValue.unpack (.iface 96 (.pointer (some e)))).run Tryd.prog w
  = .ok (.agg #[.pointer (some ⟨4, 96, none⟩), .pointer (some ⟨w.heap.size, 0, none⟩), .int .u64 150]) (w.alloc (.cells #[.pointer (some e)] 96)) := by kernel_rfl

theorem Tas.elemOf27 (w : World) : (Rtype.elem? 104).run Tryd.prog w = .ok (some 96) w := by kernel_rfl
theorem Tas.mk25 (p : Addr) (w : World) : (ReflectliteValue.mk 96 p ReflectliteValue.flagAddr).run Tryd.prog w = .ok (.agg #[.pointer (some ⟨4, 96, none⟩), .pointer (some p), .int .u64 406]) w := by kernel_rfl
/-- (Value).Elem at the Value of a **p.E that is not nil: the Value of the *p.E variable that it points to, addressable. -/
theorem Tas.elemV27 (a p : Addr) (W : World) (ha : W.cell? a = some (.pointer (some p))) :
  (ReflectliteValue.method (ReflectliteValue.valueError "reflectlite.Value.Elem" 0) ReflectliteValue.elem #[.agg #[.pointer (some ⟨4, 104, none⟩), .pointer (some a), .int .u64 150]]).run Tryd.prog W
   = .ok (.agg #[.pointer (some ⟨4, 96, none⟩), .pointer (some p), .int .u64 406]) W := by
 rw [rlm]
 simp only [Sem.run_bind, Tas.parts27, Result.andThen]
 simp [ReflectliteValue.elem, loadVar, isAgg, underlying, Tryd.underlying104, ha, Result.andThen, Tas.elemOf27, Tas.mk25]
theorem rls (v x : Value) : ReflectliteValue.set #[v, x] = (do
  let (some (dst, a, fl), some (src, b, _)) := (← ReflectliteValue.parts v, ← ReflectliteValue.parts x)
   | unsupported (.noEntry "extern/(internal/reflectlite.Value).Set.zeroValue")
  if fl / ReflectliteValue.flagAddr % 2 == 0 then unsupported (.noEntry "extern/(internal/reflectlite.Value).Set.unaddressable")
  let val ← loadVar src b
  if ← Rtype.directlyAssignable dst src then storeVar dst a val
  else if ← Rtype.implements dst src then
   if (← Rtype.kind src) == 20 then
    match val with
    | .nilIface => unsupported (.noEntry "extern/reflectlite: a nil value of one interface type handed on as a value of another")
    | _ => storeVar dst a val
   else storeVar dst a (.iface src val)
  else panicString ("reflectlite.Set: value of type " ++ (← Rtype.spelt src) ++ " is not assignable to type " ++ (← Rtype.spelt dst))
  pure (.tuple #[])) := rfl
theorem Tas.parts25a (a : Addr) (w : World) : (ReflectliteValue.parts (.agg #[.pointer (some ⟨4, 96, none⟩), .pointer (some a), .int .u64 406])).run Tryd.prog w = .ok (some (96, a, 406)) w := by kernel_rfl
theorem Tas.parts25 (a : Addr) (w : World) : (ReflectliteValue.parts (.agg #[.pointer (some ⟨4, 96, none⟩), .pointer (some a), .int .u64 150])).run Tryd.prog w = .ok (some (96, a, 150)) w := by kernel_rfl
theorem Tas.direct25 (w : World) : (Rtype.directlyAssignable 96 96).run Tryd.prog w = .ok true w := by kernel_rfl
theorem Tas.size25 (w : World) : (sizeOf 96).run Tryd.prog w = .ok 1 w := by kernel_rfl
/-- (Value).Set: the *p.E variable at 'ta' gets what the Value's own variable 'b' holds. -/
theorem Tas.set25 (ta b e : Addr) (old : Value) (W : World) (hb : W.cell? b = some (.pointer (some e))) (ht : W.cell? ta = some old) (hf : W.frozen? ta = false) :
  (ReflectliteValue.set #[.agg #[.pointer (some ⟨4, 96, none⟩), .pointer (some ta), .int .u64 406], .agg #[.pointer (some ⟨4, 96, none⟩), .pointer (some b), .int .u64 150]]).run Tryd.prog W
   = .ok (.tuple #[]) (W.setCell ta (.pointer (some e))) := by
 rw [rls]
 simp only [Sem.run_bind, Tas.parts25a, Tas.parts25, Result.andThen]
 simp [ReflectliteValue.flagAddr, loadVar, isAgg, underlying, Tryd.underlying96, hb, Result.andThen, Tas.direct25, storeVar, Value.cells, storeCells, Addr.add]
 rw [run_store Tryd.prog W ta _ _ (by rfl)]
 simp [ht, hf]

set_option maxHeartbeats 4000000 in
theorem as_hit (e t : Addr) (old : Value) (w : World) (hg : w.cell? ⟨3, 0, none⟩ = some (.iface 130 (.agg #[.pointer (some ⟨4, 66, none⟩)]))) (ht0 : w.cell? t = some old) (hf0 : w.frozen? t = false) :
  Calls Tryd.prog 45 #[.iface 96 (.pointer (some e)), .iface 104 (.pointer (some t))] w fun ev w' => ev = .returned (.bool true) ∧ w' = ((((w.alloc (.cells #[.pointer (some t)] 104)).alloc (.cells #[.pointer (some ⟨4, 104, none⟩), .pointer (some ⟨w.heap.size, 0, none⟩), .int .u64 150] 115)).alloc (.cells #[.pointer (some ⟨4, 104, none⟩), .pointer (some ⟨w.heap.size, 0, none⟩), .int .u64 150] 115)).alloc (.cells #[.pointer (some e)] 96)).setCell t (.pointer (some e)) := by
 have h6 := @run_callFunc_extern Tryd.prog 55 _ (fun args => ReflectliteValue.unpack (args.getD 0 (.tuple #[]))) Tryd.func55 (by kernel_rfl) (by kernel_rfl) (by kernel_rfl) (by kernel_rfl)
 have h7 := @run_callFunc_extern Tryd.prog 56 _ (ReflectliteValue.methodAny (ReflectliteValue.valueError "reflectlite.Value.Type" 0) (fun t _ _ _ => ReflectliteType.toType t)) Tryd.func56 (by kernel_rfl) (by kernel_rfl) (by kernel_rfl) (by kernel_rfl)
 have h8 := @run_callFunc_extern Tryd.prog 57 _ (ReflectliteValue.method (ReflectliteValue.valueError "reflectlite.Value.IsNil" 0) ReflectliteValue.isNil) Tryd.func57 (by kernel_rfl) (by kernel_rfl) (by kernel_rfl) (by kernel_rfl)
 have h27 := @run_callFunc_extern Tryd.prog 79 _ (ReflectliteType.abiMethod fun t => do pure (.int .u8 (← Rtype.kind t))) Tryd.func79 (by kernel_rfl) (by kernel_rfl) (by kernel_rfl) (by kernel_rfl)
 have h37 := @run_callFunc_extern Tryd.prog 101 _ (ReflectliteType.method ReflectliteType.elem) Tryd.func101 (by kernel_rfl) (by kernel_rfl) (by kernel_rfl) (by kernel_rfl)
 have h38 := @run_callFunc_extern Tryd.prog 102 _ (ReflectliteType.relation "Implements" ReflectliteType.implements_) Tryd.func102 (by kernel_rfl) (by kernel_rfl) (by kernel_rfl) (by kernel_rfl)
 have h10 := @run_callFunc_extern Tryd.prog 59 _ ReflectliteType.typeOf Tryd.func59 (by kernel_rfl) (by kernel_rfl) (by kernel_rfl) (by kernel_rfl)
 have h35 := @run_callFunc_extern Tryd.prog 99 _ (ReflectliteType.relation "AssignableTo" ReflectliteType.assignableTo) Tryd.func99 (by kernel_rfl) (by kernel_rfl) (by kernel_rfl) (by kernel_rfl)
 have h11 := @run_callFunc_extern Tryd.prog 63 _ (ReflectliteValue.method (ReflectliteValue.valueError "reflectlite.Value.Elem" 0) ReflectliteValue.elem) Tryd.func63 (by kernel_rfl) (by kernel_rfl) (by kernel_rfl) (by kernel_rfl)
 have h12 := @run_callFunc_extern Tryd.prog 64 _ ReflectliteValue.set Tryd.func64 (by kernel_rfl) (by kernel_rfl) (by kernel_rfl) (by kernel_rfl)
 have tO := Tas.typeOf25
 have mA := Tas.methodAssignableTo
 have a25 := Tas.assignable25
 have v25 := Tas.valueOf25
 have f6 := Tas.valueOf27
 have f7 := Tas.type27
 have mK := Tas.methodKind
 have mE := Tas.methodElem
 have mI := Tas.methodImplements
 have k27 := Tas.kind27
 have k25 := Tas.kind25
 have e27 := Tas.elem27
 have i25 := Tas.implements25
 have n8 := Tas.isNil27 ⟨w.heap.size, 0, none⟩ t ((w.alloc (.cells #[.pointer (some t)] 104)).alloc (.cells #[.pointer (some ⟨4, 104, none⟩), .pointer (some ⟨w.heap.size, 0, none⟩), .int .u64 150] 115)) (by simp)
 have hlt : 3 < w.heap.size := by
  rcases Nat.lt_or_ge 3 w.heap.size with h | h
  ·exact h
  ·simp [World.cell?, Array.getElem?_eq_none h] at hg
 have hg2 : ((w.alloc (.cells #[.pointer (some t)] 104)).alloc (.cells #[.pointer (some ⟨4, 104, none⟩), .pointer (some ⟨w.heap.size, 0, none⟩), .int .u64 150] 115)).cell? ⟨3, 0, none⟩ = some (.iface 130 (.agg #[.pointer (some ⟨4, 66, none⟩)])) := by
  rw [World.cell?_alloc_lt _ _ ⟨3, 0, none⟩ (by simp; omega), World.cell?_alloc_lt _ _ ⟨3, 0, none⟩ hlt]; exact hg
 have htl : t.block < w.heap.size := by
  rcases Nat.lt_or_ge t.block w.heap.size with h | h
  ·exact h
  ·simp [World.cell?, Array.getElem?_eq_none h] at ht0
 have el := Tas.elemV27 ⟨w.heap.size, 0, none⟩ t (((w.alloc (.cells #[.pointer (some t)] 104)).alloc (.cells #[.pointer (some ⟨4, 104, none⟩), .pointer (some ⟨w.heap.size, 0, none⟩), .int .u64 150] 115)).alloc (.cells #[.pointer (some ⟨4, 104, none⟩), .pointer (some ⟨w.heap.size, 0, none⟩), .int .u64 150] 115)) (by rw [World.cell?_alloc_lt _ _ ⟨w.heap.size, 0, none⟩ (by simp; omega)]; simp)
 have st := Tas.set25 t ⟨w.heap.size + 1 + 1 + 1, 0, none⟩ e old ((((w.alloc (.cells #[.pointer (some t)] 104)).alloc (.cells #[.pointer (some ⟨4, 104, none⟩), .pointer (some ⟨w.heap.size, 0, none⟩), .int .u64 150] 115)).alloc (.cells #[.pointer (some ⟨4, 104, none⟩), .pointer (some ⟨w.heap.size, 0, none⟩), .int .u64 150] 115)).alloc (.cells #[.pointer (some e)] 96))
  (by rw [World.cell?_alloc_at _ _ _ _ (by simp)]; rfl)
  (by rw [World.cell?_alloc_lt _ _ t (by simp; omega), World.cell?_alloc_lt _ _ t (by simp; omega), World.cell?_alloc_lt _ _ t (by simp; omega), World.cell?_alloc_lt _ _ t htl]; exact ht0)
  (by rw [World.frozen?_alloc_old _ _ t (by simp; omega), World.frozen?_alloc_old _ _ t (by simp; omega), World.frozen?_alloc_old _ _ t (by simp; omega), World.frozen?_alloc_old _ _ t (Nat.ne_of_lt htl)]; exact hf0)
 go_enter Tryd.func45, Tryd.ntmps45
 go_wp2
 refine wp_loop_rounds 1 ?_
 rw [rounds_succ]
 go_wp2
 go_ret
 exact ⟨rfl, rfl⟩
end Go.Proofs.YtmjeghlfmhbjdaaDoor.EngTab

/- impl.codeOf at no fault, and at a fault of a form (its place below 0). -/
namespace Go.Proofs.YtmjeghlfmhbjdaaDoor.EngTab
open Go.RowKit Go.Proofs.YtmjeghlfmhbjdaaDoor.Eng
set_option maxRecDepth 100000
set_option linter.unusedVariables false
set_option linter.unusedSimpArgs false
def vHand : Value := .iface 130 (.agg #[.pointer (some ⟨4, 66, none⟩)])
def Sen.gl4 (g : Sen) : List (Nat × Value) := [(0, g.form), (1, g.size), (2, g.sum), (3, vHand)]
theorem code_nil (w : World) : Calls Tryd.prog 30 #[.nilIface] w fun e w' => e = .returned (.int .i64 0) ∧ w' = w := by
 go_enter Tryd.func30, Tryd.ntmps30
 go_wp2
 go_ret
 exact ⟨rfl, rfl⟩
theorem as_hit2 (w : World) (e : Addr) (hg : (w.alloc (.cells #[.pointer none] 96)).cell? ⟨3, 0, none⟩ = some vHand) :
  Calls Tryd.prog 45 #[.iface 96 (.pointer (some e)), .iface 104 (.pointer (some ⟨w.heap.size, 0, none⟩))] (w.alloc (.cells #[.pointer none] 96)) fun ev w' => ev = .returned (.bool true) ∧ Below w.heap.size w w' ∧ w'.cell? ⟨w.heap.size, 0, none⟩ = some (.pointer (some e)) := by
 refine (as_hit e ⟨w.heap.size, 0, none⟩ (.pointer none) (w.alloc (.cells #[.pointer none] 96)) hg (by simp) (by simp)).mono ?_
 rintro ev w' ⟨rfl, rfl⟩
 refine ⟨rfl, ?_, ?_⟩
 ·refine Below.setCell (p := ⟨w.heap.size, 0, none⟩) ?_ (Nat.le_refl _) _
  refine Below.alloc (Below.alloc (Below.alloc (Below.alloc (Below.alloc (Below.refl _ _) ?_ _) ?_ _) ?_ _) ?_ _) ?_ _ <;> simp <;> omega
 ·refine World.cell?_setCell_same _ _ _ (u := .pointer none) ?_
  rw [World.cell?_alloc_lt _ _ _ (by simp; omega), World.cell?_alloc_lt _ _ _ (by simp; omega), World.cell?_alloc_lt _ _ _ (by simp; omega), World.cell?_alloc_lt _ _ _ (by simp)]
  simp
set_option maxHeartbeats 4000000 in
theorem code_neg (b o : Nat) (p : Int) (w : World) (hg : w.cell? ⟨3, 0, none⟩ = some vHand) (hc : w.cell? ⟨b, o, none⟩ = some (.int .i64 p)) (hp : p < 0) :
  Calls Tryd.prog 30 #[.iface 96 (.pointer (some ⟨b, o, none⟩))] w fun e w' => e = .returned (.int .i64 5) ∧ Below w.heap.size w w' := by
 have hlt : 3 < w.heap.size := by
  rcases Nat.lt_or_ge 3 w.heap.size with h | h
  ·exact h
  ·simp [World.cell?, Array.getElem?_eq_none h] at hg
 have hbl : b < w.heap.size := by
  rcases Nat.lt_or_ge b w.heap.size with h | h
  ·exact h
  ·simp [World.cell?, Array.getElem?_eq_none h] at hc
 have hgA : (w.alloc (.cells #[.pointer none] 96)).cell? ⟨3, 0, none⟩ = some (.iface 130 (.agg #[.pointer (some ⟨4, 66, none⟩)])) := by
  rw [World.cell?_alloc_lt _ _ ⟨3, 0, none⟩ hlt]; exact hg
 have h0 : decide (p < 0) = true := decide_eq_true hp
 go_enter Tryd.func30, Tryd.ntmps30
 go_wp2_with (go_at_call 45; refine (as_hit2 w ⟨b, o, none⟩ hgA).mono ?_; rintro e w' ⟨rfl, hB, hcell⟩; have hcb : w'.cell? ⟨b, o, none⟩ = some (.int .i64 p) := (hB.cell hbl).trans hc)
 go_ret
 exact ⟨rfl, hB⟩
abbrev ErrD2 : Type := Option (Int × Value × Unit) ⊕ Unit
def codeV : ErrD2 → Int
 | .inl (some _) => 5
 | _ => 0
def codePre : ErrD2 → Prop
 | .inl (some q) => q.1 < 0
 | .inl none => False
 | .inr _ => True
def c30 (g : Sen) : Con := { ps := [(false, 0, tyErr)], rs := [(0, .int .i64)], pre := fun x => codePre x.1, post := fun x y _ => y.1 = codeV x.1, gl := g.gl4 }
theorem ok30 (g : Sen) : FnOK Tryd.prog 30 (c30 g) := by
 refine FnOK.of_callsG (by intro p hp; simp [c30, Con.of] at hp; subst hp; rfl) ?_
 rintro w Z Bs vals ⟨x, ⟨⟩⟩ hA hG hpre
 obtain ⟨B, Bs', v, vs', cs, rfl, rfl, o, ev, rfl, rfl⟩ := hA
 have hh : w.cell? ⟨3, 0, none⟩ = some vHand := by
  obtain ⟨_, arr, ty, fz, h1, h2, _⟩ := hG (3, vHand) (by simp [c30, Con.of, Sen.gl4])
  unfold World.cell?
  have h1' : w.heap[3]? = some (.cells arr ty fz) := h1
  simp only [h1']
  simpa using h2
 match x, o, hpre with
 | .inr u, o, _ =>
  have hcs : cs = [.nilIface] := by
   rcases o with ⟨_, h, _⟩ | ⟨_, h⟩
   ·exact h
   ·exact h.2
  subst hcs
  have e2 : v = .nilIface := ev
  subst e2
  refine (code_nil w).mono ?_
  rintro e w' ⟨rfl, rfl⟩
  exact ⟨_, (0, ()), [[]], rfl, rfl, Frm.refl _ _, rfl, ret_int (by unfold InK IntKind.min IntKind.max IntKind.signed IntKind.bits; decide)⟩
 | .inl none, o, hp => exact False.elim hp
 | .inl (some q), o, hp =>
  obtain ⟨cs', e1, o1⟩ := o
  subst e1
  obtain ⟨_, b, off, arr, ty, fz, rfl, hz, hb, hl, ho⟩ := o1
  have e2 : v = .iface 96 (.pointer (some ⟨b, off, none⟩)) := ev
  subst e2
  have hc : w.cell? ⟨b, off, none⟩ = some (.int .i64 q.1) := by
   obtain ⟨B1, B2, c1, c2, _, hcc, ⟨_, hc1, _⟩, _⟩ := ho
   have hs : (seg arr.toList off tyMisp.sz)[0]? = some (.int .i64 q.1) := by rw [hcc, hc1]; rfl
   rw [seg_get] at hs
   have hb' : w.heap[b]? = some (.cells arr ty fz) := hb
   unfold World.cell?
   simp only [hb']
   simpa [Ty.sz] using hs
  refine (code_neg b off q.1 w hh hc hp).mono ?_
  rintro e w' ⟨rfl, hB⟩
  exact ⟨_, (5, ()), [[]], rfl, rfl, frm_below hB, rfl, ret_int (by unfold InK IntKind.min IntKind.max IntKind.signed IntKind.bits; decide)⟩
end Go.Proofs.YtmjeghlfmhbjdaaDoor.EngTab

/- impl.EncodeTable. -/
namespace Go.Proofs.YtmjeghlfmhbjdaaDoor.EngTab
open Go.Proofs.YtmjeghlfmhbjdaaDoor.Eng
set_option maxRecDepth 100000
set_option linter.unusedVariables false
set_option linter.unusedSimpArgs false
def c11 (g : Sen) : Con := { ps := [(false, 0, tyTab)], rs := [(1, tyB), (0, .int .i64)], pre := fun x => x.1.2.1.length ≤ 1048576, post := fun x y _ => y.1 = encT x.1.1 x.1.2.1 ∧ y.2.1 = encC (tabOK x.1.1 x.1.2.1), gl := g.gl4 }
theorem ok11 (g : Sen) : FnOK Tryd.prog 11 (c11 g) := by
 refine FnOK.of_vc mixed tabMOk (.cons en29 (ok29 g) (.cons (by exact .mk Tryd.func30 (by rfl) rfl) (ok30 g) .nil)) Tryd.func11 rfl (by show 1 ≤ Tryd.f11.ntmps; decide) lv11 hd11 ?_
 rintro ⟨⟨(next : Int), (rs : List RunD), ⟨⟩⟩, ⟨⟩⟩ hl hwf
 have hl : rs.length ≤ 1048576 := hl
 generalize hM : real = M
 cbv
 refine ⟨fun _ => hl, ?_⟩
 rintro ⟨(b : List Int), (er : ErrD), ⟨⟩⟩ x' ⟨(h1 : tabOK next rs → b = sumB (layT 3 (M.ofN (M.len rs)) next rs) ∧ er = .inr ()), (h2 : ¬ tabOK next rs → b = [] ∧ er = .inl (some (-1, g.form, ())))⟩ - -
 by_cases hOK : tabOK next rs
 ·obtain ⟨hb, rfl⟩ := h1 hOK
  cbv
  refine ⟨fun _ => trivial, ?_⟩
  rintro ⟨(y : Int), ⟨⟩⟩ x'' (hy : y = 0) - -
  cbv
  rintro -
  refine ⟨?_, by unfold encC; rw [if_pos hOK]; exact hy⟩
  (try subst hM); (try simp only [jqn] at *); (try simp only [jqi] at *); (try simp only [real, jq1, jq2, jq3, jq4, jq5, jq6, sEq_dec, Bool.not_true, Bool.not_false, gt_iff_lt, ge_iff_le] at *)
  show b = encT next rs
  rw [hb]
  exact encT_sum hOK
 ·obtain ⟨hb, rfl⟩ := h2 hOK
  cbv
  refine ⟨fun _ => (by show (-1 : Int) < 0; omega), ?_⟩
  rintro ⟨(y : Int), ⟨⟩⟩ x'' (hy : y = 5) - -
  cbv
  rintro -
  refine ⟨?_, by unfold encC; rw [if_neg hOK]; exact hy⟩
  show b = encT next rs
  unfold encT
  rw [if_neg hOK]
  exact hb
end Go.Proofs.YtmjeghlfmhbjdaaDoor.EngTab
