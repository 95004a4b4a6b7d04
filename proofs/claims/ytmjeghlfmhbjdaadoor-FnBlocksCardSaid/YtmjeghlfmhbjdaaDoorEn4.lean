/- The engine, nineteenth part: operations in a row, and what is kept between them. No condition. -/
import Derived.Test.YtmjeghlfmhbjdaaDoorEn3
import Derived.StillTail
import Derived.Orders
import Derived.Scope
import Derived.Control
import Derived.Deep.LoopGhost
import Derived.Tactics
import Derived.KernelRfl
import Derived.IntWalk
import Derived.Laws.Strings
import Derived.WideShapes
import Derived.SizedLaws
import Derived.ChangeArms
import Derived.DataReads
import Derived.ChangeShapes
import Derived.ChangeOld
import Derived.Carry
import Derived.RowKit
import Derived.WalkKit
import Derived.ProofKit
import Derived.OpenShut
namespace Go.Proofs.YtmjeghlfmhbjdaaDoor.Eng
open Go.RowKit
set_option linter.unusedVariables false
set_option linter.unusedSimpArgs false

def allHole : List (Nat × SV) → Bool
 | [] => true
 | (_, v) :: l => noHole v && allHole l
def evs (Γ : Ctx) : List Operand → List SV
 | [] => []
 | x :: l => Γ.eval x :: evs Γ l
def evp (Γ : Ctx) : List (Nat × Operand) → List (Nat × SV)
 | [] => []
 | (n, x) :: l => (n, Γ.eval x) :: evp Γ l
def evo (Γ : Ctx) : Option Operand → Option SV
 | none => none
 | some x => some (Γ.eval x)
def below (n : Nat) : List (Nat × Operand) → Bool
 | [] => true
 | (k, _) :: l => decide (k < n) && below n l
def tls : List Operand → List Operand → Prop := fun a b => a = b
section
variable (M : Mth) (T : Tab) (C : FuncId → Option Con)
def isRd : Op → Bool
 | .move _ | .assign _ | .pick .. | .binOp .. | .unOp .. | .convert .. | .load .. | .indexAddr .. | .fieldAddr .. | .field .. | .index .. | .extract .. | .nilCheck _ | .build .. | .slice .. | .lookup .. | .makeInterface .. | .typeAssert .. | .sliceToArrayPointer .. => true
 | .call { callee := .builtin .len, .. } => true
 | _ => false
def vcBuiltin (b : Builtin) (d : Option Nat) (xs : List SV) (ts : List TypeId) (Γ : Ctx) (K : Ctx → Prop) : Prop :=
 match b, xs with
 | .append, [x, y] => opAppend M T Γ d K ts x y
 | .len, [x] => opLen M T Γ d K ts x
 | .max, [x, y] => opMM M Γ d K true x y
 | .min, [x, y] => opMM M Γ d K false x y
 | .delete, [x, y] => match ts with
  | [t, _] => opDelete M T Γ d K t x y
  | _ => False
 | .copy, [x, y] => opCopy M T Γ d K ts x y
 | _, _ => False
def isNilC : Operand → Bool
 | .const .nilIface => true
 | _ => false
def memF (f : FuncId) : List FuncId → Bool
 | [] => false
 | g :: l => match Nat.beq g f with | true => true | false => memF f l
def opBin (op : BinOp) (t : TypeId) (x y : Operand) (Γ : Ctx) (d : Option Nat) (K : Ctx → Prop) : Prop :=
 match isNilC y, op with
 | true, .eql => opEqNil T Γ d K false t (Γ.eval x)
 | true, .neq => opEqNil T Γ d K true t (Γ.eval x)
 | _, _ => match isAT (T.ty t) with
  | true => opEqArr M T Γ d K op t (Γ.eval x) (Γ.eval y)
  | false => match memF t T.eq with
   | true => opEqStr M T Γ d K op t (Γ.eval x) (Γ.eval y)
   | false => bin M op (Γ.eval x) (Γ.eval y) fun v => Γ.on d v K
def vcOp2 (o : Oper) (Γ : Ctx) (K : Ctx → Prop) : Prop :=
 match o.op with
 | .makeMap t none => opMakeMap T Γ o.dst K t
 | .insert t x k v => match o.dst with
  | none => opInsert M T Γ K t (Γ.eval x) (Γ.eval k) (Γ.eval v)
  | some _ => False
 | .mapUpdate t x k v => match o.dst with
  | none => opInsert M T Γ K t (Γ.eval x) (Γ.eval k) (Γ.eval v)
  | some _ => False
 | .lookup t x k ok => opLookup M T Γ o.dst K t (Γ.eval x) (Γ.eval k) ok
 | .makeInterface t x => opMkIfc T Γ o.dst K t (Γ.eval x)
 | .typeAssert x t u ok => opAssert T Γ o.dst K (Γ.eval x) u ok
 | .sliceToArrayPointer t x => opArrPtr M T Γ o.dst K t (Γ.eval x)
 | .call { callee := .invoke x name, args, .. } => opInvoke T C Γ o.dst K name (Γ.eval x) (lays M Γ (evs Γ args.toList))
 | _ => False
def vcOp (o : Oper) (Γ : Ctx) (K : Ctx → Prop) : Prop :=
 match o.op with
 | .move x => Γ.on o.dst (Γ.eval x) K
 | .assign x => Γ.on o.dst (Γ.eval x) K
 | .pick c a b => opPick Γ o.dst K (Γ.eval c) (Γ.eval a) (Γ.eval b)
 | .binOp op t x y _ => opBin M T op t x y Γ o.dst K
 | .unOp op _ x => opUn M Γ o.dst K op (Γ.eval x)
 | .convert s t x => opConv M T Γ o.dst K s t (Γ.eval x)
 | .load t x => match isA (Γ.eval x) || isAT (T.ty t) with
  | true => opLoadArr M T Γ o.dst K t (Γ.eval x)
  | false => opLoad M T Γ o.dst K t (Γ.eval x)
 | .store t x v => match o.dst with
  | none => match isAT (T.ty t) with
   | true => opStoreArr T Γ K t (Γ.eval x) (Γ.eval v)
   | false => opStore M T Γ K t (Γ.eval x) (Γ.eval v)
  | some _ => False
 | .indexAddr t x i => match isAT (T.ty t) with
  | true => opIndexArr M T Γ o.dst K t (Γ.eval x) (Γ.eval i)
  | false => opIndexAddr M T Γ o.dst K t (Γ.eval x) (Γ.eval i)
 | .fieldAddr t x n => match isA (Γ.eval x) with
  | true => opFieldPtr M T Γ o.dst K t (Γ.eval x) n
  | false => opFieldAddr T Γ o.dst K t (Γ.eval x) n
 | .field t x n => opField T Γ o.dst K t (Γ.eval x) n
 | .index t x i => opIndexStr M T Γ o.dst K t (Γ.eval x) (Γ.eval i)
 | .extract x n => opExtract Γ o.dst K (Γ.eval x) n
 | .nilCheck x => match isA (Γ.eval x) with
  | true => opNilArr M Γ o.dst K (Γ.eval x)
  | false => opNil Γ o.dst K (Γ.eval x)
 | .build t ps => match arrOf (T.ty t) with
  | some (n, e) => match below n ps.toList with
   | true => opBuildArr M Γ o.dst K n e (evp Γ ps.toList)
   | false => False
  | none => match allHole (evp Γ ps.toList) with
   | true => opBuild T Γ o.dst K t (evp Γ ps.toList)
   | false => False
 | .buildSlice t n ps => match below n ps.toList with
  | true => opBuildSlice T Γ o.dst K t n (evp Γ ps.toList)
  | false => False
 | .makeSlice t x y => opMakeSlice M T Γ o.dst K t (Γ.eval x) (Γ.eval y)
 | .slice t x lo hi none => match isAT (T.ty t) with
  | true => opSliceArr M T Γ o.dst K t (Γ.eval x) (evo Γ lo) (evo Γ hi)
  | false => opSlice M T Γ o.dst K t (Γ.eval x) (evo Γ lo) (evo Γ hi)
 | .alloc t => match arrOf (T.ty t) with
  | some (n, e) => opNewArr M Γ o.dst K n e
  | none => match T.ty t with
   | some u => opBox Γ o.dst K u (zeroSV u)
   | none => False
 | .box t x => match arrOf (T.ty t) with
  | some (n, e) => opBoxArr Γ o.dst K n e (Γ.eval x)
  | none => match T.ty t with
   | some u => opBox Γ o.dst K u (Γ.eval x)
   | none => False
 | .call { callee := .builtin b, args, argTypes } => vcBuiltin M T b o.dst (evs Γ args.toList) argTypes.toList Γ K
 | .call { callee := .value (.func f), args, .. } => match memF f T.wr with
  | true => opWr M Γ o.dst K (evs Γ args.toList)
  | false => match C f with
   | some c => opCall Γ o.dst K c (lays M Γ (evs Γ args.toList))
   | none => False
 | .range t x => opRange T Γ o.dst K t (Γ.eval x)
 | .next x str => opNext M Γ o.dst K (Γ.eval x) str
 | _ => vcOp2 M T C o Γ K
end
theorem arrOf_some {u : Option Ty} {n : Nat} {e : Ty} (h : arrOf u = some (n, e)) : u = some (.arr n e) := by
 unfold arrOf at h
 split at h
 ·cases h; rfl
 ·cases h
theorem memF_ok {f : FuncId} : ∀ {l : List FuncId}, memF f l = true → f ∈ l
 | [], h => by cases h
 | g :: l, h => by
  unfold memF at h
  split at h
  ·rename_i hg; rw [Nat.eq_of_beq_eq_true hg]; exact List.mem_cons_self ..
  ·exact List.mem_cons_of_mem _ (memF_ok h)
theorem evs_map (Γ : Ctx) : ∀ l : List Operand, evs Γ l = l.map Γ.eval
 | [] => rfl
 | x :: l => by rw [evs, evs_map Γ l]; rfl
theorem evp_map (Γ : Ctx) : ∀ l : List (Nat × Operand), evp Γ l = l.map fun p => (p.1, Γ.eval p.2)
 | [] => rfl
 | (n, x) :: l => by rw [evp, evp_map Γ l]; rfl
theorem evo_map (Γ : Ctx) : ∀ l : Option Operand, evo Γ l = l.map Γ.eval
 | none => rfl
 | some x => rfl
theorem allHole_ok (Γ : Ctx) : ∀ l : List (Nat × Operand), allHole (evp Γ l) = true → ∀ p ∈ l, noHole (Γ.eval p.2) = true
 | [], _, p, hp => by cases hp
 | (n, x) :: l, h, p, hp => by
  simp only [evp, allHole, Bool.and_eq_true] at h
  rcases List.mem_cons.1 hp with rfl | hp
  ·exact h.1
  ·exact allHole_ok Γ l h.2 p hp
theorem below_ok (n : Nat) : ∀ l : List (Nat × Operand), below n l = true → ∀ p ∈ l, p.1 < n
 | [], _, p, hp => by cases hp
 | (k, x) :: l, h, p, hp => by
  simp only [below, Bool.and_eq_true, decide_eq_true_eq] at h
  rcases List.mem_cons.1 hp with rfl | hp
  ·exact h.1
  ·exact below_ok n l h.2 p hp
section
variable {P : Program} {T : Tab} {C : FuncId → Option Con} {Bb : Nat → Prop} {w0 : World} {O0 : List Nat} {av : List Value} {Γ Γ' : Ctx} {a : Act} {w w' : World} {β : Nat → Value} {F : Nat → List Nat} {K : Ctx → Prop} {o : Oper} {Q : Exit → Act → World → Prop}
theorem isNilC_ok {y : Operand} (h : isNilC y = true) : y = .const .nilIface := by
 unfold isNilC at h; split at h
 ·rfl
 ·cases h
theorem sound_bin0 (S : Sim Bb w0 O0 av Γ a w β F) {op : BinOp} {t ty : TypeId} {x y : Operand} (ho : o.op = .binOp op t x y ty) (hk : bin real op (Γ.eval x) (Γ.eval y) fun v => Γ.on o.dst v K) : Reads P o a w (Nx Bb w0 O0 av K) := by
 obtain ⟨v, z, h1, h2, h3⟩ := run_bin (P := P) (w := w) (t := t) (oa := x) (ob := y) (S.eval x) (S.eval y) hk
 exact go_value S (by unfold execOp; rw [ho]; exact run_v h3) h2 h1
theorem sound_bin (hT : TabOk P T) (S : Sim Bb w0 O0 av Γ a w β F) {op : BinOp} {t ty : TypeId} {x y : Operand} (ho : o.op = .binOp op t x y ty) (hk : opBin real T op t x y Γ o.dst K) : Reads P o a w (Nx Bb w0 O0 av K) := by
 unfold opBin at hk
 split at hk
 ·rename_i hy
  have := isNilC_ok hy; subst this
  exact sound_eqNil hT S (neg := false) rfl ho hk
 ·rename_i hy
  have := isNilC_ok hy; subst this
  exact sound_eqNil hT S (neg := true) rfl ho hk
 ·split at hk
  ·exact sound_eqArr hT S ho hk
  ·split at hk
   ·rename_i hm; exact sound_eqStr hT S ho (memF_ok hm) hk
   ·exact sound_bin0 S ho hk
theorem list1 {α : Type} {l : Array α} {x : α} (h : l.toList = [x]) : l = #[x] := by apply Array.toList_inj.1; rw [h]
theorem list2 {α : Type} {l : Array α} {x y : α} (h : l.toList = [x, y]) : l = #[x, y] := by apply Array.toList_inj.1; rw [h]
theorem sound_rd2 (hT : TabOk P T) (S : Sim Bb w0 O0 av Γ a w β F) (hr : isRd o.op = true) (hk : vcOp2 real T C o Γ K) : Reads P o a w (Nx Bb w0 O0 av K) := by
 unfold vcOp2 at hk
 split at hk
 ·rename_i t ho; rw [ho] at hr; cases hr
 ·rename_i t x k v ho; rw [ho] at hr; cases hr
 ·rename_i t x k v ho; rw [ho] at hr; cases hr
 ·rename_i t x k ok ho; exact sound_lookup hT S ho hk
 ·rename_i t x ho; exact sound_mkIfc hT S ho hk
 ·rename_i x t u ok ho; exact sound_assert hT S ho hk
 ·rename_i t x ho; exact sound_arrPtr hT S ho hk
 ·rename_i ho; rw [ho] at hr; cases hr
 ·exact hk.elim
theorem sound_rd (hT : TabOk P T) (S : Sim Bb w0 O0 av Γ a w β F) (hr : isRd o.op = true) (hk : vcOp real T C o Γ K) : Reads P o a w (Nx Bb w0 O0 av K) := by
 unfold vcOp at hk
 split at hk
 ·rename_i x ho; exact sound_move S (.inl ho) hk
 ·rename_i x ho; exact sound_move S (.inr ho) hk
 ·rename_i c x y ho; exact sound_pick S ho hk
 ·rename_i op t x y t2 ho; exact sound_bin hT S ho hk
 ·rename_i op t x ho; exact sound_un S ho hk
 ·rename_i s t x ho; exact sound_conv hT S ho hk
 ·rename_i t x ho
  split at hk
  ·exact sound_loadArr hT S ho hk
  ·exact sound_load hT S ho hk
 ·rename_i t x v ho; rw [ho] at hr; cases hr
 ·rename_i t x i ho
  split at hk
  ·exact sound_indexArr hT S ho hk
  ·exact sound_indexAddr hT S ho hk
 ·rename_i t x n ho
  split at hk
  ·exact sound_fieldPtr hT S ho hk
  ·exact sound_fieldAddr hT S ho hk
 ·rename_i t x n ho; exact sound_field hT S ho hk
 ·rename_i t x i ho; exact sound_indexStr hT S ho hk
 ·rename_i x n ho; exact sound_extract S ho hk
 ·rename_i x ho
  split at hk
  ·exact sound_nilArr S ho hk
  ·exact sound_nil S ho hk
 ·rename_i t ps ho
  split at hk
  ·rename_i n e ht
   split at hk
   ·rename_i hn
    rw [evp_map] at hk
    exact sound_buildArr hT S ho (arrOf_some ht) (below_ok n _ hn) hk
   ·exact hk.elim
  ·split at hk
   ·rename_i hn
    rw [evp_map] at hk
    exact sound_build hT S ho (allHole_ok Γ _ hn) hk
   ·exact hk.elim
 ·rename_i t n ps ho; rw [ho] at hr; cases hr
 ·rename_i t x y ho; rw [ho] at hr; cases hr
 ·rename_i t x lo hi ho
  rw [evo_map, evo_map] at hk
  split at hk
  ·exact sound_sliceArr hT S ho hk
  ·exact sound_slice hT S ho hk
 ·rename_i t ho; rw [ho] at hr; cases hr
 ·rename_i t x ho; rw [ho] at hr; cases hr
 ·rename_i b args ts ho
  rw [ho] at hr
  cases b <;> first | (cases hr; done) | skip
  unfold vcBuiltin at hk
  rw [evs_map] at hk
  split at hk <;> first | (rename_i h _; cases h; done) | skip
  ·rename_i x' h1 h2
   have : ∃ x, args.toList = [x] ∧ x' = Γ.eval x := by
    cases hl : args.toList with
    | nil => rw [hl] at h2; cases h2
    | cons x l =>
     rw [hl] at h2
     simp only [List.map_cons, List.cons.injEq, List.map_eq_nil_iff] at h2
     exact ⟨x, by rw [h2.2], h2.1.symm⟩
   obtain ⟨x, hx, rfl⟩ := this
   have hx' := list1 hx
   subst hx'
   have : ∃ t, ts.toList = [t] := by
    unfold opLen at hk
    split at hk
    ·rename_i t ht; exact ⟨t, ht⟩
    ·exact hk.elim
   obtain ⟨t, ht⟩ := this
   have ht' := list1 ht
   subst ht'
   exact sound_len hT S ho hk
  ·exact hk.elim
 ·rename_i f args ts ho; rw [ho] at hr; cases hr
 ·rename_i t x ho; rw [ho] at hr; cases hr
 ·rename_i x st ho; rw [ho] at hr; cases hr
 ·exact sound_rd2 hT S hr hk
end
end Go.Proofs.YtmjeghlfmhbjdaaDoor.Eng

/- The engine, twentieth part: rows of operations. No condition. -/
namespace Go.Proofs.YtmjeghlfmhbjdaaDoor.Eng
open Go.RowKit
set_option linter.unusedVariables false
set_option linter.unusedSimpArgs false
section
variable {P : Program} {T : Tab} {C : FuncId → Option Con} {Bb : Nat → Prop} {w0 : World} {O0 : List Nat} {av : List Value} {Γ Γ' : Ctx} {a : Act} {w w' : World} {β : Nat → Value} {F : Nat → List Nat} {K : Ctx → Prop} {o : Oper} {Q : Exit → Act → World → Prop}
def ConsOk (P : Program) (C : FuncId → Option Con) : Prop := ∀ f c, C f = some c → Enters P f ∧ FnOK P f c
theorem sound_op2 (hT : TabOk P T) (S : Sim Bb w0 O0 av Γ a w β F) (hr : isRd o.op ≠ true) (hC : ConsOk P C) (hk : vcOp2 real T C o Γ K) : o.wp P a w (Nx Bb w0 O0 av K) Q := by
 unfold vcOp2 at hk
 split at hk
 ·rename_i t ho; exact sound_makeMap hT S ho hk
 ·rename_i t x k v ho
  split at hk
  ·rename_i hd; exact sound_insert hT S (.inl ho) hd hk
  ·exact hk.elim
 ·rename_i t x k v ho
  split at hk
  ·rename_i hd; exact sound_insert hT S (.inr ho) hd hk
  ·exact hk.elim
 ·rename_i t x k ok ho; rw [ho] at hr; exact absurd rfl hr
 ·rename_i t x ho; rw [ho] at hr; exact absurd rfl hr
 ·rename_i x t u ok ho; rw [ho] at hr; exact absurd rfl hr
 ·rename_i t x ho; rw [ho] at hr; exact absurd rfl hr
 ·rename_i x name args ts ho
  rw [evs_map] at hk
  exact sound_invoke hT hC S ho hk
 ·exact hk.elim
theorem sound_op (hT : TabOk P T) (hC : ConsOk P C) (S : Sim Bb w0 O0 av Γ a w β F) (hk : vcOp real T C o Γ K) : o.wp P a w (Nx Bb w0 O0 av K) Q := by
 by_cases hr : isRd o.op = true
 ·exact (sound_rd hT S hr hk).wp
 unfold vcOp at hk
 split at hk
 case h_1 x ho => rw [ho] at hr; exact absurd rfl hr
 case h_2 x ho => rw [ho] at hr; exact absurd rfl hr
 case h_3 c x y ho => rw [ho] at hr; exact absurd rfl hr
 case h_4 op t x y t2 ho => rw [ho] at hr; exact absurd rfl hr
 case h_5 op t x ho => rw [ho] at hr; exact absurd rfl hr
 case h_6 s t x ho => rw [ho] at hr; exact absurd rfl hr
 case h_7 t x ho => rw [ho] at hr; exact absurd rfl hr
 case h_8 t x v ho =>
  split at hk
  ·rename_i hd
   split at hk
   ·exact sound_storeArr hT S ho hd hk
   ·exact sound_store hT S ho hd hk
  ·exact hk.elim
 case h_9 t x i ho => rw [ho] at hr; exact absurd rfl hr
 case h_10 t x n ho => rw [ho] at hr; exact absurd rfl hr
 case h_11 t x n ho => rw [ho] at hr; exact absurd rfl hr
 case h_12 t x i ho => rw [ho] at hr; exact absurd rfl hr
 case h_13 x n ho => rw [ho] at hr; exact absurd rfl hr
 case h_14 x ho => rw [ho] at hr; exact absurd rfl hr
 case h_15 t ps ho => rw [ho] at hr; exact absurd rfl hr
 case h_16 t n ps ho =>
  split at hk
  ·rename_i hb
   rw [evp_map] at hk
   exact sound_buildSlice hT S ho (below_ok n _ hb) hk
  ·exact hk.elim
 case h_17 t x y ho => exact sound_makeSlice hT S ho hk
 case h_18 t x lo hi ho => rw [ho] at hr; exact absurd rfl hr
 case h_19 t ho =>
  split at hk
  ·rename_i n e ht
   exact sound_newArr hT S ho (arrOf_some ht) hk
  split at hk
  ·rename_i u hu
   refine sound_box hT S hu (x := valOf u.agg u.zc) (slot_c (v := zeroSV u) (cs := u.zc) (by cases u <;> rfl) (zeroSV_ok u) |> fun h => by rw [agg_zero] at h; exact h) (fun z w' hz => ?_) hk
   unfold execOp; rw [ho]
   exact run_v (run_alloc (hT.ty _ _ hu) hz)
  ·exact hk.elim
 case h_20 t x ho =>
  split at hk
  ·rename_i n e ht
   exact sound_boxArr hT S ho (arrOf_some ht) hk
  split at hk
  ·rename_i u hu
   refine sound_box hT S hu (S.eval x) (fun z w' hz => ?_) hk
   unfold execOp; rw [ho]
   exact run_v hz
  ·exact hk.elim
 case h_21 b args ts ho =>
  unfold vcBuiltin at hk
  rw [evs_map] at hk
  have two : ∀ {x' y' : SV}, args.toList.map Γ.eval = [x', y'] → ∃ x y, args = #[x, y] ∧ x' = Γ.eval x ∧ y' = Γ.eval y := by
   intro x' y' h
   cases hl : args.toList with
   | nil => rw [hl] at h; cases h
   | cons x l =>
    cases l with
    | nil => rw [hl] at h; simp at h
    | cons y l =>
     rw [hl] at h
     simp only [List.map_cons, List.cons.injEq, List.map_eq_nil_iff] at h
     obtain ⟨h1, h2, rfl⟩ := h
     exact ⟨x, y, list2 hl, h1.symm, h2.symm⟩
  split at hk
  ·rename_i x' y' h2
   obtain ⟨x, y, rfl, rfl, rfl⟩ := two h2
   have : ∃ t t2, ts = #[t, t2] := by
    unfold opAppend at hk
    split at hk
    ·rename_i t t2 ht; exact ⟨t, t2, list2 ht⟩
    ·exact hk.elim
   obtain ⟨t, t2, rfl⟩ := this
   exact sound_append hT S ho hk
  ·rw [ho] at hr; exact absurd rfl hr
  ·rename_i x' y' h2
   obtain ⟨x, y, rfl, rfl, rfl⟩ := two h2
   exact (sound_mm S (mx := true) ho hk).wp
  ·rename_i x' y' h2
   obtain ⟨x, y, rfl, rfl, rfl⟩ := two h2
   exact (sound_mm S (mx := false) ho hk).wp
  ·rename_i x' y' h2
   obtain ⟨x, y, rfl, rfl, rfl⟩ := two h2
   split at hk
   ·rename_i t t2 ht
    have ht' := list2 ht
    subst ht'
    exact sound_delete hT S ho hk
   ·exact hk.elim
  ·rename_i x' y' h2
   obtain ⟨x, y, rfl, rfl, rfl⟩ := two h2
   have : ∃ t t2, ts = #[t, t2] := by
    unfold opCopy at hk
    split at hk
    ·rename_i t t2 _ _ _ _ _ _ ht _ _; exact ⟨t, t2, list2 ht⟩
    ·exact hk.elim
   obtain ⟨t, t2, rfl⟩ := this
   exact sound_copy hT S ho hk
  ·exact hk.elim
 case h_22 f args ts ho =>
  split at hk
  ·rename_i hf
   rw [evs_map] at hk
   exact sound_wr hT S (memF_ok hf) ho hk
  split at hk
  ·rename_i c hc
   rw [evs_map] at hk
   exact sound_callL (hC _ _ hc).1 (hC _ _ hc).2 S ho hk
  ·exact hk.elim
 case h_23 t x ho => exact sound_range hT S ho hk
 case h_24 x st ho => exact sound_next S ho hk
 case h_25 => exact sound_op2 hT S hr hC hk
end

section
variable (M : Mth) (T : Tab) (C : FuncId → Option Con)
def nthO : Nat → List Oper → Option Oper
 | _, [] => none
 | 0, o :: _ => some o
 | n + 1, _ :: l => nthO n l
/-- One operation, its guard looked at. -/
def vcGV (V : Ctx → Prop) (all : List Oper) (o : Oper) (Γ : Ctx) (K : Ctx → Prop) : Prop :=
 match o.guard with
 | none => V Γ
 | some (j, want) => match nthO j all with
  | none => False
  | some oj => match oj.dst with
   | none => False
   | some t => match Γ.get t with
    | .pv _ .bool c => spl c
      (fun _ => Γ.on (some t) (.pv [] .bool true) fun Γ => match want with | true => V Γ | false => Γ.on o.dst .nilT K)
      (fun _ => Γ.on (some t) (.pv [] .bool false) fun Γ => match want with | true => Γ.on o.dst .nilT K | false => V Γ)
    | .nilT => Γ.on o.dst .nilT K
    | _ => False
def vcG (all : List Oper) (o : Oper) (Γ : Ctx) (K : Ctx → Prop) : Prop := vcGV (fun Γ => vcOp M T C o Γ K) all o Γ K
def vcOps (all : List Oper) : List Oper → Ctx → (Ctx → Prop) → Prop
 | [], Γ, K => K Γ
 | o :: l, Γ, K => vcG M T C all o Γ fun Γ => vcOps all l Γ K
/-- operations that only read, ahead of the others -/
def vcHead (all : List Oper) : Nat → List Oper → Ctx → (List Oper → Ctx → Prop) → Prop
 | 0, l, Γ, K => K l Γ
 | _ + 1, [], Γ, K => K [] Γ
 | n + 1, o :: l, Γ, K => match isRd o.op with
  | true => vcG M T C all o Γ fun Γ => vcHead all n l Γ K
  | false => False
end
section
variable {P : Program} {T : Tab} {C : FuncId → Option Con} {Bb : Nat → Prop} {w0 : World} {O0 : List Nat} {av : List Value} {Γ Γ' : Ctx} {a : Act} {w w' : World} {β : Nat → Value} {F : Nat → List Nat} {K : Ctx → Prop} {o : Oper} {Q : Exit → Act → World → Prop}
theorem nthO_eq : ∀ (n : Nat) (l : List Oper), nthO n l = l[n]?
 | n, [] => by cases n <;> rfl
 | 0, o :: l => rfl
 | n + 1, o :: l => by rw [nthO, nthO_eq n l]; rfl
/-- What one guarded operation is to give. -/
def Guarded (P : Program) (ops : Array Oper) (o : Oper) (a : Act) (w : World) (N : Act → World → Prop) (run : Prop) : Prop :=
 (Region.wanted o (yielded ops a.tmps) = true ∧ run) ∨ (Region.wanted o (yielded ops a.tmps) = false ∧ N (a.put o.dst undef) w)
theorem guard_okV {V : Ctx → Prop} {all : List Oper} (S : Sim Bb w0 O0 av Γ a w β F) (hk : vcGV V all o Γ K) :
  (Region.wanted o (yielded all.toArray a.tmps) = true ∧ ∃ Γ', Sim Bb w0 O0 av Γ' a w β F ∧ V Γ') ∨ (Region.wanted o (yielded all.toArray a.tmps) = false ∧ Nx Bb w0 O0 av K (a.put o.dst undef) w) := by
 unfold vcGV at hk
 split at hk
 ·rename_i hg; exact .inl ⟨by simp [Region.wanted, hg], Γ, S, hk⟩
 ·rename_i j want hg
  split at hk
  ·exact hk.elim
  rename_i oj hj
  rw [nthO_eq] at hj
  split at hk
  ·exact hk.elim
  rename_i t ht
  split at hk
  ·rename_i d c hgt
   have hs := S.get t
   rw [hgt] at hs
   have hc : a.eval (.tmp t) = .bool c := slot_bool hs
   have hy : ∀ b, c = b → Region.wanted o (yielded all.toArray a.tmps) = (b == want) := by
    intro b hb
    have h2 : a.tmps.getD t undef = .bool c := hc
    have h3 : a.tmps[t]? = some (.bool c) := by
     rcases Nat.lt_or_ge t a.tmps.size with h | h
     ·simpa [Array.getD_eq_getD_getElem?, h] using h2
     ·simp [Array.getD_eq_getD_getElem?, Array.getElem?_eq_none h, undef] at h2
    have h1 : yielded all.toArray a.tmps j = some c := by
     unfold yielded; simp [hj, ht, h3, h2]
    unfold Region.wanted
    rw [hg]
    simp only [h1, hb]
    cases b <;> cases want <;> rfl
   have self : ∀ b, c = b → a.put (some t) (.bool b) = a := by
    intro b hb
    have hin : t < a.tmps.size := by
     rcases Nat.lt_or_ge t a.tmps.size with h | h
     ·exact h
     ·have h2 : a.tmps.getD t undef = .bool c := hc
      simp [Array.getD_eq_getD_getElem?, Array.getElem?_eq_none h, undef] at h2
    have h2 : a.tmps.getD t undef = .bool b := by rw [← hb]; exact hc
    have h3 : a.tmps[t] = .bool b := by simpa [Array.getD_eq_getD_getElem?, hin] using h2
    have : a.tmps.setIfInBounds t (.bool b) = a.tmps := by
     apply Array.ext_getElem?
     intro i
     rw [Array.getElem?_setIfInBounds]
     split
     ·rename_i hi; subst hi; simp [hin, h3]
     ·rfl
    show ({ a with tmps := a.tmps.setIfInBounds t (.bool b) } : Act) = a
    rw [this]
   have hole : ∀ (Γ1 : Ctx), Sim Bb w0 O0 av Γ1 a w β F → Γ1.on o.dst .nilT K → Nx Bb w0 O0 av K (a.put o.dst undef) w := by
    intro Γ1 S1 h
    unfold Ctx.on at h
    split at h
    ·rename_i Γ2 e; exact ⟨Γ2, β, F, h, S1.put (v := .nilT) (x := undef) (.inl ⟨rfl, [], rfl, show TupR _ _ _ .nilT [] from rfl⟩) e⟩
    ·exact h.elim
   rcases spl_cases hk with ⟨hb, hk⟩ | ⟨hb, hk⟩
   ·unfold Ctx.on at hk
    split at hk
    ·rename_i Γ1 e1
     have S1 : Sim Bb w0 O0 av Γ1 a w β F := by have := S.put (x := .bool true) mk_bool e1; rw [self true hb] at this; exact this
     cases want with
     | true => exact .inl ⟨hy true hb, Γ1, S1, hk⟩
     | false => exact .inr ⟨hy true hb, hole Γ1 S1 hk⟩
    ·exact hk.elim
   ·unfold Ctx.on at hk
    split at hk
    ·rename_i Γ1 e1
     have S1 : Sim Bb w0 O0 av Γ1 a w β F := by have := S.put (x := .bool false) mk_bool e1; rw [self false hb] at this; exact this
     cases want with
     | true => exact .inr ⟨hy false hb, hole Γ1 S1 hk⟩
     | false => exact .inl ⟨hy false hb, Γ1, S1, hk⟩
    ·exact hk.elim
  ·rename_i hgt
   have hs := S.get t
   rw [hgt] at hs
   have hu : a.tmps.getD t undef = .tuple #[] := by
    rcases hs with ⟨_, l, e, h⟩ | ⟨h, _⟩
    ·have h' : l = [] := h
     subst h'; exact e
    ·cases h
   refine .inr ⟨?_, ?_⟩
   ·have h1 : yielded all.toArray a.tmps j = none := by
     unfold yielded; simp [hj, ht, hu]
     rcases Nat.lt_or_ge t a.tmps.size with h | h
     ·have : a.tmps[t] = .tuple #[] := by simpa [Array.getD_eq_getD_getElem?, h] using hu
      simp [Array.getElem?_eq_getElem h, this]
     ·simp [Array.getElem?_eq_none h]
    unfold Region.wanted
    rw [hg]
    simp only [h1]
    cases want <;> rfl
   ·unfold Ctx.on at hk
    split at hk
    ·rename_i Γ2 e; exact ⟨Γ2, β, F, hk, S.put (v := .nilT) (x := undef) (.inl ⟨rfl, [], rfl, show TupR _ _ _ .nilT [] from rfl⟩) e⟩
    ·exact hk.elim
  ·exact hk.elim
theorem guard_ok {all : List Oper} (S : Sim Bb w0 O0 av Γ a w β F) (hk : vcG real T C all o Γ K) :
  (Region.wanted o (yielded all.toArray a.tmps) = true ∧ ∃ Γ', Sim Bb w0 O0 av Γ' a w β F ∧ vcOp real T C o Γ' K) ∨ (Region.wanted o (yielded all.toArray a.tmps) = false ∧ Nx Bb w0 O0 av K (a.put o.dst undef) w) := guard_okV S hk
theorem sound_ops (hT : TabOk P T) (hC : ConsOk P C) {all : List Oper} : ∀ {l : List Oper} {Γ : Ctx} {a : Act} {w : World} {β : Nat → Value} {F : Nat → List Nat}, Sim Bb w0 O0 av Γ a w β F → vcOps real T C all l Γ K → (∀ a' w', Nx Bb w0 O0 av K a' w' → Q .normal a' w') → wpList P all.toArray Q l a w
 | [], Γ, a, w, β, F, S, hk, hq => hq a w ⟨Γ, β, F, hk, S⟩
 | o :: l, Γ, a, w, β, F, S, hk, hq => by
  refine wpList_step fun N hN => ?_
  have cont : ∀ a' w', Nx Bb w0 O0 av (fun Γ => vcOps real T C all l Γ K) a' w' → N a' w' := fun a' w' ⟨Γ', β', F', h1, h2⟩ => hN a' w' (sound_ops hT hC h2 h1 hq)
  rcases guard_ok S hk with ⟨h1, Γ', S', h2⟩ | ⟨h1, h2⟩
  ·rw [if_pos h1]
   exact Oper.wp_mono' cont (sound_op hT hC S' h2)
  ·rw [if_neg (by rw [h1]; exact Bool.false_ne_true)]
   exact cont _ _ h2
where
 Oper.wp_mono' {P : Program} {o : Oper} {a : Act} {w : World} {N N' : Act → World → Prop} {Q : Exit → Act → World → Prop} (h : ∀ a w, N a w → N' a w) (hh : o.wp P a w N Q) : o.wp P a w N' Q := Go.Oper.wp_mono h hh
end
end Go.Proofs.YtmjeghlfmhbjdaaDoor.Eng

/- The engine: operations that look at no memory, ahead of the others in a drawn region. No condition. -/
namespace Go.Proofs.YtmjeghlfmhbjdaaDoor.Eng
open Go.RowKit
set_option linter.unusedVariables false
set_option linter.unusedSimpArgs false
/-- What the memory does not matter to. -/
def Sure {α : Type} (P : Program) (s : Sem α) : Prop := ∀ w x w1, s.run P w = .ok x w1 → w1 = w ∧ ∀ w', s.run P w' = .ok x w'
def Never {α : Type} (P : Program) (s : Sem α) : Prop := ∀ w x w1, s.run P w ≠ .ok x w1
section
variable {P : Program}
theorem Never.sure {α : Type} {s : Sem α} (h : Never P s) : Sure P s := fun w x w1 e => absurd e (h w x w1)
theorem Sure.pure {α : Type} (x : α) : Sure P (pure x : Sem α) := fun w y w1 e => by
 have e' : Result.ok x w = Result.ok y w1 := e
 cases e'; exact ⟨rfl, fun _ => rfl⟩
theorem run_bind_inv {α γ : Type} {s : Sem α} {k : α → Sem γ} {w w1 : World} {x : γ} (e : (s.bind k).run P w = .ok x w1) : ∃ y w2, s.run P w = .ok y w2 ∧ (k y).run P w2 = .ok x w1 := by
 have e' : (s.run P w).andThen (fun y w2 => (k y).run P w2) = .ok x w1 := by rw [← e]; exact (Sem.run_bind ..).symm
 cases hs : s.run P w with
 | ok y w2 => rw [hs] at e'; exact ⟨y, w2, rfl, e'⟩
 | halt h w2 => rw [hs] at e'; cases e'
theorem Sure.bind {α γ : Type} {s : Sem α} {k : α → Sem γ} (hs : Sure P s) (hk : ∀ x, Sure P (k x)) : Sure P (s >>= k) := fun w x w1 e => by
 obtain ⟨y, w2, e1, e2⟩ := run_bind_inv (show (s.bind k).run P w = .ok x w1 from e)
 obtain ⟨rfl, h1⟩ := hs w y w2 e1
 obtain ⟨rfl, h2⟩ := hk y w2 x w1 e2
 refine ⟨rfl, fun w' => ?_⟩
 show (s.bind k).run P w' = _
 rw [run_bind_ok (h1 w')]; exact h2 w'
theorem Never.bind {α γ : Type} {s : Sem α} {k : α → Sem γ} (hk : ∀ x, Never P (k x)) : Never P (s >>= k) := fun w x w1 e => by
 obtain ⟨y, w2, e1, e2⟩ := run_bind_inv (show (s.bind k).run P w = .ok x w1 from e)
 exact hk y w2 x w1 e2
theorem Never.halt {α : Type} (h : Halt) : Never P (.halt h : Sem α) := fun w x w1 e => by cases e
theorem Sure.halt {α : Type} (h : Halt) : Sure P (.halt h : Sem α) := (Never.halt h).sure
theorem Sure.program : Sure P program := fun w x w1 e => by
 have e' : Result.ok P w = Result.ok x w1 := e
 cases e'; exact ⟨rfl, fun _ => rfl⟩
theorem Sure.info (t : TypeId) : Sure P (typeInfo t) := by
 unfold typeInfo
 refine Sure.bind Sure.program fun p => ?_
 split
 ·exact Sure.pure _
 ·exact Sure.halt _
theorem Sure.under (t : TypeId) : Sure P (underlying t) := by
 unfold underlying
 refine Sure.bind Sure.program fun p => ?_
 split
 ·exact Sure.pure _
 ·exact Sure.halt _
theorem Sure.size (t : TypeId) : Sure P (sizeOf t) := by
 unfold sizeOf
 exact Sure.bind (Sure.info t) fun i => Sure.pure _
theorem Never.bounds {α : Type} (k : IntKind) (x y : Int) (c : BoundsCode) : Never P (boundsPanic k x y c : Sem α) := by
 have h : ∀ b, Never P (runtimePanic (.bounds (IntKind.i64.wrap x) y b c) : Sem α) := fun b w z w1 e => by cases e
 unfold boundsPanic
 (dsimp +zeta +zetaHave only)
 split
 ·exact Never.bind fun b => h b
 ·exact Never.bind fun b => h b
theorem Sure.asBool (v : Value) : Sure P (asBool v) := by
 unfold Go.asBool
 split <;> first | exact Sure.pure _ | exact Sure.halt _
theorem Sure.unary (v : Value) : Sure P (Op.unary .not v) := by
 unfold Op.unary
 split <;> first | exact Sure.pure _ | exact Sure.halt _ | (rename_i h; cases h)
theorem Sure.asIntOf (v : Value) : Sure P (asIntOf v) := by
 unfold Go.asIntOf; (repeat' (first | exact Sure.pure _ | exact Sure.halt _ | exact Sure.under _ | exact Sure.size _ | exact Sure.info _ | exact Sure.program | exact (Never.bounds _ _ _ _).sure | (refine Sure.bind ?_ fun _ => ?_) | split | (dsimp +zeta +zetaHave only)))
theorem Sure.bound (v : Value) (y : Nat) (c : BoundsCode) : Sure P (Instr.sliceBound v y c) := by
 unfold Instr.sliceBound
 refine Sure.bind (Sure.asIntOf v) fun p => ?_
 (repeat' (first | exact Sure.pure _ | exact Sure.halt _ | exact Sure.under _ | exact Sure.size _ | exact Sure.info _ | exact Sure.program | exact (Never.bounds _ _ _ _).sure | (refine Sure.bind ?_ fun _ => ?_) | split | (dsimp +zeta +zetaHave only)))
theorem Sure.bounds (b : Bool) (l c : Nat) (lo hi mx : Option Value) : Sure P (Instr.sliceBounds b l c lo hi mx) := by
 unfold Instr.sliceBounds
 repeat' (first | exact Sure.bound _ _ _ | exact Sure.pure _ | exact Sure.halt _ | (refine Sure.bind ?_ fun _ => ?_) | split | (dsimp +zeta +zetaHave only))
theorem Sure.addr (v : Value) : Sure P (Instr.sureAddr v) := by
 unfold Instr.sureAddr; (repeat' (first | exact Sure.pure _ | exact Sure.halt _ | exact Sure.under _ | exact Sure.size _ | exact Sure.info _ | exact Sure.program | exact (Never.bounds _ _ _ _).sure | (refine Sure.bind ?_ fun _ => ?_) | split | (dsimp +zeta +zetaHave only)))
theorem Sure.slice (t : TypeId) (v : Value) (lo hi : Option Value) (hv : ∀ a, v ≠ .pointer a) : Sure P (Instr.slice t v lo hi none) := by
 unfold Instr.slice
 refine Sure.bind (Sure.under t) fun d => ?_
 split
 ·(dsimp +zeta +zetaHave only)
  simp only [Option.isSome_none, Bool.false_eq_true, if_false]
  repeat' (first | exact Sure.bounds _ _ _ _ _ _ | exact Sure.pure _ | exact Sure.halt _ | (refine Sure.bind ?_ fun _ => ?_) | split | (dsimp +zeta +zetaHave only))
 ·repeat' (first | exact Sure.bounds _ _ _ _ _ _ | exact Sure.size _ | exact Sure.pure _ | exact Sure.halt _ | (refine Sure.bind ?_ fun _ => ?_) | split | (dsimp +zeta +zetaHave only))
 ·refine Never.sure fun w x w1 e => ?_
  rename_i arr
  have : ∀ w x w1, (asAddr v).run P w ≠ .ok x w1 := by
   intro w x w1 e
   unfold asAddr at e
   split at e <;> first | (cases e; done) | exact hv _ rfl
  obtain ⟨y, w2, e1, _⟩ := run_bind_inv e
  exact this _ _ _ e1
 ·exact Sure.halt _
theorem Sure.sliceAt (t : TypeId) (v : Value) (lo hi : Option Value) (hv : ∀ a, v ≠ .pointer a) : Sure P (Instr.sliceAt t v lo hi none) := by
 unfold Instr.sliceAt
 refine Sure.bind (Sure.under t) fun d => ?_
 split
 ·repeat' (first | exact Sure.bounds _ _ _ _ _ _ | exact Sure.addr _ | exact Sure.size _ | exact Sure.pure _ | exact Sure.halt _ | (refine Sure.bind ?_ fun _ => ?_) | split | (dsimp +zeta +zetaHave only))
 ·exact Sure.slice _ _ _ _ hv
theorem Sure.shift (op : BinOp) (k k' : IntKind) (x y : Int) : Sure P (Op.shift op k x k' y) := by
 unfold Op.shift
 split
 ·exact Never.sure (fun w z w1 e => by cases e)
 ·(dsimp +zeta +zetaHave only)
  split <;> first | exact Sure.pure _ | exact Sure.halt _
theorem Sure.div (op : BinOp) (k : IntKind) (x y : Int) : Sure P (Op.intDiv op k x y) := by
 unfold Op.intDiv
 split
 ·exact Never.sure (fun w z w1 e => by cases e)
 ·split <;> first | exact Sure.pure _ | exact Sure.halt _
theorem Sure.bin (op : BinOp) (t : TypeId) (k k' : IntKind) (x y : Int) : Sure P (binOp op t (.int k x) (.int k' y)) := by
 cases op <;> (unfold binOp; simp only []) <;> repeat' first | exact Sure.shift _ _ _ _ _ | exact Sure.div _ _ _ _ | exact Sure.pure _ | exact Sure.halt _ | split | unfold Op.intArith | unfold Op.intBits | unfold Op.intCmp
/-- An operation whose value the memory does not matter to. -/
def isIntV : SV → Bool
 | .pv _ (.int _) _ => true
 | _ => false
def isSlV : SV → Bool
 | .pv _ (.sl _) _ => true
 | .pv _ .str _ => true
 | _ => false
def nowOk (Γ : Ctx) (o : Oper) : Bool := match o.op with
  | .move _ => true
  | .assign _ => true
  | .pick _ _ _ => true
  | .unOp .not _ _ => true
  | .binOp _ _ x y _ => isIntV (Γ.eval x) && isIntV (Γ.eval y)
  | .slice _ x _ _ none => isSlV (Γ.eval x)
  | .fieldAddr _ _ _ => true
  | _ => false
end
section
variable {P : Program} {T : Tab} {C : FuncId → Option Con} {Bb : Nat → Prop} {w0 : World} {O0 : List Nat} {av : List Value} {Γ Γ' : Ctx} {a : Act} {w w' : World} {β : Nat → Value} {F : Nat → List Nat} {K : Ctx → Prop} {o : Oper} {Q : Exit → Act → World → Prop}
theorem sure_v {s : Sem Value} (h : Sure P s) : Sure P (do pure (Next.value (← s)) : Sem Next) := Sure.bind h fun _ => Sure.pure _
theorem isIntV_ok {v : SV} {x : Value} (h : isIntV v = true) (s : SlotR (hp w) (ZdOf Bb F Γ.roots) β v x) : ∃ k n, x = .int k n := by
 unfold isIntV at h
 split at h
 ·exact ⟨_, _, (slot_int s).1⟩
 ·cases h
theorem isSlV_ok {v : SV} {x : Value} (h : isSlV v = true) (s : SlotR (hp w) (ZdOf Bb F Γ.roots) β v x) : ∀ a, x ≠ .pointer a := by
 unfold isSlV at h
 split at h
 ·obtain ⟨cs, ⟨A, c, rfl, _⟩, ex⟩ := slot_pv s
  intro a e
  have ex' : x = .slice A _ c := ex
  rw [ex'] at e; cases e
 ·intro a e; rw [(slot_str s).1] at e; cases e
 ·cases h
theorem now_sure (S : Sim Bb w0 O0 av Γ a w β F) (h : nowOk Γ o = true) : Sure P (execOp a.eval o) ∨ ∃ t x n, o.op = .fieldAddr t x n := by
 unfold nowOk at h
 split at h
 ·rename_i x ho; left; unfold execOp; rw [ho]; exact Sure.pure _
 ·rename_i x ho; left; unfold execOp; rw [ho]; exact Sure.pure _
 ·rename_i c x y ho; left; unfold execOp; rw [ho]; repeat' (first | exact Sure.asBool _ | exact Sure.pure _ | exact Sure.halt _ | (refine Sure.bind ?_ fun _ => ?_) | split | (dsimp +zeta +zetaHave only))
 ·rename_i t x ho; left; unfold execOp; rw [ho]; repeat' (first | exact Sure.unary _ | exact Sure.pure _ | exact Sure.halt _ | exact Sure.under _ | (refine Sure.bind ?_ fun _ => ?_) | split | (dsimp +zeta +zetaHave only))
 ·rename_i op t x y ty ho
  left
  simp only [Bool.and_eq_true] at h
  obtain ⟨k, n, e1⟩ := isIntV_ok h.1 (S.eval x)
  obtain ⟨k', n', e2⟩ := isIntV_ok h.2 (S.eval y)
  have e : execOp a.eval o = (do pure (Next.value (← (do eqGuard op t x y (a.eval x) (a.eval y); binOp op t (a.eval x) (a.eval y) : Sem Value))) : Sem Next) := by unfold execOp; rw [ho]
  rw [e, e1, e2]
  refine sure_v (Sure.bind ?_ fun _ => Sure.bin _ _ _ _ _ _)
  unfold eqGuard
  repeat' (first | exact Sure.pure _ | split | (dsimp +zeta +zetaHave only))
 ·rename_i t x lo hi ho
  left
  have e : execOp a.eval o = (do pure (Next.value (← Instr.sliceAt t (a.eval x) (lo.map a.eval) (hi.map a.eval) none)) : Sem Next) := by unfold execOp; rw [ho]; rfl
  rw [e]
  exact sure_v (Sure.sliceAt _ _ _ _ (isSlV_ok h (S.eval x)))
 ·rename_i t x n ho; exact .inr ⟨t, x, n, ho⟩
 ·cases h
theorem field_sure (hT : TabOk P T) (S : Sim Bb w0 O0 av Γ a w β F) {t : TypeId} {x : Operand} {n : Nat} (ho : o.op = .fieldAddr t x n) (hk : opFieldAddr T Γ o.dst K t (Γ.eval x) n) : Sure P (execOp a.eval o) := by
 have hx := S.eval x
 have e0 : execOp a.eval o = (do pure (Next.value (← Instr.fieldAt t (a.eval x) n)) : Sem Next) := by unfold execOp; rw [ho]
 have main : ∀ {z : Value}, (∀ w', (Instr.fieldAt t (a.eval x) n).run P w' = .ok z w') → Sure P (execOp a.eval o) := fun hz => by
  rw [e0]
  refine sure_v fun w1 y w2 e => ?_
  rw [hz w1] at e
  cases e
  exact ⟨rfl, hz⟩
 unfold opFieldAddr at hk
 split at hk
 ·exact hk.elim
 rename_i s hs
 split at hk
 ·exact hk.elim
 rename_i u hu
 split at hk
 ·exact hk.elim
 rename_i hz
 split at hk
 ·rename_i dp e xs i p hxe
  rw [hxe] at hx
  split at hk
  ·obtain ⟨cs, ⟨h0, h1, b, off, arr, ty, fz, hzd, hb, hl, hr, ec⟩, ex⟩ := slot_one hx rfl (by simp)
   subst ec
   have ex' : a.eval x = .pointer (some ⟨b, off + i.toNat * e.sz + offAt e p, none⟩) := ex
   exact main fun w' => by rw [ex']; exact run_field (hT.ty _ _ hs) hu hz
  ·exact hk.elim
 ·rename_i r e i p hxe
  rw [hxe] at hx
  split at hk
  ·obtain ⟨cs, ⟨b, off, hb, ec⟩, ex⟩ := slot_one hx rfl (by simp)
   subst ec
   have ex' : a.eval x = .pointer (some ⟨b, off + i.toNat * e.sz + offAt e p, none⟩) := ex
   exact main fun w' => by rw [ex']; exact run_field (hT.ty _ _ hs) hu hz
  ·exact hk.elim
 ·exact hk.elim
section
variable (M : Mth) (T : Tab) (C : FuncId → Option Con)
def vcNow0 (o : Oper) (Γ : Ctx) (K : Ctx → Prop) : Prop := match nowOk Γ o with
 | true => match o.op with
  | .fieldAddr t x n => opFieldAddr T Γ o.dst K t (Γ.eval x) n
  | _ => vcOp M T C o Γ K
 | false => False
def vcNow (all : List Oper) (o : Oper) (Γ : Ctx) (K : Ctx → Prop) : Prop := vcGV (fun Γ => vcNow0 M T C o Γ K) all o Γ K
end
/-- An operation that the memory does not matter to, done at once. -/
theorem sound_now0 (hT : TabOk P T) (S : Sim Bb w0 O0 av Γ a w β F) (hk : vcNow0 real T C o Γ K) : ∃ x, (∀ w, (execOp a.eval o).run P w = .ok (.value x) w) ∧ Nx Bb w0 O0 av K (a.put o.dst x) w := by
 unfold vcNow0 at hk
 split at hk
 case h_2 => exact hk.elim
 rename_i hn
 have fin : Sure P (execOp a.eval o) → Reads P o a w (Nx Bb w0 O0 av K) → ∃ x, (∀ w, (execOp a.eval o).run P w = .ok (.value x) w) ∧ Nx Bb w0 O0 av K (a.put o.dst x) w := by
  rintro hs ⟨x, h1, h2⟩
  exact ⟨x, (hs _ _ _ h1).2, h2⟩
 split at hk
 ·rename_i t x n ho
  exact fin (field_sure hT S ho hk) (sound_fieldAddr hT S ho hk)
 ·rename_i hne
  refine fin ?_ (sound_rd hT S ?_ hk)
  ·rcases now_sure S hn with h | ⟨t, x, n, ho⟩
   ·exact h
   ·exact absurd ho (hne t x n)
  ·unfold nowOk at hn
   split at hn <;> first | (rename_i ho; rw [ho]; rfl) | cases hn
theorem sound_now (hT : TabOk P T) {all : List Oper} (S : Sim Bb w0 O0 av Γ a w β F) (hk : vcNow real T C all o Γ K) : ∃ x, Yields P all.toArray o x a ∧ Nx Bb w0 O0 av K (a.put o.dst x) w := by
 rcases guard_okV S hk with ⟨h1, Γ', S', h2⟩ | ⟨h1, h2⟩
 ·obtain ⟨x, h3, h4⟩ := sound_now0 hT S' h2
  exact ⟨x, .inl ⟨h1, h3⟩, h4⟩
 ·exact ⟨undef, .inr ⟨h1, rfl⟩, h2⟩
end
end Go.Proofs.YtmjeghlfmhbjdaaDoor.Eng

/- The engine, part 21: code. No condition. -/
namespace Go.Proofs.YtmjeghlfmhbjdaaDoor.Eng
open Go.RowKit
set_option linter.unusedVariables false
set_option linter.unusedSimpArgs false

/-! ### what is kept -/
def refsOf : SV → List Nat → List Nat
 | .ref r, acc => r :: acc
 | .ad r _ _ _, acc => r :: acc
 | .pv d _ _, acc => d ++ acc
 | .fad d _ _ _ _, acc => d ++ acc
 | .consA a b, acc => refsOf a (refsOf b acc)
 | .consT a b, acc => refsOf a (refsOf b acc)
 | .arp r _ _, acc => r :: acc
 | .vw r _ _ _, acc => r :: acc
 | .ifs _ _ v, acc => refsOf v acc
 | _, acc => acc
def refsS : List (Nat × SV) → List Nat → List Nat
 | [], acc => acc
 | (_, v) :: l, acc => refsOf v (refsS l acc)
def refsA : List SV → List Nat → List Nat
 | [], acc => acc
 | v :: l, acc => refsOf v (refsA l acc)
def refsC (ids : List Nat) : List (Nat × Ch) → List Nat → List Nat
 | [], acc => acc
 | (r, .box v) :: l, acc => match mem r ids with
  | true => refsOf v (refsC ids l acc)
  | false => refsC ids l acc
 | (_, .row _ _ _) :: l, acc => refsC ids l acc
 | (_, .iter _ _) :: l, acc => refsC ids l acc
 | (_, .mp _ _ _) :: l, acc => refsC ids l acc
 | (r, .glob _) :: l, acc => r :: refsC ids l acc
def pickS (slots : List (Nat × SV)) : List Nat → List (Nat × SV)
 | [] => []
 | n :: l => match look n slots with
  | some (.hole _) => pickS slots l
  | some v => (n, v) :: pickS slots l
  | none => pickS slots l
def insR (r : Nat) (c : Ch) : List (Nat × Ch) → List (Nat × Ch)
 | [] => [(r, c)]
 | (q, d) :: l => match Nat.blt r q with
  | true => (r, c) :: (q, d) :: l
  | false => (q, d) :: insR r c l
def gcR (ids : List Nat) : List (Nat × Ch) → List (Nat × Ch)
 | [] => []
 | (r, c) :: l => match mem r ids with
  | true => insR r c (gcR ids l)
  | false => gcR ids l
def keep (lv : List Nat) (Γ : Ctx) : Ctx :=
 let s := pickS Γ.slots lv
 let i0 := refsS s (refsA Γ.anch [])
 let i1 := refsC i0 Γ.roots i0
 let i2 := refsC i1 Γ.roots i1
 ⟨Γ.nt, s, gcR i2 Γ.roots, Γ.anch⟩
section
variable {Bb : Nat → Prop} {w0 : World} {O0 : List Nat} {av : List Value} {Γ Γ' : Ctx} {a : Act} {w w' : World} {β : Nat → Value} {F : Nat → List Nat}
theorem mem_pickS {slots : List (Nat × SV)} {n : Nat} {v : SV} : ∀ {l : List Nat}, (n, v) ∈ pickS slots l → (n, v) ∈ slots
 | [], h => by cases h
 | m :: l, h => by
  unfold pickS at h
  split at h
  ·exact mem_pickS h
  ·rename_i u _ hu
   rcases List.mem_cons.1 h with h | h
   ·injection h with h1 h2; subst h1; subst h2; exact look_mem hu
   ·exact mem_pickS h
  ·exact mem_pickS h
theorem insR_perm {r : Nat} {c : Ch} : ∀ {l : List (Nat × Ch)}, (insR r c l).Perm ((r, c) :: l)
 | [] => .refl _
 | (q, d) :: l => by
  unfold insR; split
  ·exact .refl _
  ·exact (List.Perm.cons _ insR_perm).trans (List.Perm.swap _ _ _)
theorem gcR_sub {ids : List Nat} : ∀ {l : List (Nat × Ch)}, ∃ l', (gcR ids l).Perm l' ∧ l'.Sublist l
 | [] => ⟨[], .refl _, .refl _⟩
 | (r, c) :: l => by
  obtain ⟨l', h1, h2⟩ := gcR_sub (ids := ids) (l := l)
  unfold gcR; split
  ·exact ⟨(r, c) :: l', insR_perm.trans (List.Perm.cons _ h1), h2.cons_cons _⟩
  ·exact ⟨l', h1, h2.cons _⟩
/-- Some roots are let go. -/
theorem Sim.sub {S' : List (Nat × SV)} {R' : List (Nat × Ch)} (S : Sim Bb w0 O0 av Γ a w β F) (hs : ∀ p ∈ S', p ∈ Γ.slots) (hr : ∀ p ∈ R', p ∈ Γ.roots) (hi : (R'.map (·.1)).Nodup) : Sim Bb w0 O0 av ⟨Γ.nt, S', R', Γ.anch⟩ a w β F := by
 have hin : ∀ r ∈ R'.map (·.1), r ∈ Γ.roots.map (·.1) := fun r hr' => by
  obtain ⟨p, h1, rfl⟩ := List.mem_map.1 hr'; exact List.mem_map.2 ⟨p, hr p h1, rfl⟩
 have hO : ∀ b ∈ allO F R', b ∈ allO F Γ.roots := fun b hb => by
  obtain ⟨r, h1, h2⟩ := mem_allO.1 hb; exact mem_allO.2 ⟨r, hin r h1, h2⟩
 have hz : ∀ d b, ZdOf Bb F Γ.roots d b → ZdOf Bb F R' d b := by
  intro d b hz
  rcases hz with hz | ⟨r, r1, r2, r3⟩
  ·exact .inl ⟨fun h => hz.1 (hO b h), hz.2⟩
  ·by_cases h : r ∈ R'.map (·.1)
   ·exact .inr ⟨r, r1, h, r3⟩
   ·refine .inl ⟨fun hb => ?_, S.base b (S.own b (mem_allO.2 ⟨r, r2, r3⟩)).2⟩
    obtain ⟨q, h1, h2⟩ := mem_allO.1 hb
    have := disj S.ids S.nodup r2 (hin q h1) r3 h2
    subst this; exact h h1
 have S1 : Sim Bb w0 O0 av ⟨Γ.nt, Γ.slots, R', Γ.anch⟩ a w β F := by
  refine S.world (R' := R') (F' := F) (D := fun _ => True) (R := fun _ => True) ⟨fun _ v _ => fit_all v, fun _ v _ => fit_all v, fun v _ => fit_all v⟩ (fun d _ b h _ => ⟨rfl, hz d b h⟩) (fun _ _ => rfl) (fun r c hm => ?_) hi ?_ (fun b hb => S.own b (hO b hb)) S.frm S.bone
  ·exact RootR.mono (D := fun _ => True) (R := fun _ => True) trivial (fun d _ b h _ => ⟨rfl, hz d b h⟩) (fun _ _ => rfl) rfl (fun _ _ => rfl) (fun v _ => fit_all v) (S.roots r c (hr _ hm))
  ·rw [allO_eq]
   exact nodup_flatMap hi (fun r h => nodup_F (hin r h) S.nodup) (fun r h q h' hne b h1 h2 => hne (disj S.ids S.nodup (hin r h) (hin q h') h1 h2))
 exact ⟨S1.size, S1.defers, fun n v hm => S1.slots n v (hs _ hm), S1.roots, S1.anch, S1.ids, S1.nodup, S1.own, S1.frm, S1.bone, S1.base⟩
theorem Sim.keep (lv : List Nat) (S : Sim Bb w0 O0 av Γ a w β F) : Sim Bb w0 O0 av (Eng.keep lv Γ) a w β F := by
 unfold Eng.keep
 refine S.sub (fun p hp => mem_pickS (n := p.1) (v := p.2) hp) (fun p hp => ?_) ?_
 ·obtain ⟨l', h1, h2⟩ := gcR_sub (ids := refsC (refsC (refsS (pickS Γ.slots lv) (refsA Γ.anch [])) Γ.roots (refsS (pickS Γ.slots lv) (refsA Γ.anch []))) Γ.roots (refsC (refsS (pickS Γ.slots lv) (refsA Γ.anch [])) Γ.roots (refsS (pickS Γ.slots lv) (refsA Γ.anch [])))) (l := Γ.roots)
  exact h2.subset (h1.subset hp)
 ·obtain ⟨l', h1, h2⟩ := gcR_sub (ids := refsC (refsC (refsS (pickS Γ.slots lv) (refsA Γ.anch [])) Γ.roots (refsS (pickS Γ.slots lv) (refsA Γ.anch []))) Γ.roots (refsC (refsS (pickS Γ.slots lv) (refsA Γ.anch [])) Γ.roots (refsS (pickS Γ.slots lv) (refsA Γ.anch [])))) (l := Γ.roots)
  exact (h1.map _).nodup_iff.2 ((h2.map _).nodup S.ids)
end

/-! ### what data in memory is -/
def SvWF : SV → Prop
 | .pv _ t x => WF t x
 | .consA a b => SvWF a ∧ SvWF b
 | .ifs _ _ v => SvWF v
 | _ => True
def ChWF : Ch → Prop
 | .row _ e xs => WF (.sl e) xs
 | .box v => SvWF v
 | .iter s _ => s.size ≤ maxL
 | .mp k v xs => WF (.mp k v) (some xs)
 | .glob _ => True
def CtxWF (Γ : Ctx) : Prop := (∀ p ∈ Γ.slots, SvWF p.2) ∧ ∀ p ∈ Γ.roots, ChWF p.2
section
variable {Bb : Nat → Prop} {w0 : World} {O0 : List Nat} {av : List Value} {Γ Γ' : Ctx} {a : Act} {w w' : World} {β : Nat → Value} {F : Nat → List Nat}
theorem SVc.wf {h : Hp} {Zd : List Nat → Nat → Prop} : ∀ {v : SV} {cs : List Value}, SVc h Zd β v cs → SvWF v
 | .hole n, cs, o => trivial
 | .pv d t x, cs, o => Own.wf (show Own h (Zd d) t 0 [] cs x from o)
 | .nils, cs, o => trivial
 | .ref q, cs, o => trivial
 | .ad q e i p, cs, o => trivial
 | .fad d e xs i p, cs, o => trivial
 | .nilA, cs, o => trivial
 | .consA a b, cs, ⟨c1, c2, e, o1, o2⟩ => ⟨SVc.wf o1, SVc.wf o2⟩
 | .nilT, _, _ => trivial
 | .consT _ _, _, _ => trivial
 | .nilI, _, _ => trivial | .nilP, _, _ => trivial | .nilM, _, _ => trivial | .arp _ _ _, _, _ => trivial | .vw _ _ _ _, _, _ => trivial | .gl _, _, _ => trivial | .fn _, _, _ => trivial
 | .ifs _ _ v, _, ⟨_, _, o⟩ => SVc.wf (v := v) o
theorem Sim.wf (S : Sim Bb w0 O0 av Γ a w β F) : CtxWF Γ := by
 constructor
 ·rintro ⟨n, v⟩ hm
  obtain ⟨x, _, h⟩ := S.slots n v hm
  rcases h with ⟨ht, _⟩ | ⟨_, ⟨m, rfl⟩ | ⟨cs, h, _⟩⟩
  ·cases v <;> first | trivial | cases ht
  ·trivial
  ·exact SVc.wf h
 ·rintro ⟨r, c⟩ hm
  have := S.roots r c hm
  cases c with
  | row l e xs => exact Own.wf (show Own _ _ (.sl e) (l + 1) _ _ xs from this)
  | box v => obtain ⟨_, _, _, _, _, _, h⟩ := this; exact SVc.wf h
  | iter s p => obtain ⟨b, n, h1, h2, h3, h4, h5⟩ := S.roots r _ hm; exact h5
  | mp k v xs => exact Own.wf (show Own _ _ (.mp k v) 1 _ _ (some xs) from this)
  | glob _ => trivial
end

/-! ### code -/
inductive Ex where
 | normal | exit (n : Nat) | ret
/-- The orders of a drawn region: `alt i t r`: operation i first, then t; or one of r. -/
inductive OT where
 | leaf | nil | alt (i : Nat) (t r : OT) | now (i : Nat) (t : OT) | srt (t : OT)
/-- The slots in the order of their numbers. -/
def insS {α : Type} (n : Nat) (x : α) : List (Nat × α) → List (Nat × α)
 | [] => [(n, x)]
 | (m, y) :: l => match Nat.ble m n with
  | true => (m, y) :: insS n x l
  | false => (n, x) :: (m, y) :: l
def sortS {α : Type} : List (Nat × α) → List (Nat × α)
 | [] => []
 | (n, x) :: l => insS n x (sortS l)
theorem mem_insS {α : Type} {n : Nat} {x : α} {p : Nat × α} : ∀ {l : List (Nat × α)}, p ∈ insS n x l → p = (n, x) ∨ p ∈ l
 | [], h => .inl (by simpa [insS] using h)
 | (k, y) :: l, h => by
  unfold insS at h
  split at h
  ·rcases List.mem_cons.1 h with h | h
   ·exact .inr (by rw [h]; simp)
   ·rcases mem_insS h with h | h
    ·exact .inl h
    ·exact .inr (List.mem_cons_of_mem _ h)
  ·rcases List.mem_cons.1 h with h | h
   ·exact .inl h
   ·exact .inr h
theorem mem_sortS {α : Type} {p : Nat × α} : ∀ {l : List (Nat × α)}, p ∈ sortS l → p ∈ l
 | [], h => h
 | (n, x) :: l, h => by
  rcases mem_insS h with h | h
  ·rw [h]; simp
  ·exact List.mem_cons_of_mem _ (mem_sortS h)
def OT.firsts : OT → List Nat
 | .alt i _ r => i :: r.firsts
 | _ => []
def okT (ops : Array Oper) : OT → Bool → Nat → Array Bool → Bool
 | .leaf, hd, _, listed => hd && (Region.ready .any ops listed).isEmpty
 | .nil, hd, _, _ => !hd
 | .alt i t r, hd, f, listed => match f with
  | 0 => false
  | g + 1 => (!hd || Region.ready .any ops listed == i :: r.firsts) && okT ops t true g (listed.setIfInBounds i true) && okT ops r false (g + 1) listed
 | .srt t, hd, f, listed => okT ops t hd f listed
 | .now i t, hd, f, listed => match f with
  | 0 => false
  | g + 1 => hd && Region.noSelect ops && Region.free .any ops listed i && (Region.ready .any ops listed).contains i && okT ops t true g (listed.setIfInBounds i true)
def DrawOk (ops : Array Oper) (n : Nat) : Prop := (n = ops.size ∧ Region.lexB .any ops = true) ∨ Region.lexTailB .any ops n = true
def vcTree (M : Mth) (T : Tab) (C : FuncId → Option Con) (all : List Oper) : OT → Ctx → (Ctx → Prop) → Prop
 | .leaf, Γ, K => K Γ
 | .nil, _, _ => True
 | .alt i t r, Γ, K => (match nthO i all with
  | some o => vcG M T C all o Γ fun Γ => vcTree M T C all t Γ K
  | none => False) ∧ vcTree M T C all r Γ K
 | .srt t, Γ, K => vcTree M T C all t ⟨Γ.nt, sortS Γ.slots, Γ.roots, Γ.anch⟩ K
 | .now i t, Γ, K => match nthO i all with
  | some o => vcNow M T C all o Γ fun Γ => vcTree M T C all t Γ K
  | none => False
section
variable (M : Mth) (T : Tab) (C : FuncId → Option Con) (lv : Nat → List Nat) (hd : Nat → Nat)
def vc : Code → (Ex → Ctx → Prop) → Ctx → Prop
 | .skip, Q, Γ => Q .normal Γ
 | .ret, Q, Γ => Q .ret Γ
 | .exit n, Q, Γ => Q (.exit n) Γ
 | .seq a b, Q, Γ => vc a (fun e Γ => match e with | .normal => vc b Q Γ | .exit n => Q (.exit n) Γ | .ret => Q .ret Γ) Γ
 | .block id c, Q, Γ => vc c (fun e Γ => match e with | .exit n => match Nat.beq n id with | true => Q .normal Γ | false => Q (.exit n) Γ
                                                      | .normal => Q .normal Γ | .ret => Q .ret Γ) Γ
 | .cond x a b, Q, Γ => match Γ.eval x with
  | .pv _ .bool c => spl c (fun _ => vc a Q Γ) (fun _ => vc b Q Γ)
  | _ => False
 | .region id ops draw, Q, Γ => match draw with
  | false => vcOps M T C ops.toList ops.toList Γ fun Γ => Q .normal (keep (lv id) Γ)
  | true => match hd id with
   | 0 => ∃ t : OT, (True → okT ops t true ops.size (Array.replicate ops.size false) = true) ∧ vcTree M T C ops.toList t Γ fun Γ => Q .normal (keep (lv id) Γ)
   | n + 1 => (True → DrawOk ops (n + 1)) ∧ vcHead M T C ops.toList (n + 1) ops.toList Γ fun l Γ => vcOps M T C ops.toList l Γ fun Γ => Q .normal (keep (lv id) Γ)
 | .scope c, Q, Γ => vc c Q Γ
 | .label _, Q, Γ => Q .normal Γ
 | .loop c, Q, Γ => ∃ I : Nat → Ctx → Prop, (∃ n, I n Γ) ∧ ∀ n Γ, I n Γ → CtxWF Γ → vc c (fun e Γ => match e with | .normal => ∃ m, m < n ∧ I m Γ | .exit n => Q (.exit n) Γ | .ret => Q .ret Γ) Γ
 | _, _, _ => False
end
section
variable {P : Program} {T : Tab} {C : FuncId → Option Con} {lv : Nat → List Nat} {hd : Nat → Nat} {Bb : Nat → Prop} {w0 : World} {O0 : List Nat} {av : List Value}
def ExQ (Bb : Nat → Prop) (w0 : World) (O0 : List Nat) (av : List Value) (Q : Ex → Ctx → Prop) : Exit → Act → World → Prop
 | .normal, a, w => Nx Bb w0 O0 av (Q .normal) a w
 | .exit n, a, w => Nx Bb w0 O0 av (Q (.exit n)) a w
 | .ret, a, w => Nx Bb w0 O0 av (Q .ret) a w
 | _, _, _ => False
theorem sound_head (hT : TabOk P T) (hC : ConsOk P C) {all : List Oper} {w : World} {K : List Oper → Ctx → Prop} : ∀ {n : Nat} {l : List Oper} {Γ : Ctx} {a : Act} {β : Nat → Value} {F : Nat → List Nat} {N : Act → Prop}, Sim Bb w0 O0 av Γ a w β F → vcHead real T C all n l Γ K →
  (∀ a', Nx Bb w0 O0 av (K (l.drop n)) a' w → N a') → wpStill P all.toArray w N (l.take n) a
 | 0, l, Γ, a, β, F, N, S, hk, hn => hn a ⟨Γ, β, F, hk, S⟩
 | n + 1, [], Γ, a, β, F, N, S, hk, hn => hn a ⟨Γ, β, F, hk, S⟩
 | n + 1, o :: l, Γ, a, β, F, N, S, hk, hn => by
  simp only [vcHead] at hk
  split at hk
  ·rename_i hrd
   refine wpStill_step fun N' hN' => ?_
   have cont : ∀ a', Nx Bb w0 O0 av (fun Γ => vcHead real T C all n l Γ K) a' w → N' a' := fun a' ⟨Γ', β', F', h1, h2⟩ => hN' a' (sound_head hT hC h2 h1 hn)
   rcases guard_ok S hk with ⟨h1, Γ', S', h2⟩ | ⟨h1, h2⟩
   ·rw [if_pos h1]
    obtain ⟨x, r1, r2⟩ := sound_rd hT S' hrd h2
    unfold Oper.still
    rw [r1, Oper.stillUpon_value]
    exact cont _ r2
   ·rw [if_neg (by rw [h1]; exact Bool.false_ne_true)]
    exact cont _ h2
  ·exact hk.elim
theorem okT_firsts {ops : Array Oper} : ∀ {t : OT} {f : Nat} {l : Array Bool}, (∀ i u, t ≠ .now i u) → (∀ u, t ≠ .srt u) → okT ops t true f l = true → Region.ready .any ops l = t.firsts
 | .now i t, f, l, hn, _, h => absurd rfl (hn i t)
 | .srt t, f, l, _, hn, h => absurd rfl (hn t)
 | .leaf, f, l, _, _, h => by cases f <;> simpa [okT, OT.firsts] using h
 | .nil, f, l, _, _, h => by cases f <;> simp [okT] at h
 | .alt i t r, 0, l, _, _, h => by simp [okT] at h
 | .alt i t r, f + 1, l, _, _, h => by
  simp only [okT, Bool.not_true, Bool.false_or, Bool.and_eq_true, beq_iff_eq] at h
  exact h.1.1
theorem sound_tree (hT : TabOk P T) (hC : ConsOk P C) {all : List Oper} {K : Ctx → Prop} {Q : Exit → Act → World → Prop} (hP : ∀ c a w, ¬ Q (.panic c) a w) (hq : ∀ a' w', Nx Bb w0 O0 av K a' w' → Q .normal a' w') : ∀ (t : OT) {f : Nat} {listed : Array Bool} {Γ : Ctx} {a : Act} {w : World} {β : Nat → Value} {F : Nat → List Nat},
  Sim Bb w0 O0 av Γ a w β F → vcTree real T C all t Γ K →
  (okT all.toArray t true f listed = true → wpAny P .any all.toArray Q f listed a w) ∧
  ((∃ b, okT all.toArray t b f listed = true) → ∀ g, f = g + 1 → ∀ i ∈ t.firsts, wpOp P all.toArray Q i (wpAny P .any all.toArray Q g (listed.setIfInBounds i true)) a w)
 | .leaf, f, listed, Γ, a, w, β, F, S, hk => by
  refine ⟨fun h => ?_, fun _ g _ i hi => by simp [OT.firsts] at hi⟩
  have hr := okT_firsts (by simp) (by simp) h
  have hqq := hq a w ⟨Γ, β, F, hk, S⟩
  cases f with
  | zero => exact ⟨hr, hqq⟩
  | succ f => exact ⟨fun _ => hqq, fun i hi => by rw [hr] at hi; simp [OT.firsts] at hi⟩
 | .nil, f, listed, Γ, a, w, β, F, S, hk => by
  refine ⟨fun h => by cases f <;> simp [okT] at h, fun _ g _ i hi => by simp [OT.firsts] at hi⟩
 | .alt i t r, f, listed, Γ, a, w, β, F, S, hk => by
  obtain ⟨hk1, hk2⟩ := hk
  have key : (∃ b, okT all.toArray (.alt i t r) b f listed = true) → ∀ g, f = g + 1 → ∀ j ∈ (OT.alt i t r).firsts, wpOp P all.toArray Q j (wpAny P .any all.toArray Q g (listed.setIfInBounds j true)) a w := by
   rintro ⟨b, hb⟩ g rfl j hj
   simp only [okT, Bool.and_eq_true] at hb
   rcases List.mem_cons.1 hj with rfl | hj
   ·rw [nthO_eq] at hk1
    unfold wpOp
    have e0 : all.toArray[j]? = all[j]? := by simp
    rw [e0]
    split at hk1
    ·rename_i o ho
     rw [ho]
     simp only []
     have cont : ∀ a' w', Nx Bb w0 O0 av (fun Γ => vcTree real T C all t Γ K) a' w' → wpAny P .any all.toArray Q g (listed.setIfInBounds j true) a' w' := fun a' w' ⟨Γ', β', F', h1, h2⟩ => (sound_tree hT hC hP hq t h2 h1).1 hb.1.2
     rcases guard_ok S hk1 with ⟨h1, Γ', S', h2⟩ | ⟨h1, h2⟩
     ·rw [if_pos h1]
      exact .inl (Go.Oper.wp_mono cont (sound_op hT hC S' h2))
     ·rw [if_neg (by rw [h1]; exact Bool.false_ne_true)]
      exact cont _ _ h2
    ·exact hk1.elim
   ·exact (sound_tree hT hC hP hq r S hk2).2 ⟨false, hb.2⟩ g rfl j hj
  refine ⟨fun h => ?_, key⟩
  have hr := okT_firsts (by simp) (by simp) h
  cases f with
  | zero => simp [okT] at h
  | succ g => exact ⟨fun h0 => by rw [h0] at hr; simp [OT.firsts] at hr, fun j hj => key ⟨true, h⟩ g rfl j (by rw [← hr]; exact hj)⟩
 | .srt t, f, listed, Γ, a, w, β, F, S, hk => by
  refine ⟨fun h => ?_, fun _ g _ i hi => by simp [OT.firsts] at hi⟩
  have h' : okT all.toArray t true f listed = true := by cases f <;> exact h
  exact (sound_tree hT hC hP hq t (S.sub (fun p hp => mem_sortS hp) (fun p hp => hp) S.ids) hk).1 h'
 | .now i t, f, listed, Γ, a, w, β, F, S, hk => by
  refine ⟨fun h => ?_, fun _ g _ i hi => by simp [OT.firsts] at hi⟩
  cases f with
  | zero => simp [okT] at h
  | succ g =>
   simp only [okT, Bool.and_eq_true] at h
   obtain ⟨⟨⟨⟨_, h1⟩, h2⟩, h3⟩, h4⟩ := h
   unfold vcTree at hk
   rw [nthO_eq] at hk
   split at hk
   ·rename_i o ho
    obtain ⟨x, y1, Γ', β', F', y2, y3⟩ := sound_now (all := all) hT S hk
    exact wpAny_take (oi := o) (by simpa using ho) h1 h2 h3 (fun c a w hq => absurd hq (hP c _ w)) y1 ((sound_tree hT hC hP hq t y3 y2).1 h4)
   ·exact hk.elim
theorem sound_code (hm : P.follows .mixedOrders = true) (hT : TabOk P T) (hC : ConsOk P C) : ∀ {c : Code} {Q : Ex → Ctx → Prop} {Γ : Ctx} {a : Act} {w : World} {β : Nat → Value} {F : Nat → List Nat}, Sim Bb w0 O0 av Γ a w β F → vc real T C lv hd c Q Γ → c.wp P (ExQ Bb w0 O0 av Q) a w := by
 intro c
 induction c with
 | skip => intro Q Γ a w β F S hk; exact wp_skip (Q := ExQ Bb w0 O0 av Q) ⟨Γ, β, F, hk, S⟩
 | ret => intro Q Γ a w β F S hk; exact wp_ret (Q := ExQ Bb w0 O0 av Q) ⟨Γ, β, F, hk, S⟩
 | exit n => intro Q Γ a w β F S hk; exact wp_exit (Q := ExQ Bb w0 O0 av Q) ⟨Γ, β, F, hk, S⟩
 | seq x y ihx ihy =>
  intro Q Γ a w β F S hk
  refine wp_seq (wp_mono (ihx S hk) ?_)
  intro e a' w' h
  cases e with
  | normal => obtain ⟨Γ', β', F', h1, h2⟩ := h; exact ihy h2 h1
  | exit n => exact h
  | ret => exact h
  | _ => exact h.elim
 | block id c ih =>
  intro Q Γ a w β F S hk
  refine wp_block (wp_mono (ih S hk) ?_)
  intro e a' w' h
  cases e with
  | normal => exact h
  | exit n =>
   obtain ⟨Γ', β', F', h1, h2⟩ := h
   show if n = id then _ else _
   by_cases hn : n = id
   ·rw [if_pos hn]
    have : Nat.beq n id = true := by rw [hn]; exact Nat.beq_refl id
    simp only [this] at h1
    exact ⟨Γ', β', F', h1, h2⟩
   ·rw [if_neg hn]
    have : Nat.beq n id = false := by
     cases hb : Nat.beq n id with
     | false => rfl
     | true => exact absurd (Nat.eq_of_beq_eq_true hb) hn
    simp only [this] at h1
    exact ⟨Γ', β', F', h1, h2⟩
  | ret => exact h
  | _ => exact h.elim
 | cond x b c ihb ihc =>
  intro Q Γ a w β F S hk
  unfold vc at hk
  split at hk
  ·rename_i d t ht
   have hs := S.eval x
   rw [ht] at hs
   have hc := slot_bool hs
   rcases spl_cases hk with ⟨hb, hk⟩ | ⟨hb, hk⟩
   ·subst hb; exact wp_cond_true hc (ihb S hk)
   ·subst hb; exact wp_cond_false hc (ihc S hk)
  ·exact hk.elim
 | region id ops draw =>
  intro Q Γ a w β F S hk
  have hend : ∀ a' w', Nx Bb w0 O0 av (fun Γ => Q .normal (Eng.keep (lv id) Γ)) a' w' → ExQ Bb w0 O0 av Q .normal a' w' := fun a' w' ⟨Γ', β', F', h1, h2⟩ => ⟨_, β', F', h1, h2.keep (lv id)⟩
  have hops : ops = ops.toList.toArray := by simp
  unfold vc at hk
  split at hk
  ·refine wp_region_list ?_
   have := sound_ops (Q := ExQ Bb w0 O0 av Q) hT hC S hk hend
   rwa [← hops] at this
  ·have S' : Sim Bb w0 O0 av Γ a { w with drawn := w.drawn + 1 } β F := S.push rfl rfl rfl rfl
   split at hk
   ·obtain ⟨t, ht, hk⟩ := hk
    refine wp_region_any hm ?_
    have := (sound_tree (Q := ExQ Bb w0 O0 av Q) hT hC (fun c a w h => h) hend t (f := ops.size) (listed := Array.replicate ops.size false) S' hk).1
    rw [← hops] at this
    exact this (ht trivial)
   ·rename_i n hn0
    obtain ⟨hd', hk⟩ := hk
    rcases hd' trivial with ⟨hn, hB⟩ | hB
    ·refine wp_region_still hm hB ?_
     have := sound_head (N := fun a' => ExQ Bb w0 O0 av Q .normal a' { w with drawn := w.drawn + 1 }) hT hC S' hk (fun a' h => by
      obtain ⟨Γ', β', F', h1, h2⟩ := h
      have hdrop : ops.toList.drop (n + 1) = [] := by rw [hn, ← Array.length_toList]; exact List.drop_length
      rw [hdrop] at h1
      exact hend a' _ ⟨Γ', β', F', h1, h2⟩)
     have htake : ops.toList.take (n + 1) = ops.toList := by rw [hn, ← Array.length_toList]; exact List.take_length
     rw [htake, ← hops] at this
     exact this
    ·rw [hops]
     refine wp_region_still_tail (n + 1) hm (by rw [← hops]; exact hB) ?_
     refine sound_head hT hC S' hk (fun a' h => ?_)
     obtain ⟨Γ', β', F', h1, h2⟩ := h
     exact sound_ops (Q := ExQ Bb w0 O0 av Q) hT hC h2 h1 hend
 | scope c ih =>
  intro Q Γ a w β F S hk
  refine wp_scope_straight (wp_mono (ih S hk) ?_)
  intro e a' w' h
  cases e <;> first | exact h | exact h.elim
 | label l => intro Q Γ a w β F S hk; exact wp_label ⟨Γ, β, F, hk, S⟩
 | loop c ih =>
  intro Q Γ a w β F S hk
  obtain ⟨I, ⟨n0, h0⟩, hr⟩ := hk
  refine wp_loop_ghost (fun n a w => Nx Bb w0 O0 av (I n) a w) n0 ⟨Γ, β, F, h0, S⟩ ?_
  intro n a1 w1 ⟨Γ1, β1, F1, h1, S1⟩
  refine wp_mono (ih S1 (hr n Γ1 h1 S1.wf)) ?_
  intro e a' w' h
  cases e with
  | normal =>
   obtain ⟨Γ', β', F', ⟨m, h3, h4⟩, h2⟩ := h
   exact ⟨m, h3, Γ', β', F', h4, h2⟩
  | exit n => exact h
  | ret => exact h
  | _ => exact h.elim
 | _ => intro Q Γ a w β F S hk; exact hk.elim
end
end Go.Proofs.YtmjeghlfmhbjdaaDoor.Eng

/- The engine, part 22: a function, whole. No condition. -/
namespace Go.Proofs.YtmjeghlfmhbjdaaDoor.Eng
open Go.RowKit
set_option linter.unusedVariables false
set_option linter.unusedSimpArgs false

/-! ### the entry -/
/-- The parameters' states, their roots (named by ids). -/
def entry : (ps : List (Bool × Nat × Ty)) → DP ps → List Nat → List SV × List SV × List (Nat × Ch)
 | [], _, _ => ([], [], [])
 | (io, n, t) :: ps, x, ids =>
  let p := resV [] n t x.1 ids []
  let q := entry ps x.2 p.2.1
  (p.1 :: q.1, (match io with | true => p.1 | false => .hole 0) :: q.2.1, p.2.2 ++ q.2.2)
def wantP : (ps : List (Bool × Nat × Ty)) → DP ps → Nat
 | [], _ => 0
 | (_, n, t) :: l, x => (match n with | 0 => 0 | _ + 1 => slots t x.1) + wantP l x.2
def psRoots : List (Bool × Nat × Ty) → Bool
 | [] => true
 | (_, n, t) :: l => rootsOk n t && psRoots l
def upto : Nat → Nat → List Nat
 | 0, _ => []
 | n + 1, k => k :: upto n (k + 1)
def number : Nat → List SV → List (Nat × SV)
 | _, [] => []
 | n, v :: l => (n, v) :: number (n + 1) l
def globR : List (Nat × Value) → List (Nat × Ch)
 | [] => []
 | g => [(1000000, .glob g)]
def entryG (nt : Nat) (ps : List (Bool × Nat × Ty)) (x : DP ps) (gl : List (Nat × Value)) : Ctx :=
 let e := entry ps x (upto (wantP ps x) 0)
 ⟨nt, number 0 e.1, e.2.2 ++ globR gl, e.2.1⟩
/-! ### the exit -/
def resSV (T : Tab) (Γ : Ctx) : List ResultVar → Option (List SV)
 | [] => some []
 | .tmp t :: l => (resSV T Γ l).map fun vs => Γ.get t :: vs
 | .cell a t :: l => match Γ.get a, T.ty t with
  | .ad r e i p, some u => match look r Γ.roots with
   | some (.box v) => if fits v e = true ∧ i = 0 ∧ tyAt e p = some u then match svAt v p with
     | some s => if s.isAgg = u.agg then (resSV T Γ l).map fun vs => s :: vs else none
     | none => none
    else none
   | _ => none
  | .arp r e n, some (.arr m f) => match look r Γ.roots with
   | some (.row 0 g xs) => if m = n ∧ f = e ∧ g = e ∧ g.hasSl = false then (resSV T Γ l).map fun vs => .pv [] (.arr n g) xs :: vs else none
   | _ => none
  | _, _ => none
def retD (R : List (Nat × Ch)) : (rs : List (Nat × Ty)) → List SV → Option (DR rs × List Nat × List Nat)
 | [], [] => some ((), [], [])
 | (n, t) :: rs, v :: vs => match n with
  | 0 => match den0 R t v, retD R rs vs with
   | some y, some q => some ((y.1, q.1), y.2 ++ q.2.1, q.2.2)
   | _, _ => none
  | n + 1 => match denN R (n + 1) t v, retD R rs vs with
   | some y, some q => some ((y.1, q.1), q.2.1, y.2 ++ q.2.2)
   | _, _ => none
 | _, _ => none
def outD (R : List (Nat × Ch)) : (ps : List (Bool × Nat × Ty)) → DP ps → List SV → Option (DP ps × List Nat)
 | [], _, [] => some ((), [])
 | (io, n, t) :: ps, x, v :: vs => match io, n with
  | true, m + 1 => match denN R (m + 1) t v, outD R ps x.2 vs with
   | some y, some q => some ((y.1, q.1), y.2 ++ q.2)
   | _, _ => none
  | _, _ => (outD R ps x.2 vs).map fun q => ((x.1, q.1), q.2)
 | _, _, _ => none
def vcRet (T : Tab) (c : Con) (rvs : List ResultVar) (x : DP c.ps) (Γ : Ctx) : Prop :=
 match resSV T Γ rvs with
 | none => False
 | some vs => match retD Γ.roots c.rs vs, outD Γ.roots c.ps x Γ.anch with
  | some y, some z => if nodupB (z.2 ++ y.2.2) = true ∧ apartB y.2.1 (z.2 ++ y.2.2) = true then (True → c.post x y.1 z.1) else False
  | _, _ => False
def vcFn (M : Mth) (T : Tab) (C : FuncId → Option Con) (lv : Nat → List Nat) (hd : Nat → Nat) (nt : Nat) (rvs : List ResultVar) (code : Code) (c : Con) (x : DP c.ps) : Prop :=
 if psRoots c.ps = true ∧ Nat.blt (wantP c.ps x) 1000000 = true then vc M T C lv hd code (fun e Γ => match e with | .normal => vcRet T c rvs x Γ | .ret => vcRet T c rvs x Γ | .exit _ => False) (entryG nt c.ps x c.gl) else False
section
variable {P : Program} {T : Tab} {C : FuncId → Option Con} {lv : Nat → List Nat} {hd : Nat → Nat} {Bb : Nat → Prop} {w0 : World} {O0 : List Nat} {av : List Value} {Γ Γ' : Ctx} {a : Act} {w w' : World} {β : Nat → Value} {F : Nat → List Nat}
theorem ArgsR.wf {h : Hp} {Z : Nat → Prop} : ∀ {ps : List (Bool × Nat × Ty)} {Bs : List (List Nat)} {vs : List Value} {x : DP ps}, ArgsR h Z ps Bs vs x → WFp ps x := by
 intro ps
 induction ps with
 | nil => intro _ _ _ _; trivial
 | cons p ps ih => intro Bs vs x ⟨_, _, _, _, _, _, _, o, _, r⟩; exact ⟨o.wf, ih r⟩
theorem entry_ok {h : Hp} {Z : Nat → Prop} : ∀ {ps : List (Bool × Nat × Ty)} {Bs : List (List Nat)} {vals : List Value} {x : DP ps} (ids : List Nat), psRoots ps = true → ArgsR h Z ps Bs vals x → wantP ps x ≤ ids.length → ids.Nodup → Bs.flatten.Nodup →
  ∃ used β1 F1, NewR h Z used (entry ps x ids).2.2 β1 F1 Bs.flatten ∧ (∀ r ∈ used, r ∈ ids) ∧ used.Nodup ∧
   ∀ (β' : Nat → Value) (Zd : List Nat → Nat → Prop), (∀ r ∈ used, β' r = β1 r) → (∀ b, Z b → Zd [] b) →
    (∀ (k : Nat) (v : SV), (entry ps x ids).1[k]? = some v → ∃ z, vals[k]? = some z ∧ SlotR h Zd β' v z) ∧ AnchR h Zd β' (entry ps x ids).2.1 vals := by
 intro ps
 induction ps with
 | nil =>
  intro Bs vals x ids _ hA _ _ _
  obtain ⟨rfl, rfl⟩ := hA
  exact ⟨[], fun _ => undef, fun _ => [], ⟨.refl _, ⟨by simp, by simp, by simp⟩, by simp [entry], by simp⟩, by simp, .nil, fun β' Zd _ _ => ⟨fun k v hv => by simp [entry] at hv, trivial⟩⟩
 | cons p ps ih =>
  intro Bs vals x ids hro hA hl hi hB
  obtain ⟨io, n, t⟩ := p
  have hro' : (rootsOk n t && psRoots ps) = true := hro
  simp only [Bool.and_eq_true] at hro'
  obtain ⟨B, Bs', v, vs', cs, rfl, rfl, o, ev, hA⟩ := hA
  have o : Own h Z t n B cs x.1 := o
  have hw : (0 < n → wantP ((io, n, t) :: ps) x = slots t x.1 + wantP ps x.2) ∧ (n = 0 → wantP ((io, n, t) :: ps) x = wantP ps x.2) := by cases n <;> simp [wantP]
  simp only [List.flatten_cons] at hB
  have hB2 := List.nodup_append.1 hB
  obtain ⟨u1, n1, β1, F1, e1, l1, z1, m1, q1, k1⟩ := resV_ok [] ids [] hro'.1 o (fun h => by have := hw.1 h; omega) hi hB2.1
  have hi1 := hi
  rw [e1, List.nodup_append] at hi1
  have h3 := congrArg List.length e1
  rw [List.length_append] at h3
  have hlen2 : wantP ps x.2 ≤ (resV [] n t x.1 ids []).2.1.length := by
   rcases Nat.eq_zero_or_pos n with h0 | h0
   ·have h4 := z1 h0
    have h5 := hw.2 h0
    rw [h4] at h3; simp at h3; omega
   ·have := hw.1 h0; have := l1 h0; omega
  obtain ⟨u2, β2, F2, q2, s2, d2, k2⟩ := ih (resV [] n t x.1 ids []).2.1 hro'.2 hA hlen2 hi1.2.1 hB2.2.1
  have hg : ∀ r ∈ u1, r ∉ u2 := fun r h1 h2 => hi1.2.2 r h1 r (s2 r h2) rfl
  have b1 : ∀ r ∈ u1, (if r ∈ u1 then β1 r else β2 r) = β1 r := fun r hr => if_pos hr
  have b2 : ∀ r ∈ u2, (if r ∈ u1 then β1 r else β2 r) = β2 r := fun r hr => if_neg (fun h => hg r h hr)
  rw [List.append_nil] at m1
  have hj := NewR.join q1 q2 hg (fun b h1 h2 => hB2.2.2 b h1 b h2 rfl)
  have hnew : (entry ((io, n, t) :: ps) x ids).2.2 = n1 ++ (entry ps x.2 (resV [] n t x.1 ids []).2.1).2.2 := by
   show (resV [] n t x.1 ids []).2.2 ++ _ = _
   rw [m1]
  refine ⟨u1 ++ u2, fun r => if r ∈ u1 then β1 r else β2 r, fun r => if r ∈ u1 then F1 r else F2 r, ?_, fun r hr => ?_, List.nodup_append.2 ⟨hi1.1, d2, fun p hp q hq e => hg p hp (e ▸ hq)⟩, ?_⟩
  ·rw [hnew]
   exact ⟨by rw [List.map_append]; exact List.Perm.append q1.perm q2.perm, hj.pr, fun r c hm => hj.row r c (by
    rcases List.mem_append.1 hm with hm | hm
    ·exact List.mem_append_right _ hm
    ·exact List.mem_append_left _ hm), hj.one⟩
  ·rcases List.mem_append.1 hr with hr | hr
   ·rw [e1]; exact List.mem_append_left _ hr
   ·rw [e1]; exact List.mem_append_right _ (s2 r hr)
  ·intro β' Zd hβ hz
   obtain ⟨x1, x2, x3⟩ := k1 β' Zd (fun r hr => (hβ r (List.mem_append_left _ hr)).trans (b1 r hr)) (fun _ => hz)
   obtain ⟨y1, y2⟩ := k2 β' Zd (fun r hr => (hβ r (List.mem_append_right _ hr)).trans (b2 r hr)) hz
   have hs : SlotR h Zd β' (resV [] n t x.1 ids []).1 v := .inr ⟨x3, .inr ⟨cs, x1, by rw [x2]; exact ev⟩⟩
   refine ⟨fun k w hw => ?_, ?_, y2⟩
   ·cases k with
    | zero =>
     have : some (resV [] n t x.1 ids []).1 = some w := hw
     simp only [Option.some.injEq] at this; subst this
     exact ⟨v, rfl, hs⟩
    | succ k => exact y1 k w hw
   ·cases io with
    | true => exact hs
    | false => exact .inr ⟨rfl, .inl ⟨0, rfl⟩⟩
theorem upto_mem : ∀ {n k r : Nat}, r ∈ upto n k → k ≤ r
 | 0, _, _, h => by cases h
 | n + 1, k, r, h => by
  rcases List.mem_cons.1 h with rfl | h
  ·exact Nat.le_refl _
  ·exact Nat.le_trans (Nat.le_succ k) (upto_mem h)
theorem upto_nodup : ∀ {n k : Nat}, (upto n k).Nodup
 | 0, _ => .nil
 | n + 1, k => List.nodup_cons.2 ⟨fun h => by have := upto_mem h; omega, upto_nodup⟩
theorem upto_len : ∀ {n k : Nat}, (upto n k).length = n
 | 0, _ => rfl
 | n + 1, k => by simp [upto, upto_len]
theorem mem_number {v : SV} : ∀ {l : List SV} {n k : Nat}, (k, v) ∈ number n l → n ≤ k ∧ l[k - n]? = some v
 | [], _, _, h => by cases h
 | u :: l, n, k, h => by
  rcases List.mem_cons.1 h with h | h
  ·injection h with h1 h2; subst h1; subst h2; simp
  ·obtain ⟨h1, h2⟩ := mem_number h
   refine ⟨by omega, ?_⟩
   rw [show k - n = (k - (n + 1)) + 1 by omega]; exact h2
theorem entry_len : ∀ {ps : List (Bool × Nat × Ty)} {x : DP ps} {ids : List Nat}, (entry ps x ids).1.length = ps.length := by
 intro ps
 induction ps with
 | nil => intro _ _; rfl
 | cons p ps ih => intro x ids; simp [entry, ih]
theorem ArgsR.len {h : Hp} {Z : Nat → Prop} : ∀ {ps : List (Bool × Nat × Ty)} {Bs : List (List Nat)} {vs : List Value} {x : DP ps}, ArgsR h Z ps Bs vs x → vs.length = ps.length := by
 intro ps
 induction ps with
 | nil => intro _ _ _ ⟨_, h⟩; rw [h]; rfl
 | cons p ps ih => intro Bs vs x ⟨_, _, _, _, _, _, e, _, _, r⟩; rw [e]; simp [ih r]
/-- What may be read. -/
def BbOf (w : World) (Z : Nat → Prop) (Bs : List (List Nat)) (b : Nat) : Prop := Z b ∨ (b ∈ Bs.flatten ∨ w.heap.size ≤ b)
theorem upto_lt : ∀ {n k r : Nat}, r ∈ upto n k → r < k + n
 | 0, _, _, h => by cases h
 | n + 1, k, r, h => by
  rcases List.mem_cons.1 h with rfl | h
  ·omega
  ·have := upto_lt h; omega
theorem mem_globR {l : List (Nat × Value)} {p : Nat × Ch} (h : p ∈ globR l) : p = (1000000, .glob l) := by
 cases l with
 | nil => cases h
 | cons a l => simpa [globR] using h
theorem globR_nodup {l : List (Nat × Value)} : ((globR l).map (·.1)).Nodup := by cases l <;> simp [globR]
/-- The state at a function's entry. -/
theorem entry_sim {c : Con} {nt : Nat} {Z : Nat → Prop} {Bs : List (List Nat)} {vals : List Value} {x : DP c.ps} (hro : psRoots c.ps = true) (hlt : wantP c.ps x < 1000000) (hG : GOk (hp w) Z c.gl) (hA : ArgsR (hp w) Z c.ps Bs vals x) (hB : Bs.flatten.Nodup) (hZ : ∀ b ∈ Bs.flatten, b < w.heap.size ∧ ¬ Z b) (hnt : c.ps.length ≤ nt) :
  ∃ β F, Sim (BbOf w Z Bs) w Bs.flatten vals (entryG nt c.ps x c.gl) { tmps := vals.toArray ++ Array.replicate (nt - vals.toArray.size) undef, defers := [] } w β F := by
 obtain ⟨used, β1, F1, q, s, hun, k⟩ := entry_ok (upto (wantP c.ps x) 0) hro hA (by rw [upto_len]; exact Nat.le_refl _) upto_nodup hB
 have h6 : 1000000 ∉ used := fun h => by have := upto_lt (s _ h); omega
 have eF : ∀ r ∈ used, (fun r => if r ∈ used then F1 r else []) r = F1 r := fun r hr => if_pos hr
 have eF' : ∀ r, r ∉ used → (fun r => if r ∈ used then F1 r else []) r = [] := fun r hr => if_neg hr
 generalize hF0 : (fun r => if r ∈ used then F1 r else []) = F0 at eF eF'
 have hlen := hA.len
 have hroots : (entryG nt c.ps x c.gl).roots = (entry c.ps x (upto (wantP c.ps x) 0)).2.2 ++ globR c.gl := rfl
 have hmem : ∀ r, r ∈ (entryG nt c.ps x c.gl).roots.map (·.1) ↔ r ∈ used ∨ r ∈ (globR c.gl).map (·.1) := fun r => by
  rw [hroots, List.map_append, List.mem_append, q.perm.mem_iff]
 have hgid : ∀ r ∈ (globR c.gl).map (·.1), r = 1000000 := fun r hr => by
  obtain ⟨p, h1, rfl⟩ := List.mem_map.1 hr; rw [mem_globR h1]
 have hsub : ∀ b, b ∈ allO F0 (entryG nt c.ps x c.gl).roots → b ∈ Bs.flatten := fun b hb => by
  obtain ⟨r, h1, h2⟩ := mem_allO.1 hb
  by_cases hr : r ∈ used
  ·rw [eF r hr] at h2; exact q.pr.sub r hr b h2
  ·rw [eF' r hr] at h2; cases h2
 have hzz : ∀ b, Z b → ZdOf (BbOf w Z Bs) F0 (entryG nt c.ps x c.gl).roots [] b := fun b hz => .inl ⟨fun hb => (hZ b (hsub b hb)).2 hz, .inl hz⟩
 have eβ : ∀ r ∈ used, (fun r => if r ∈ used then β1 r else .slice none 0 0) r = β1 r := fun r hr => if_pos hr
 obtain ⟨k1, k2⟩ := k (fun r => if r ∈ used then β1 r else .slice none 0 0) (ZdOf (BbOf w Z Bs) F0 (entryG nt c.ps x c.gl).roots) eβ hzz
 have hids : ((entryG nt c.ps x c.gl).roots.map (·.1)).Nodup := by
  rw [hroots, List.map_append, List.nodup_append]
  refine ⟨q.perm.nodup_iff.2 hun, globR_nodup, fun a ha b hb e => ?_⟩
  have h7 := hgid b hb
  rw [e, h7] at ha
  exact h6 (q.perm.mem_iff.1 ha)
 refine ⟨_, F0, ?_, rfl, ?_, ?_, k2, hids, ?_, ?_, Frm.refl _ _, ?_, fun b hb => .inr hb⟩
 ·simp only [Array.size_append, List.size_toArray, Array.size_replicate]
  show _ = nt
  rw [hlen]; omega
 ·intro n v hm
  obtain ⟨_, h2⟩ := mem_number hm
  obtain ⟨z, h3, h4⟩ := k1 (n - 0) v h2
  refine ⟨z, ?_, h4⟩
  have hn : n < vals.length := (List.getElem?_eq_some_iff.1 h3).1
  rw [Array.getElem?_append_left (by simpa using hn)]
  simpa using h3
 ·intro r ch hm
  rw [hroots] at hm
  rcases List.mem_append.1 hm with hm | hm
  ·have hr : r ∈ used := q.perm.mem_iff.1 (List.mem_map.2 ⟨_, hm, rfl⟩)
   have := q.row r ch hm
   rw [eF r hr]
   exact RowR.root hzz this (eβ r hr)
  ·have := mem_globR hm
   simp only [Prod.mk.injEq] at this
   obtain ⟨rfl, rfl⟩ := this
   refine ⟨eF' _ h6, fun p hp' => ?_⟩
   obtain ⟨g1, arr, ty, fz, g5, g6, g7, g8⟩ := hG p hp'
   exact ⟨hzz _ g1, arr, ty, fz, g5, g6, g7, fun u a e => ⟨hzz _ (g8 u a e).1, (g8 u a e).2⟩⟩
 ·rw [allO_eq]
  refine nodup_flatMap hids (fun r h => ?_) (fun r h p hp hne b h1 h2 => ?_)
  ·by_cases hr : r ∈ used
   ·rw [eF r hr]; exact q.pr.nd r hr
   ·rw [eF' r hr]; exact .nil
  ·by_cases hr : r ∈ used
   ·by_cases hp2 : p ∈ used
    ·rw [eF r hr] at h1; rw [eF p hp2] at h2; exact q.pr.ap r hr p hp2 hne b h1 h2
    ·rw [eF' p hp2] at h2; cases h2
   ·rw [eF' r hr] at h1; cases h1
 ·intro b hb
  have := hsub b hb
  exact ⟨(hZ b this).1, .inl this⟩
 ·intro r
  show one (if r ∈ used then β1 r else .slice none 0 0) = true
  split
  ·rename_i h; exact q.one r h
  ·rfl
end
end Go.Proofs.YtmjeghlfmhbjdaaDoor.Eng

/- The engine, part 23: a function's exit; the contract out of the machine. No condition. -/
namespace Go.Proofs.YtmjeghlfmhbjdaaDoor.Eng
open Go.RowKit
set_option linter.unusedVariables false
set_option linter.unusedSimpArgs false
section
variable {P : Program} {T : Tab} {C : FuncId → Option Con} {lv : Nat → List Nat} {hd : Nat → Nat} {Bb : Nat → Prop} {w0 : World} {O0 : List Nat} {av : List Value} {Γ Γ' : Ctx} {a : Act} {w w' : World} {β : Nat → Value} {F : Nat → List Nat}
theorem resSV_ok (hT : TabOk P T) (S : Sim Bb w0 O0 av Γ a w β F) : ∀ {l : List ResultVar} {vs : List SV}, resSV T Γ l = some vs →
  ∃ zs, (l.mapM fun (v : ResultVar) => match v with
   | ResultVar.tmp t => (pure (a.tmps.getD t undef) : Sem Value)
   | ResultVar.cell ad t => do loadVar t (← asAddr (a.tmps.getD ad undef))).run P w = .ok zs w ∧ SlotsR (hp w) (ZdOf Bb F Γ.roots) β vs zs
 | [], vs, h => by
  simp only [resSV, Option.some.injEq] at h; subst h
  exact ⟨[], rfl, .nil⟩
 | .tmp t :: l, vs, h => by
  simp only [resSV, Option.map_eq_some_iff] at h
  obtain ⟨vs', h1, rfl⟩ := h
  obtain ⟨zs, h2, h3⟩ := resSV_ok hT S h1
  refine ⟨a.tmps.getD t undef :: zs, ?_, .cons (S.get t) h3⟩
  rw [List.mapM_cons]
  show (Sem.bind _ _).run P w = _
  rw [run_bind_ok (s := pure _) (x := a.tmps.getD t undef) rfl]
  show (Sem.bind _ _).run P w = _
  rw [run_bind_ok h2]; rfl
 | .cell ad t :: l, vs, h => by
  simp only [resSV] at h
  split at h
  ·rename_i r e i p u hg ht
   split at h
   ·rename_i v hr
    split at h
    ·rename_i hc
     obtain ⟨hf, rfl, hty⟩ := hc
     split at h
     ·rename_i s hs
      split at h
      ·rename_i hag
       simp only [Option.map_eq_some_iff] at h
       obtain ⟨vs', h1, rfl⟩ := h
       obtain ⟨zs, h2, h3⟩ := resSV_ok hT S h1
       have hsl := S.get ad
       rw [hg] at hsl
       obtain ⟨cs, ⟨b, off, hb, rfl⟩, ex⟩ := slot_one hsl rfl (by simp)
       have ex' : a.tmps.getD ad undef = .pointer (some ⟨b, off + (0 : Int).toNat * e.sz + offAt e p, none⟩) := ex
       obtain ⟨b', cs, ty, q1, q2, q3, q4⟩ := S.roots r _ (look_mem hr)
       rw [q1] at hb
       simp only [baseA, Option.some.injEq, Prod.mk.injEq] at hb
       obtain ⟨rfl, rfl⟩ := hb
       obtain ⟨τ, t1, t2⟩ := SVc.at q4 hf hs (.inr ⟨_, hty⟩)
       rw [hty, Option.some.injEq] at t1; subst t1
       have hle := offAt_le hty
       rw [← fits_sz hf, ← q4.len] at hle
       have e0 : (0 : Nat) + (0 : Int).toNat * e.sz + offAt e p = offAt e p := by simp
       rw [e0] at ex'
       have hst : s.tup = false := by cases s <;> first | rfl | exact t2.elim
       refine ⟨valOf u.agg (seg cs (offAt e p) u.sz) :: zs, ?_, .cons (by rw [← hag]; exact slot_c hst t2) h3⟩
       rw [List.mapM_cons]
       have hl : (do loadVar t (← asAddr (a.tmps.getD ad undef)) : Sem Value).run P w = .ok (valOf u.agg (seg cs (offAt e p) u.sz)) w := by
        rw [ex']
        show (Sem.bind _ _).run P w = _
        rw [run_bind_ok (s := asAddr _) (x := (⟨b', offAt e p, none⟩ : Addr)) rfl]
        have := run_loadVar (P := P) (w := w) (hT.ty _ _ ht) q3 (o := offAt e p) (by simpa using hle)
        simpa using this
       show (Sem.bind _ _).run P w = _
       rw [run_bind_ok hl]
       show (Sem.bind _ _).run P w = _
       rw [run_bind_ok h2]; rfl
      ·cases h
     ·cases h
    ·cases h
   ·cases h
  ·rename_i r e n m f hg ht
   split at h
   ·rename_i g xs hr
    split at h
    ·rename_i hc
     obtain ⟨rfl, rfl, rfl, hfl⟩ := hc
     simp only [Option.map_eq_some_iff] at h
     obtain ⟨vs', h1, rfl⟩ := h
     obtain ⟨zs, h2, h3⟩ := resSV_ok hT S h1
     have hsl := S.get ad
     rw [hg] at hsl
     obtain ⟨b, hb, ex⟩ := arp_slot hsl
     have ex' : a.tmps.getD ad undef = .pointer (some ⟨b, 0, none⟩) := ex
     obtain ⟨hl, arr, ty, hbb, hsz, hB, hq⟩ := arp_root S hr hb
     refine ⟨valOf true (seg arr.toList 0 (m * g.sz)) :: zs, ?_, .cons (slot_c (v := .pv [] (.arr m g) xs) (cs := seg arr.toList 0 (m * g.sz)) rfl ?_) h3⟩
     ·rw [List.mapM_cons]
      have hl2 : (do loadVar t (← asAddr (a.tmps.getD ad undef)) : Sem Value).run P w = .ok (valOf true (seg arr.toList 0 (m * g.sz))) w := by
       rw [ex']
       show (Sem.bind _ _).run P w = _
       rw [run_bind_ok (s := asAddr _) (x := (⟨b, 0, none⟩ : Addr)) rfl]
       exact run_loadVar (P := P) (w := w) (hT.ty _ _ ht) hbb (o := 0) (by show 0 + m * g.sz ≤ arr.size; omega)
      show (Sem.bind _ _).run P w = _
      rw [run_bind_ok hl2]
      show (Sem.bind _ _).run P w = _
      rw [run_bind_ok h2]; rfl
     ·refine arr_of (Z := ZdOf Bb F Γ.roots []) hfl hl (seg_len (by simpa using hsz)) (fun i y hy => ?_)
      have hi : i < m := by rw [← hl]; exact (List.getElem?_eq_some_iff.1 hy).1
      rw [seg_seg (by have : (i + 1) * g.sz ≤ m * g.sz := Nat.mul_le_mul_right _ hi
                      rw [Nat.add_mul] at this; omega), Nat.zero_add]
      exact hq i y hy
    ·cases h
   ·cases h
  ·cases h
theorem retD_ok {R : List (Nat × Ch)} {h : Hp} (hR : ∀ r c, (r, c) ∈ R → RootR h (ZdOf Bb F R) β (F r) r c) : ∀ {rs : List (Nat × Ty)} {vs : List SV} {zs : List Value} {q : DR rs × List Nat × List Nat}, retD R rs vs = some q → SlotsR h (ZdOf Bb F R) β vs zs →
  ∃ Rs, RetL h (ZdOf Bb F R q.2.1) rs Rs zs q.1 ∧ Rs.flatten = q.2.2.flatMap F ∧ (∀ r ∈ q.2.2, r ∈ R.map (·.1)) := by
 have wk : ∀ {Z Z' : Nat → Prop}, (∀ b, Z b → Z' b) → ∀ {rs : List (Nat × Ty)} {Bs : List (List Nat)} {xs : List Value} {x : DR rs}, RetL h Z rs Bs xs x → RetL h Z' rs Bs xs x := by
  intro Z Z' hz rs
  induction rs with
  | nil => intro Bs xs x hh; exact hh
  | cons p rs ih =>
   intro Bs xs x hh
   obtain ⟨B, Bs', v, vs', cs, e1, e2, o, e3, r⟩ := hh
   exact ⟨B, Bs', v, vs', cs, e1, e2, o.weaken hz, e3, ih r⟩
 intro rs
 induction rs with
 | nil =>
  intro vs zs q e s
  cases s with
  | nil =>
   simp only [retD, Option.some.injEq] at e; subst e
   exact ⟨[], ⟨rfl, rfl⟩, rfl, by simp⟩
  | cons _ _ => simp [retD] at e
 | cons p rs ih =>
  intro vs zs q e s
  obtain ⟨n, t⟩ := p
  cases s with
  | nil => simp [retD] at e
  | cons s1 s2 =>
   rename_i v x vs zs
   cases n with
   | zero =>
    simp only [retD] at e
    split at e
    ·rename_i y z hy hz
     simp only [Option.some.injEq] at e; subst e
     obtain ⟨cs, o, ex⟩ := den0_slot hR hy s1
     obtain ⟨Rs, r1, r2, r3⟩ := ih hz s2
     exact ⟨[] :: Rs, ⟨[], Rs, x, zs, cs, rfl, rfl, o.weaken (fun b hb => zd_mono (by intro k hk; simp [hk]) hb), ex, wk (fun b hb => zd_mono (by intro k hk; simp [hk]) hb) r1⟩, by simpa using r2, r3⟩
    ·cases e
   | succ m =>
    simp only [retD] at e
    split at e
    ·rename_i y z hy hz
     simp only [Option.some.injEq] at e; subst e
     obtain ⟨cs, _, o, ex⟩ := denN_slot hR hy s1
     obtain ⟨Rs, r1, r2, r3⟩ := ih hz s2
     refine ⟨y.2.flatMap F :: Rs, ⟨_, Rs, x, zs, cs, rfl, rfl, o.weaken (fun b hb => zd_mono (by simp) hb), ex, r1⟩, by simp [r2], fun r hr => ?_⟩
     rcases List.mem_append.1 hr with hr | hr
     ·exact denN_sub hy r hr
     ·exact r3 r hr
    ·cases e
theorem outD_ok {R : List (Nat × Ch)} {h : Hp} (hR : ∀ r c, (r, c) ∈ R → RootR h (ZdOf Bb F R) β (F r) r c) : ∀ {ps : List (Bool × Nat × Ty)} {x : DP ps} {vs : List SV} {zs : List Value} {q : DP ps × List Nat}, outD R ps x vs = some q → AnchR h (ZdOf Bb F R) β vs zs →
  ∃ Bs', OutR h (ZdOf Bb F R []) ps Bs' zs q.1 ∧ Bs'.flatten = q.2.flatMap F ∧ (∀ r ∈ q.2, r ∈ R.map (·.1)) := by
 intro ps
 induction ps with
 | nil =>
  intro x vs zs q e s
  cases vs with
  | nil =>
   cases zs with
   | nil =>
    simp only [outD, Option.some.injEq] at e; subst e
    exact ⟨[], ⟨rfl, rfl⟩, rfl, by simp⟩
   | cons _ _ => exact s.elim
  | cons _ _ => simp [outD] at e
 | cons p ps ih =>
  intro x vs zs q e s
  obtain ⟨io, n, t⟩ := p
  cases vs with
  | nil => simp [outD] at e
  | cons v vs =>
   cases zs with
   | nil => exact s.elim
   | cons z zs =>
    obtain ⟨s1, s2⟩ := s
    have plain : (outD R ps x.2 vs).map (fun q => ((x.1, q.1), q.2)) = some q → (∀ m, ¬ (io = true ∧ n = m + 1)) → ∃ Bs', OutR h (ZdOf Bb F R []) ((io, n, t) :: ps) Bs' (z :: zs) q.1 ∧ Bs'.flatten = q.2.flatMap F ∧ (∀ r ∈ q.2, r ∈ R.map (·.1)) := by
     intro e hno
     simp only [Option.map_eq_some_iff] at e
     obtain ⟨q', h1, rfl⟩ := e
     obtain ⟨Bs', r1, r2, r3⟩ := ih h1 s2
     refine ⟨[] :: Bs', ⟨[], Bs', z, zs, rfl, rfl, ?_, r1⟩, by simpa using r2, r3⟩
     cases io with
     | false => rfl
     | true =>
      cases n with
      | zero => rfl
      | succ m => exact absurd ⟨rfl, rfl⟩ (hno m)
    cases io with
    | false => exact plain (by cases n <;> exact e) (by rintro m ⟨h, _⟩; cases h)
    | true =>
     cases n with
     | zero => exact plain e (by rintro m ⟨_, h⟩; cases h)
     | succ m =>
      simp only [outD] at e
      split at e
      ·rename_i y q' hy hz
       simp only [Option.some.injEq] at e; subst e
       obtain ⟨cs, _, o, ex⟩ := denN_slot hR hy s1
       obtain ⟨Bs', r1, r2, r3⟩ := ih hz s2
       refine ⟨y.2.flatMap F :: Bs', ⟨_, Bs', z, zs, rfl, rfl, ⟨cs, o, ex⟩, r1⟩, by simp [r2], fun r hr => ?_⟩
       rcases List.mem_append.1 hr with hr | hr
       ·exact denN_sub hy r hr
       ·exact r3 r hr
      ·cases e
theorem OutR.weaken {h : Hp} {Z Z2 : Nat → Prop} (hz : ∀ b, Z b → Z2 b) : ∀ {ps : List (Bool × Nat × Ty)} {Bs : List (List Nat)} {vs : List Value} {x : DP ps}, OutR h Z ps Bs vs x → OutR h Z2 ps Bs vs x := by
 intro ps
 induction ps with
 | nil => intro Bs vs x h; exact h
 | cons p ps ih =>
  intro Bs vs x hh
  obtain ⟨io, n, t⟩ := p
  obtain ⟨B, Bs', v, vs', e1, e2, om, r⟩ := hh
  refine ⟨B, Bs', v, vs', e1, e2, ?_, ih r⟩
  cases io <;> cases n <;> first | exact om | skip
  obtain ⟨cs, o, ev⟩ := om
  exact ⟨cs, o.weaken hz, ev⟩
theorem RetL.weaken {h : Hp} {Z Z2 : Nat → Prop} (hz : ∀ b, Z b → Z2 b) : ∀ {rs : List (Nat × Ty)} {Bs : List (List Nat)} {vs : List Value} {y : DR rs}, RetL h Z rs Bs vs y → RetL h Z2 rs Bs vs y := by
 intro rs
 induction rs with
 | nil => intro Bs xs x hh; exact hh
 | cons p rs ih =>
  intro Bs xs x hh
  obtain ⟨B, Bs', v, vs', cs, e1, e2, o, e3, r⟩ := hh
  exact ⟨B, Bs', v, vs', cs, e1, e2, o.weaken hz, e3, ih r⟩
theorem ret_ok (hT : TabOk P T) {fn : Func} {c : Con} {x : DP c.ps} {Z : Nat → Prop} {Bs : List (List Nat)} {vals : List Value} (S : Sim (BbOf w0 Z Bs) w0 Bs.flatten vals Γ a w β F) (hr : vcRet T c fn.results.toList x Γ) :
  ∃ v, (results fn a.tmps).run P w = .ok v w ∧ Behind w0 Z c Bs vals x (.returned v) w := by
 unfold vcRet at hr
 split at hr
 ·exact hr.elim
 rename_i vs hvs
 split at hr
 ·rename_i y z hy hz
  split at hr
  ·rename_i hc
   obtain ⟨c1, c2⟩ := hc
   obtain ⟨zs, h1, h2⟩ := resSV_ok hT S hvs
   obtain ⟨Rs, r1, r2, r3⟩ := retD_ok S.roots hy h2
   obtain ⟨Bs', o1, o2, o3⟩ := outD_ok S.roots hz S.anch
   have hn := nodupB_ok c1
   have hin : ∀ r ∈ z.2 ++ y.2.2, r ∈ Γ.roots.map (·.1) := fun r hr => by
    rcases List.mem_append.1 hr with hr | hr
    ·exact o3 r hr
    ·exact r3 r hr
   have hflat : Bs'.flatten ++ Rs.flatten = (z.2 ++ y.2.2).flatMap F := by rw [o2, r2, List.flatMap_append]
   have hZ' : ∀ d, (∀ r ∈ d, r ∉ z.2 ++ y.2.2) → ∀ b, ZdOf (BbOf w0 Z Bs) F Γ.roots d b → Z b ∨ ((b ∈ Bs.flatten ∨ w0.heap.size ≤ b) ∧ b ∉ Bs'.flatten ++ Rs.flatten) := by
    intro d hd b hb
    rcases hb with ⟨h3, h4⟩ | ⟨r, h3, h4, h5⟩
    ·rcases h4 with h4 | h4
     ·exact .inl h4
     ·refine .inr ⟨h4, fun h5 => h3 ?_⟩
      rw [hflat, List.mem_flatMap] at h5
      obtain ⟨r, h6, h7⟩ := h5
      exact mem_allO.2 ⟨r, hin r h6, h7⟩
    ·refine .inr ⟨(S.own b (mem_allO.2 ⟨r, h4, h5⟩)).2, fun h6 => ?_⟩
     rw [hflat, List.mem_flatMap] at h6
     obtain ⟨q, h7, h8⟩ := h6
     have := disj S.ids S.nodup h4 (hin q h7) h5 h8
     subst this; exact hd r h3 h7
   refine ⟨_, ?_, _, y.1, z.1, Bs', Rs, rfl, hr trivial, S.frm, ?_, ?_, OutR.weaken (hZ' [] (by simp)) o1, zs, RetL.weaken (hZ' y.2.1 (apartB_ok c2)) r1, rfl⟩
   ·have hm : (fn.results.mapM fun (v : ResultVar) => match v with
         | ResultVar.tmp t => (pure (a.tmps.getD t undef) : Sem Value)
         | ResultVar.cell ad t => do loadVar t (← asAddr (a.tmps.getD ad undef))).run P w = .ok zs.toArray w := by
     rw [Array.mapM_eq_mapM_toList]
     show (Sem.bind _ _).run P w = _
     rw [run_bind_ok h1]; rfl
    have hr2 := run_bind_ok (P := P) (k := fun (vs : Array Value) => (pure (if h : vs.size = 1 then vs[0] else .tuple vs) : Sem Value)) hm
    refine Eq.trans hr2 ?_
    match zs with
    | [] => rfl
    | [v] => rfl
    | u :: v :: l => simp [pure, Sem.run]
   ·rw [hflat]
    exact nodup_flatMap hn (fun r hr => nodup_F (hin r hr) S.nodup) (fun r hr q hq hne b h3 h4 => hne (disj S.ids S.nodup (hin r hr) (hin q hq) h3 h4))
   ·rw [hflat]
    intro b hb
    obtain ⟨r, h3, h4⟩ := List.mem_flatMap.1 hb
    exact S.own b (mem_allO.2 ⟨r, hin r h3, h4⟩)
  ·exact hr.elim
 ·exact hr.elim
/-- The contract of a function, out of the machine's run of its text. -/
theorem FnOK.of_vc (hm : P.follows .mixedOrders = true) (hT : TabOk P T) (hC : ConsOk P C) {f : FuncId} {fn : Func} {code : Code} (hf : P.funcs[f]? = some fn) (hb : fn.body = some code) {c : Con} (hnt : c.ps.length ≤ fn.ntmps) (lv : Nat → List Nat) (hd : Nat → Nat)
  (h : ∀ x, c.pre x → WFp c.ps x → vcFn real T C lv hd fn.ntmps fn.results.toList code c x) : FnOK P f c := by
 intro w Z Bs vals x hA hB hZ hG hpre
 have h := h x hpre hA.wf
 unfold vcFn at h
 split at h
 case isFalse => exact h.elim
 rename_i hc
 obtain ⟨β, F, S⟩ := entry_sim (nt := fn.ntmps) hc.1 (by simpa using hc.2) hG hA hB hZ hnt
 refine calls_of_wp hf hb (wp_mono (sound_code hm hT hC S h) ?_)
 intro e a' w' he
 cases e with
 | normal =>
  obtain ⟨Γ', β', F', h1, S'⟩ := he
  obtain ⟨v, h2, h3⟩ := ret_ok hT S' h1
  exact ⟨S'.defers, v, h2, h3⟩
 | ret =>
  obtain ⟨Γ', β', F', h1, S'⟩ := he
  obtain ⟨v, h2, h3⟩ := ret_ok hT S' h1
  exact ⟨S'.defers, v, h2, h3⟩
 | exit n =>
  obtain ⟨Γ', β', F', h1, S'⟩ := he
  exact h1.elim
 | _ => exact he.elim
end
end Go.Proofs.YtmjeghlfmhbjdaaDoor.Eng

/- The engine, part 24: what a program has to say of its types and functions. No condition. -/
namespace Go.Proofs.YtmjeghlfmhbjdaaDoor.Eng
open Go.RowKit
set_option linter.unusedVariables false
set_option linter.unusedSimpArgs false
variable {P : Program}
theorem InfoOk.mk {τ : Ty} {t : TypeId} {n : Nat} (h : (P.info? t).map (fun i => (i.zero, i.size, i.bytes)) = some (some (valOf τ.agg τ.zc), τ.sz, n)) (h0 : 0 < n) (h1 : n ≤ 1024) : InfoOk P τ t := by
 rw [Option.map_eq_some_iff] at h
 obtain ⟨i, hi, e⟩ := h
 simp only [Prod.mk.injEq] at e
 obtain ⟨e1, e2, e3⟩ := e
 exact ⟨i, hi, e2, e1, by omega, by omega⟩
theorem TyOk.int {k : IntKind} {t : TypeId} (h : P.underlying t = some (.int k)) (i : InfoOk P (.int k) t) : TyOk P (.int k) t := ⟨h, i⟩
theorem TyOk.bool {t : TypeId} (h : P.underlying t = some .bool) (i : InfoOk P .bool t) : TyOk P .bool t := ⟨h, i⟩
theorem TyOk.str {t : TypeId} (h : P.underlying t = some .string) (i : InfoOk P .str t) : TyOk P .str t := ⟨h, i⟩
theorem TyOk.sl {e : Ty} {t te : TypeId} (h : P.underlying t = some (.slice te)) (he : TyOk P e te) (i : InfoOk P (.sl e) t) : TyOk P (.sl e) t := ⟨te, h, he, i⟩
theorem TyOk.any {t : TypeId} {m : _} (h : P.underlying t = some (.interface m)) (i : InfoOk P .any t) : TyOk P .any t := ⟨_, h, i⟩
theorem TyOk.arr {n : Nat} {e : Ty} {t te : TypeId} (h : P.underlying t = some (.array n te)) (he : TyOk P e te) (i : InfoOk P (.arr n e) t) : TyOk P (.arr n e) t := ⟨te, h, he, i⟩
theorem TyOk.mp {k v : Ty} {t tk tv : TypeId} (h : P.underlying t = some (.map tk tv)) (hk : TyOk P k tk) (hv : TyOk P v tv) (i : InfoOk P (.mp k v) t) : TyOk P (.mp k v) t := ⟨tk, tv, h, hk, hv, i⟩
theorem TyOk.ptr {e : Ty} {t te : TypeId} (h : P.underlying t = some (.pointer te)) (he : TyOk P e te) (i : InfoOk P (.ptr e) t) : TyOk P (.ptr e) t := ⟨te, h, he, i⟩
theorem TyOk.inil {t : TypeId} {m : _} (h : P.underlying t = some (.interface m)) (i : InfoOk P .inil t) : TyOk P .inil t := ⟨_, h, i⟩
theorem TyOk.ialt {u t : TypeId} {a r : Ty} {m : _} (h : P.underlying t = some (.interface m)) (ha : TyOk P a u) (hr : TyOk P r t) (i : InfoOk P (.ialt u a r) t) : TyOk P (.ialt u a r) t := ⟨_, h, ha, hr, i⟩
theorem TyOk.unit {t : TypeId} (h : P.underlying t = some (.struct #[])) (i : InfoOk P .unit t) : TyOk P .unit t := ⟨_, h, rfl, i⟩
def TFields (P : Program) (τ : Ty) (fs : List Field) (off : Nat) : Prop := (TyF P τ).2 fs off
theorem TFields.nil {off : Nat} : TFields P .unit [] off := rfl
theorem TFields.cons {a b : Ty} {f : Field} {l : List Field} {off : Nat} (ho : f.offset = off) (h : TyOk P a f.type) (r : TFields P b l (off + a.sz)) : TFields P (.pair a b) (f :: l) off := ⟨f, l, rfl, ho, h, r⟩
theorem TyOk.struct {a b : Ty} {t : TypeId} {fs : Array Field} (h : P.underlying t = some (.struct fs)) (r : TFields P (.pair a b) fs.toList 0) (i : InfoOk P (.pair a b) t) : TyOk P (.pair a b) t := by
 obtain ⟨f, l, e, ho, h1, h2⟩ := r
 exact ⟨fs, h, ⟨f, l, e, ho, h1, h2⟩, i⟩
def Tab.of (l : List (Nat × Ty)) (lv : List (Nat × Nat)) : Tab := ⟨fun t => look t l, fun t => (look t lv).getD 0, false, fun _ _ => none, [], []⟩
def Tab.moves (T : Tab) : Tab := ⟨T.ty, T.lv, true, T.mth, T.wr, T.eq⟩
theorem TabOk.moves {T : Tab} (h : TabOk P T) : TabOk P T.moves := ⟨h.ty, h.mth, h.wr, h.eq⟩
/-- A method's row: the type, the name, the function. -/
def lookM (t : TypeId) (n : String) : List (TypeId × String × FuncId) → Option FuncId
 | [] => none
 | (u, m, f) :: l => if u = t ∧ m = n then some f else lookM t n l
def Tab.meth (T : Tab) (l : List (TypeId × String × FuncId)) : Tab := ⟨T.ty, T.lv, T.mv, fun t n => lookM t n l, T.wr, T.eq⟩
def Tab.wrs (T : Tab) (l : List FuncId) : Tab := ⟨T.ty, T.lv, T.mv, T.mth, l, T.eq⟩
theorem TabOk.wrs {T : Tab} (h : TabOk P T) {l : List FuncId} (hw : ∀ f ∈ l, Writes P f) : TabOk P (T.wrs l) := ⟨h.ty, h.mth, hw, h.eq⟩
def Tab.eqs (T : Tab) (l : List TypeId) : Tab := ⟨T.ty, T.lv, T.mv, T.mth, T.wr, l⟩
theorem TabOk.eqs {T : Tab} (h : TabOk P T) {l : List TypeId} (hl : ∀ t ∈ l, EqSide P t) : TabOk P (T.eqs l) := ⟨h.ty, h.mth, h.wr, hl⟩
theorem lookM_in {t : TypeId} {n : String} {f : FuncId} : ∀ {l : List (TypeId × String × FuncId)}, lookM t n l = some f → (t, n, f) ∈ l
 | [], h => by cases h
 | (u, m, g) :: l, h => by
  unfold lookM at h
  split at h
  ·rename_i e; cases h; obtain ⟨rfl, rfl⟩ := e; simp
  ·exact List.mem_cons_of_mem _ (lookM_in h)
theorem TabOk.meth {T : Tab} (h : TabOk P T) {l : List (TypeId × String × FuncId)} (hm : ∀ p ∈ l, (P.info? p.1).map (fun i => (i.methods.find? (·.name == p.2.1)).map fun m => (m.path.isEmpty, m.func)) = some (some (true, some (p.2.2, false))) ∧ ∃ d, P.underlying p.1 = some d ∧ ∀ e, d ≠ .pointer e) : TabOk P (T.meth l) := by
 refine ⟨h.ty, fun t n f hf v w => ?_, h.wr, h.eq⟩
 obtain ⟨h1, d, h2, h3⟩ := hm (t, n, f) (lookM_in hf)
 simp only [Option.map_eq_some_iff] at h1
 obtain ⟨i, hi, m, hm1, hm2⟩ := h1
 simp only [Prod.mk.injEq] at hm2
 obtain ⟨hm2, hm3⟩ := hm2
 have hd0 : 0 < Made.depth := by decide
 obtain ⟨k, hk⟩ : ∃ k, P.types.size + Made.depth = k + 1 := ⟨P.types.size + Made.depth - 1, by omega⟩
 rw [hk]
 unfold method
 show (Sem.bind _ _).run P w = _
 rw [run_bind_ok (s := typeInfo t) (x := i) (w' := w) (by simp only [typeInfo, program, bind, Sem.bind, Sem.run, hi, pure])]
 simp only [hm1]
 have hp : m.path.toList = [] := by simpa using hm2
 rw [hp]
 show (Sem.bind _ _).run P w = _
 rw [run_bind_ok (s := follow [] t (.val v)) (x := (t, .val v)) (w' := w) rfl]
 simp only [hm3]
 show (Sem.bind _ _).run P w = _
 rw [run_bind_ok (s := receiverAt t (.val v) false _) (x := v) (w' := w) ?_]
 ·rfl
 ·unfold receiverAt
  show (Sem.bind _ _).run P w = _
  rw [run_bind_ok (run_under h2)]
  cases d <;> first | rfl | (exact absurd rfl (h3 _))
theorem look_in {α : Type} {n : Nat} {x : α} : ∀ {l : List (Nat × α)}, look n l = some x → (n, x) ∈ l
 | [], h => by cases h
 | (m, y) :: l, h => by
  unfold look at h
  split at h
  ·rename_i e; cases h; subst e; simp
  ·exact List.mem_cons_of_mem _ (look_in h)
theorem TabOk.of {l : List (Nat × Ty)} {lv : List (Nat × Nat)} (h : ∀ p ∈ l, TyOk P p.2 p.1) : TabOk P (Tab.of l lv) :=
 ⟨fun t τ e => h (t, τ) (look_in e), fun _ _ _ e => (by cases e), fun _ h => (by cases h), fun _ h => (by cases h)⟩
theorem Enters.mk {f : FuncId} {fn : Func} (hf : P.funcs[f]? = some fn) (hn : (fn.name == "runtime.NumGoroutine") = false) (hb : fn.body.isNone = false) : Enters P f := by
 intro args w
 show (Sem.bind _ _).run P w = _
 rw [run_bind_ok (s := program) (x := P) (w' := w) rfl, hf]
 simp only [hn, hb]
 rfl
/-- The contracts: a list. -/
def conOf (l : List (Nat × Con)) (f : FuncId) : Option Con := look f l
theorem ConsOk.nil : ConsOk P (conOf []) := fun f c h => by cases h
theorem ConsOk.cons {f : Nat} {c : Con} {l : List (Nat × Con)} (he : Enters P f) (hf : FnOK P f c) (r : ConsOk P (conOf l)) : ConsOk P (conOf ((f, c) :: l)) := by
 intro g d h
 unfold conOf look at h
 split at h
 ·rename_i e; cases h; subst e; exact ⟨he, hf⟩
 ·exact r g d h
def tblN (l : List (Nat × List Nat)) (n : Nat) : List Nat := (look n l).getD []
def tbl1 (l : List (Nat × Nat)) (n : Nat) : Nat := (look n l).getD 0
end Go.Proofs.YtmjeghlfmhbjdaaDoor.Eng

/- The engine, part 25: contracts that were proved elsewhere; what the walks' own lines need. No condition. -/
namespace Go.Proofs.YtmjeghlfmhbjdaaDoor.Eng
open Go.RowKit
set_option linter.unusedVariables false
set_option linter.unusedSimpArgs false
section
variable {P : Program}
theorem ArgsR.nils {h : Hp} {Z : Nat → Prop} : ∀ {ps : List (Bool × Nat × Ty)} {Bs : List (List Nat)} {vs : List Value} {x : DP ps}, (∀ p ∈ ps, p.2.1 = 0) → ArgsR h Z ps Bs vs x → Bs.flatten = [] ∧ OutR h Z ps Bs vs x := by
 intro ps
 induction ps with
 | nil => intro Bs vs x hp ⟨e1, e2⟩; subst e1; exact ⟨rfl, rfl, e2⟩
 | cons p ps ih =>
  intro Bs vs x hp ⟨B, Bs', v, vs', cs, e1, e2, o, e3, r⟩
  obtain ⟨io, n, t⟩ := p
  have hn : n = 0 := hp _ (List.mem_cons_self ..)
  subst hn
  have hB := o.b0
  have := ih (fun q hq => hp q (List.mem_cons_of_mem _ hq)) r
  refine ⟨by rw [e1, hB]; simpa using this.1, B, Bs', v, vs', e1, e2, ?_, this.2⟩
  cases io <;> exact hB
theorem FnOK.of_callsG {f : FuncId} {c : Con} (hps : ∀ p ∈ c.ps, p.2.1 = 0)
  (h : ∀ (w : World) (Z : Nat → Prop) (Bs : List (List Nat)) (vals : List Value) (x : DP c.ps), ArgsR (hp w) Z c.ps Bs vals x → GOk (hp w) Z c.gl → c.pre x →
   Calls P f vals.toArray w fun e w' => ∃ rv y Rs, e = .returned rv ∧ c.post x y x ∧ Frm [] w w' ∧ Rs.flatten = [] ∧ RetR (hp w') Z c.rs Rs rv y) : FnOK P f c := by
 intro w Z Bs vals x hA hB hZ hG hpre
 obtain ⟨e0, ho⟩ := ArgsR.nils hps hA
 refine (h w Z Bs vals x hA hG hpre).mono ?_
 rintro e w' ⟨rv, y, Rs, rfl, hpost, hf, hR, hret⟩
 have hout : ∀ {Z' : Nat → Prop}, (∀ b, Z b → Z' b) → OutR (hp w') Z' c.ps Bs vals x := by
  have key : ∀ (ps : List (Bool × Nat × Ty)) (Bs : List (List Nat)) (vs : List Value) (x : DP ps) (Z' : Nat → Prop), (∀ p ∈ ps, p.2.1 = 0) → OutR (hp w) Z ps Bs vs x → OutR (hp w') Z' ps Bs vs x := by
   intro ps
   induction ps with
   | nil => intro Bs vs x Z' _ h; exact h
   | cons p ps ih =>
    intro Bs vs x Z' hp ⟨B, Bs', v, vs', e1, e2, om, r⟩
    obtain ⟨io, n, t⟩ := p
    have hn : n = 0 := hp _ (List.mem_cons_self ..)
    subst hn
    exact ⟨B, Bs', v, vs', e1, e2, by cases io <;> exact om, ih _ _ _ _ (fun q hq => hp q (List.mem_cons_of_mem _ hq)) r⟩
  intro Z' _
  exact key _ _ _ _ _ hps ho
 have hlt : Bs.flatten ++ Rs.flatten = [] := by rw [e0, hR]; rfl
 obtain ⟨vs, r1, r2⟩ := hret
 refine ⟨rv, y, x, Bs, Rs, rfl, hpost, by rw [e0]; exact hf, by rw [hlt]; exact .nil, by rw [hlt]; exact fun b hb => (by cases hb), hout (fun b hb => .inl hb), vs, RetL.weaken (fun b hb => .inl hb) r1, r2⟩
theorem FnOK.of_calls {f : FuncId} {c : Con} (hps : ∀ p ∈ c.ps, p.2.1 = 0)
  (h : ∀ (w : World) (Z : Nat → Prop) (Bs : List (List Nat)) (vals : List Value) (x : DP c.ps), ArgsR (hp w) Z c.ps Bs vals x → c.pre x →
   Calls P f vals.toArray w fun e w' => ∃ rv y Rs, e = .returned rv ∧ c.post x y x ∧ Frm [] w w' ∧ Rs.flatten = [] ∧ RetR (hp w') Z c.rs Rs rv y) : FnOK P f c :=
 FnOK.of_callsG hps fun w Z Bs vals x hA _ hp => h w Z Bs vals x hA hp
theorem frm_below {w w' : World} (h : Below w.heap.size w w') : Frm [] w w' := by
 obtain ⟨h1, h2, h3, h4, h5⟩ := h
 exact ⟨h1, h2, h3, h4, fun k hk _ => h5 k hk⟩
theorem ret_int {h : Hp} {Z : Nat → Prop} {k : IntKind} {y : Int} (hk : InK k y) : RetR h Z [(0, .int k)] [[]] (.int k y) (y, ()) :=
 ⟨[.int k y], ⟨[], [], .int k y, [], [.int k y], rfl, rfl, ⟨rfl, rfl, hk⟩, rfl, rfl, rfl⟩, rfl⟩
end
def splP (c : Bool) (A B : Prop) : Prop := match c with | true => A | false => B
theorem splM {c : Bool} {A B : Prop} (h : c = true → A) (h' : c = false → B) : splP c A B := by cases c <;> simp_all [splP]
/-- Two orders that come to the same. -/
theorem and_same {A : Prop} (h : A) : A ∧ A ∧ True := ⟨h, h, trivial⟩
theorem drawRd {ops : Array Oper} {n : Nat} (h1 : n = ops.size) (h2 : Region.lexB .any ops = true) : DrawOk ops n := .inl ⟨h1, h2⟩
theorem drawTail {ops : Array Oper} {n : Nat} (h : Region.lexTailB .any ops n = true) : DrawOk ops n := .inr h
/-- `cbv` writes casts in their unfolded form: these two bring them back. -/
def nI (n : Nat) : Int := (n : Int)
theorem ncast (n : Nat) : (NatCast.natCast n : Int) = nI n := rfl
theorem nI_eq (n : Nat) : nI n = (n : Int) := rfl
theorem w64 {x : Int} (h : -9223372036854775808 ≤ x ∧ x ≤ 9223372036854775807) : IntKind.wrap .i64 x = x := IntWalk.i64_in x h
theorem w8 {x : Int} (h : 0 ≤ x ∧ x ≤ 255) : IntKind.wrap .u8 x = x := IntWalk.u8_in x h
theorem jqn (n : Nat) : (NatCast.natCast n : Int) = nI n := rfl
theorem jqi (n : Nat) : nI n = (n : Int) := rfl
theorem jq1 {p : Prop} [Decidable p] : (decide p = true) = p := decide_eq_true_eq
theorem jq2 {p : Prop} [Decidable p] : (decide p = false) ↔ ¬ p := decide_eq_false_iff_not
theorem jq3 {b : Bool} : ((!b) = true) = (b = false) := Bool.not_eq_true' b
theorem jq4 {b : Bool} : ((!b) = false) = (b = true) := Bool.not_eq_false' b
theorem jq5 (a b : Bool) : ((a && b) = true) = (a = true ∧ b = true) := Bool.and_eq_true a b
theorem jq6 (a b : Bool) : ((a || b) = true) = (a = true ∨ b = true) := Bool.or_eq_true a b
theorem sEq_dec (a b : ByteArray) : (a.toList == b.toList) = decide (a = b) := by
 rw [ByteArray.toList_eq, ByteArray.toList_eq, Bool.eq_iff_iff, decide_eq_true_iff, beq_iff_eq]
 exact ⟨fun h => WideShapes.bytes_inj h, fun h => by rw [h]⟩
theorem size_nil {s : ByteArray} : s = ⟨#[]⟩ ↔ s.size = 0 := by
 constructor
 ·rintro rfl; rfl
 ·intro h; exact ByteArray.ext (Array.eq_empty_of_size_eq_zero h)
theorem maxL_eq : maxL = 140737488355328 := rfl
end Go.Proofs.YtmjeghlfmhbjdaaDoor.Eng

/- The engine: what a law's arguments are, as plain data: a reading of memory opened at a form of data. No condition. -/
namespace Go.Proofs.YtmjeghlfmhbjdaaDoor.Eng
open Go.RowKit
set_option linter.unusedVariables false
set_option linter.unusedSimpArgs false
/-- data without maps, pointers and interfaces -/
def Ty.plain : Ty → Bool
 | .unit => true | .int _ => true | .bool => true | .str => true
 | .pair a b => a.plain && b.plain
 | .sl e => e.plain && decide (0 < e.sz)
 | _ => false
theorem list_choice {α : Type} {Q : Nat → α → Prop} : ∀ {n : Nat}, (∀ i, i < n → ∃ x, Q i x) → ∃ xs : List α, xs.length = n ∧ ∀ i x, xs[i]? = some x → Q i x
 | 0, _ => ⟨[], rfl, fun i x h => by simp at h⟩
 | n + 1, h => by
  obtain ⟨xs, h1, h2⟩ := list_choice (n := n) fun i hi => h i (by omega)
  obtain ⟨y, hy⟩ := h n (by omega)
  refine ⟨xs ++ [y], by simp [h1], fun i x hx => ?_⟩
  by_cases hi : i < n
  ·rw [List.getElem?_append_left (by omega)] at hx; exact h2 i x hx
  ·rw [List.getElem?_append_right (by omega), h1] at hx
   have : i - n = 0 := by
    rcases Nat.eq_zero_or_pos (i - n) with h | h
    ·exact h
    ·rw [List.getElem?_eq_none (by simp; omega)] at hx; cases hx
   rw [this] at hx
   simp at hx; subst hx
   obtain rfl : i = n := by omega
   exact hy
section
variable {H : Type} {enc : TypeId × Value → H} {P : Program} {w : World} {base : Nat} {spare : Nat → Bool} {held : Bool}
/-- the blocks of a world -/
def Zw (w : World) (b : Nat) : Prop := b < w.heap.size
theorem TyF.info {τ : Ty} {t : TypeId} (h : (TyF P τ).1 t) : InfoOk P τ t := TyOk.info h
theorem info_cells {τ : Ty} {t : TypeId} (h : InfoOk P τ t) : P.cellsOf t = τ.sz := by
 obtain ⟨i, h1, h2, _⟩ := h
 unfold Program.cellsOf; rw [h1]; exact h2
theorem info_bytes {τ : Ty} {t : TypeId} (h : InfoOk P τ t) : 1 ≤ P.bytesOf t := by
 obtain ⟨i, h1, _, _, h2, _⟩ := h
 unfold Program.bytesOf; rw [h1]; exact h2
theorem seg_app (l : List Value) (o a b : Nat) : seg l o (a + b) = seg l o a ++ seg l (o + a) b := by
 unfold seg; rw [List.take_add, List.drop_drop]
theorem weightsAll_mem {e : TypeId} {d : DataW H} {n : Nat} : ∀ {ds : List (DataW H)}, d ∈ ds → n ∈ d.weights P e → n ∈ DataW.weightsAll P e ds
 | [], h, _ => by cases h
 | x :: ds, h, hn => by
  simp only [DataW.weightsAll, List.mem_append]
  rcases List.mem_cons.1 h with rfl | h
  ·exact .inl hn
  ·exact .inr (weightsAll_mem h hn)
/-- The cells of a stretch, as a part of one block. -/
theorem cells_seg {a : Addr} {n : Nat} {cs : List Value} (h : w.cells? base a n = some cs) (hn : 0 < n) :
  ∃ arr ty fz, a.spot = none ∧ w.heap[a.block]? = some (.cells arr ty fz) ∧ a.off + n ≤ arr.size ∧ cs = seg arr.toList a.off n := by
 obtain ⟨_, hlen, hcell⟩ := World.cells?_some h
 have h0 := hcell 0 hn
 have e0 : a.add 0 = a := by simp [Addr.add]
 rw [e0, List.getElem?_eq_getElem (by omega)] at h0
 unfold World.cell? at h0
 split at h0
 ·rename_i arr ty fz hh
  split at h0
  ·cases h0
  ·rename_i hs
   have hs' : a.spot = none := by simpa using hs
   have hget : ∀ i, i < n → arr[a.off + i]? = cs[i]? := by
    intro i hi
    have h1 := hcell i hi
    rw [← h1]
    rcases Nat.eq_zero_or_pos i with e | e
    ·subst e; rw [e0]; unfold World.cell?; simp [hh, hs']
    ·have e1 : a.add i = { a with off := a.off + i, spot := none } := by unfold Addr.add; rw [if_neg (by omega)]
     rw [e1]; unfold World.cell?; simp [hh]
   have hsz : a.off + n ≤ arr.size := by
    have := hget (n - 1) (by omega)
    rw [List.getElem?_eq_getElem (by omega)] at this
    have := (Array.getElem?_eq_some_iff.1 this).1
    omega
   refine ⟨arr, ty, fz, hs', hh, hsz, ?_⟩
   apply List.ext_getElem?
   intro i
   rw [seg_get]
   by_cases hi : i < n
   ·rw [if_pos hi, ← hget i hi, Array.getElem?_toList]
   ·rw [if_neg hi, List.getElem?_eq_none (by omega)]
 ·cases h0
theorem open_ty : ∀ (τ : Ty), τ.plain = true →
  (∀ (t : TypeId) (fuel : Nat) (cs : List Value) (d : DataW H) (p : List MemPlace), (TyF P τ).1 t → DataW.trod enc P w base spare held fuel t cs = some (d, p) → (∀ n ∈ d.weights P t, n ≤ reachBytes) → ∃ x, Own (hp w) (Zw w) τ 0 [] cs x) ∧
  (∀ (fs : List Field) (off fuel : Nat) (cs : List Value) (xs : List (DataW H × List MemPlace)), (TyF P τ).2 fs off → xs.length = fs.length → (∀ (i : Nat) (f : Field), fs[i]? = some f → DataW.trod enc P w base spare held fuel f.type ((cs.drop f.offset).take (P.cellsOf f.type)) = xs[i]?) →
   (∀ n ∈ DataW.weightsEach P (fs.map (·.type)) (xs.map (·.1)), n ≤ reachBytes) → ∃ x, Own (hp w) (Zw w) τ 0 [] (seg cs off τ.sz) x) := by
 intro τ
 induction τ with
 | unit =>
  intro _
  refine ⟨fun t fuel cs d p ht h _ => ?_, fun fs off fuel cs xs ht _ h _ => ⟨(), rfl, by simp [seg, Ty.sz]⟩⟩
  obtain ⟨fs, hu, he, hi⟩ := ht
  obtain ⟨xs, n, rfl, _, hl, _⟩ := DataW.trod_struct hu h
  rw [info_cells hi] at hl
  exact ⟨(), rfl, List.eq_nil_of_length_eq_zero hl⟩
 | int k =>
  intro _
  refine ⟨fun t fuel cs d p ht h _ => ?_, fun fs off fuel cs xs ht _ h _ => ht.elim⟩
  obtain ⟨n, rfl, _, hw⟩ := DataW.trod_int ht.1 h
  exact ⟨n, rfl, rfl, by simpa [InK, Lit.wf] using hw⟩
 | bool =>
  intro _
  refine ⟨fun t fuel cs d p ht h _ => ?_, fun fs off fuel cs xs ht _ h _ => ht.elim⟩
  obtain ⟨b, rfl, _⟩ := DataW.trod_bool ht.1 h
  exact ⟨b, rfl, rfl⟩
 | str =>
  intro _
  refine ⟨fun t fuel cs d p ht h hw => ?_, fun fs off fuel cs xs ht _ h _ => ht.elim⟩
  obtain ⟨s, rfl, hd, _⟩ := DataW.trod_string ht.1 h
  simp only [Prod.mk.injEq] at hd
  obtain ⟨rfl, _⟩ := hd
  refine ⟨s, rfl, rfl, ?_⟩
  have := hw s.data.toList.length (by simp [DataW.weights])
  simp at this
  exact Nat.le_trans this (by decide)
 | pair a b iha ihb =>
  intro hpl
  simp only [Ty.plain, Bool.and_eq_true] at hpl
  obtain ⟨ia1, ia2⟩ := iha hpl.1
  obtain ⟨ib1, ib2⟩ := ihb hpl.2
  have key : ∀ (fs : List Field) (off fuel : Nat) (cs : List Value) (xs : List (DataW H × List MemPlace)), (∃ f l, fs = f :: l ∧ f.offset = off ∧ (TyF P a).1 f.type ∧ (TyF P b).2 l (off + a.sz)) → xs.length = fs.length → (∀ (i : Nat) (f : Field), fs[i]? = some f → DataW.trod enc P w base spare held fuel f.type ((cs.drop f.offset).take (P.cellsOf f.type)) = xs[i]?) →
   (∀ n ∈ DataW.weightsEach P (fs.map (·.type)) (xs.map (·.1)), n ≤ reachBytes) → ∃ x, Own (hp w) (Zw w) (.pair a b) 0 [] (seg cs off (a.sz + b.sz)) x := by
   rintro fs off fuel cs xs ⟨f, l, rfl, rfl, h1, h2⟩ hlen h hw
   match xs, hlen, h, hw with
   | y :: ys, hlen, h, hw =>
    have hx := h 0 f rfl
    have hxs : ∀ (i : Nat) (f' : Field), l[i]? = some f' → DataW.trod enc P w base spare held fuel f'.type ((cs.drop f'.offset).take (P.cellsOf f'.type)) = ys[i]? := fun i f' hf => by simpa using h (i + 1) f' (by simpa using hf)
    simp only [List.getElem?_cons_zero] at hx
    simp only [List.map_cons, DataW.weightsEach, List.mem_append] at hw
    obtain ⟨x1, o1⟩ := ia1 _ _ _ y.1 y.2 h1 hx (fun n hn => hw n (.inl hn))
    obtain ⟨x2, o2⟩ := ib2 _ _ _ _ _ h2 (by simpa using hlen) hxs (fun n hn => hw n (.inr hn))
    rw [info_cells (TyF.info h1)] at o1
    exact ⟨(x1, x2), [], [], _, _, rfl, seg_app cs f.offset a.sz b.sz, o1, o2⟩
  refine ⟨fun t fuel cs d p ht h hw => ?_, fun fs off fuel cs xs ht hl h hw => key fs off fuel cs xs ht hl h hw⟩
  obtain ⟨fs, hu, ⟨f, l, e1, e2, e3, e4⟩, hi⟩ := ht
  obtain ⟨xs, n, rfl, hd, hl, hlen, hf⟩ := DataW.trod_struct hu h
  simp only [Prod.mk.injEq] at hd
  obtain ⟨rfl, _⟩ := hd
  rw [info_cells hi] at hl
  simp only [DataW.weights, hu] at hw
  obtain ⟨x, hx⟩ := key fs.toList 0 n cs xs ⟨f, l, e1, e2, e3, by simpa using e4⟩ (by simpa using hlen) (fun i f' hi => hf i f' (by simpa using hi)) hw
  refine ⟨x, ?_⟩
  have : seg cs 0 (a.sz + b.sz) = cs := by
   have hl' : a.sz + b.sz = cs.length := hl.symm
   rw [hl']; exact seg_self cs
  rw [this] at hx; exact hx
 | sl e ih =>
  intro hpl
  simp only [Ty.plain, Bool.and_eq_true, decide_eq_true_eq] at hpl
  obtain ⟨ie, _⟩ := ih hpl.1
  refine ⟨fun t fuel cs d p ht h hw => ?_, fun fs off fuel cs xs ht _ h _ => ht.elim⟩
  obtain ⟨te, hu, hte, hi⟩ := ht
  have hce : P.cellsOf te = e.sz := info_cells (TyF.info hte)
  have hbe : 1 ≤ P.bytesOf te := info_bytes (TyF.info hte)
  rcases DataW.trod_slice hu h with ⟨rfl, _⟩ | ⟨a, len, cap, elems, rest, n, rfl, rfl, hd, hb1, hb2, hb3, hl, he, _⟩
  ·exact ⟨[], none, 0, rfl, Nat.le_refl _, Nat.zero_le _, rfl, fun hx => absurd rfl hx⟩
  ·simp only [Prod.mk.injEq] at hd
   obtain ⟨rfl, _⟩ := hd
   rw [hce] at he
   simp only [DataW.weights, hu, List.mem_cons, List.mem_append] at hw
   have hlen : len ≤ maxL := by
    have h1 := hw _ (.inl rfl)
    simp only [List.length_map, hl] at h1
    have h2 : len ≤ (len + rest.length) * P.bytesOf te := Nat.le_trans (Nat.le_add_right _ _) (Nat.le_mul_of_pos_right _ hbe)
    exact Nat.le_trans (Nat.le_trans h2 h1) (by decide)
   have hel : ∀ i, i < len → ∃ arr ty fz, (a.add (i * e.sz)).spot = none ∧ w.heap[a.block]? = some (.cells arr ty fz) ∧ a.off + i * e.sz + e.sz ≤ arr.size ∧ ∃ x, Own (hp w) (Zw w) e 0 [] (seg arr.toList (a.off + i * e.sz) e.sz) x := by
    intro i hi
    have h1 := he i hi
    rw [List.getElem?_eq_getElem (by omega)] at h1
    simp only [Option.bind_eq_some_iff] at h1
    obtain ⟨ci, hc, ht⟩ := h1
    obtain ⟨arr, ty, fz, c1, c2, c3, c4⟩ := cells_seg hc hpl.2
    have eb : (a.add (i * e.sz)).block = a.block := by unfold Addr.add; split <;> rfl
    have eo : (a.add (i * e.sz)).off = a.off + i * e.sz := by unfold Addr.add; split <;> simp_all
    obtain ⟨x, hx⟩ := ie te n ci elems[i].1 elems[i].2 hte ht (fun n hn => hw n (.inr (.inl (weightsAll_mem (List.mem_map.2 ⟨_, List.getElem_mem (by omega), rfl⟩) hn))))
    rw [eb] at c2; rw [eo] at c3 c4
    subst c4
    exact ⟨arr, ty, fz, c1, c2, c3, x, hx⟩
   rcases Nat.eq_zero_or_pos len with h0 | h0
   ·subst h0
    exact ⟨[], some a, cap, rfl, Nat.zero_le _, Nat.zero_le _, rfl, fun hx => absurd rfl hx⟩
   ·obtain ⟨arr, ty, fz, hsp, hh, _, _⟩ := hel 0 h0
    have hsp : a.spot = none := by simpa [Addr.add] using hsp
    have hel' : ∀ i, i < len → ∃ x, a.off + i * e.sz + e.sz ≤ arr.size ∧ Own (hp w) (Zw w) e 0 [] (seg arr.toList (a.off + i * e.sz) e.sz) x := by
     intro i hi
     obtain ⟨arr', ty', fz', _, hh', h1, x, h2⟩ := hel i hi
     rw [hh] at hh'
     cases hh'
     exact ⟨x, h1, h2⟩
    obtain ⟨xs, hx1, hx2⟩ := list_choice hel'
    refine ⟨xs, some a, cap, by rw [hx1], by omega, by omega, rfl, fun _ => ⟨a.block, a.off, arr, ty, fz, ?_, ?_, hh, ?_, fun i x hi => (hx2 i x hi).2⟩⟩
    ·cases a; simp at hsp; subst hsp; rfl
    ·exact (Array.getElem?_eq_some_iff.1 hh).1
    ·have hlt : len - 1 < xs.length := by omega
     have := (hx2 (len - 1) _ (List.getElem?_eq_getElem hlt)).1
     rw [hx1]
     have e2 : len * e.sz = (len - 1) * e.sz + e.sz := by
      have : len = (len - 1) + 1 := by omega
      conv => lhs; rw [this, Nat.succ_mul]
     omega
 | _ => intro h; cases h
/-- the arguments' forms -/
def ArgTys (P : Program) : List (Bool × Nat × Ty) → List TypeId → Prop
 | [], [] => True
 | p :: ps, t :: ts => p.2.1 = 0 ∧ p.2.2.plain = true ∧ TyOk P p.2.2 t ∧ ArgTys P ps ts
 | _, _ => False
theorem val_shape {τ : Ty} {t : TypeId} {v : Value} {r : Reach} {b0 : Nat} (hp : τ.plain = true) (ht : TyOk P τ t) (hv : Value.okWide P w r b0 t v) : v = valOf τ.agg v.cells.toList := by
 cases τ with
 | unit =>
  obtain ⟨fs, hu, _⟩ := ht
  obtain ⟨cs, rfl, _⟩ := WideShapes.okWide_struct hu hv
  simp [valOf, Ty.agg, Value.cells]
 | pair a b =>
  obtain ⟨fs, hu, _⟩ := ht
  obtain ⟨cs, rfl, _⟩ := WideShapes.okWide_struct hu hv
  simp [valOf, Ty.agg, Value.cells]
 | int k => obtain ⟨n, rfl⟩ := WideShapes.okWide_int ht.1 hv; rfl
 | bool => obtain ⟨n, rfl⟩ := WideShapes.okWide_bool ht.1 hv; rfl
 | str => obtain ⟨n, rfl⟩ := WideShapes.okWide_string ht.1 hv; rfl
 | sl e => obtain ⟨te, hu, _⟩ := ht; obtain ⟨_, _, _, rfl⟩ := WideShapes.okWide_slice hu hv; rfl
 | _ => cases hp
theorem open_args {r : Reach} {b0 : Nat} {us : List TypeId} {es : List (DataW H)} : ∀ {ps : List (Bool × Nat × Ty)} {ts : List TypeId} {vs : List Value} {ds : List (DataW H)} {p : List MemPlace}, ArgTys P ps ts → DataW.TrodAll enc P w base spare held ts vs ds p →
  (∀ (j : Nat) t v, ts[j]? = some t → vs[j]? = some v → Value.okWide P w r b0 t v) → (∀ n ∈ DataW.weightsEach P (ts ++ us) (ds ++ es), n ≤ reachBytes) → ∃ x, ArgsR (hp w) (Zw w) ps (ps.map fun _ => []) vs x
 | [], [], vs, ds, p, _, h, _, _ => by
  obtain ⟨rfl, _⟩ := ChangeShapes.trodAll_nil h
  exact ⟨(), rfl, rfl⟩
 | q :: ps, t :: ts, vs, ds, p, ha, h, hv, hw => by
  obtain ⟨h0, hp, ht, hr⟩ := ha
  obtain ⟨v, vs', d, ds', p', q', rfl, rfl, rfl, ⟨fuel, h1⟩, h2⟩ := ChangeShapes.trodAll_cons h
  simp only [List.cons_append, DataW.weightsEach, List.mem_append] at hw
  obtain ⟨x, hx⟩ := (open_ty (enc := enc) (P := P) (w := w) (base := base) (spare := spare) (held := held) q.2.2 hp).1 t fuel _ _ _ ht h1 (fun n hn => hw n (.inl hn))
  obtain ⟨y, hy⟩ := open_args hr h2 (fun j t' v' e1 e2 => hv (j + 1) t' v' (by simpa using e1) (by simpa using e2)) (fun n hn => hw n (.inr hn))
  refine ⟨(x, y), [], _, v, vs', v.cells.toList, rfl, rfl, ?_, val_shape hp ht (hv 0 t v rfl rfl), hy⟩
  rw [h0]; exact hx
 | [], _ :: _, _, _, _, ha, _, _, _ => ha.elim
 | _ :: _, [], _, _, _, ha, _, _, _ => ha.elim
theorem args_none (ps : List (Bool × Nat × Ty)) : (ps.map fun _ => ([] : List Nat)).flatten = [] := by
 induction ps with
 | nil => rfl
 | cons p ps ih => simp
/-- A law: it answers true, and of what was there nothing has turned. -/
theorem law_walk {f : FuncId} {ps : List (Bool × Nat × Ty)} {pre : DP ps → Prop} {post : DP ps → DR [(0, .bool)] → DP ps → Prop} {gl : List (Nat × Value)}
  (ok : FnOK P f { ps := ps, rs := [(0, .bool)], pre := pre, post := post, gl := gl }) (hpre : ∀ x, pre x) (hpost : ∀ x y x', post x y x' → y.1 = true) {W : World} (hg : GOk (hp W) (Zw W) gl)
  {vs : List Value} {x : DP ps} (hA : ArgsR (hp W) (Zw W) ps (ps.map fun _ => []) vs x) : Calls P f vs.toArray W fun e w' => e = .returned (.bool true) ∧ Below W.heap.size W w' := by
 have h := ok W (Zw W) _ vs x hA (by rw [args_none]; exact .nil) (by rw [args_none]; intro b hb; cases hb) hg (hpre x)
 refine Calls.mono h ?_
 rintro e w' ⟨rv, y, x', Bs', Rs, rfl, hp, hf, _, _, _, vs', hr, rfl⟩
 obtain ⟨_, _, v, vs'', cs, _, rfl, ⟨_, rfl⟩, rfl, _, rfl⟩ := hr
 have hy : y.1 = true := hpost _ _ _ hp
 refine ⟨?_, Frm.below (by simpa only [args_none] using hf)⟩
 show Ending.returned (valOf false [Value.bool y.1]) = _
 rw [hy]; rfl
theorem trodAll_stays {W W' : World} (hl : laidOutB P = true) (hb : Below W.heap.size W W') : ∀ {ts : List TypeId} {vs : List Value} {ds : List (DataW H)} {p : List MemPlace}, (ts.all fun t => P.readableRec t && decide (t < P.types.size)) = true →
  DataW.TrodAll enc P W 0 (fun _ => true) true ts vs ds p → (∀ x ∈ p, x.block < W.heap.size) → DataW.TrodAll enc P W' 0 (fun b => decide (b < W.heap.size)) true ts vs ds p
 | [], vs, ds, p, _, h, _ => by
  obtain ⟨rfl, rfl, rfl⟩ := ChangeShapes.trodAll_nil h; rfl
 | t :: ts, vs, ds, p, ht, h, hlt => by
  simp only [List.all_cons, Bool.and_eq_true, decide_eq_true_eq] at ht
  obtain ⟨v, vs', d, ds', p', q', rfl, rfl, rfl, h1, h2⟩ := ChangeShapes.trodAll_cons h
  exact ⟨p', q', Below.trod hl ht.1.1 ht.1.2 h1 hb (fun x hx => hlt x (by simp [hx])), trodAll_stays hl hb ht.2 h2 (fun x hx => hlt x (by simp [hx])), rfl⟩
/-- variables of interface types -/
def ifaceVars (P : Program) (ns : List String) : Bool := ns.all fun n => match P.globalNamed n with
 | some g => match (P.globals[g]?).map (·.type) with
  | some t => match P.underlying t with | some (.interface _) => true | _ => false
  | none => false
 | none => false
theorem trodVars_stays {W W' : World} (hb : Below W.heap.size W W') {sp : Nat → Bool} : ∀ {ns : List String} {gs : List (DataW H)} {q : List MemPlace}, ifaceVars P ns = true → DataW.TrodVars enc P W (fun _ => true) ns gs q → DataW.TrodVars enc P W' sp ns gs q
 | [], gs, q, _, h => by
  cases gs with
  | nil => exact h
  | cons g gs => exact h.elim
 | n :: ns, [], q, _, h => h.elim
 | n :: ns, d :: ds, q, hi, ⟨g, t, cs, fuel, p, q', h1, h2, h3, h4, h5, h6⟩ => by
  have hi' := hi
  unfold ifaceVars at hi'
  rw [List.all_cons, Bool.and_eq_true] at hi'
  obtain ⟨hi1, hi2⟩ := hi'
  rw [h1] at hi1
  simp only [h2] at hi1
  refine ⟨g, t, cs, fuel, p, q', h1, h2, ?_, ?_, trodVars_stays hb (by unfold ifaceVars; exact hi2) h5, h6⟩
  ·unfold World.var? at h3 ⊢
   rw [h1] at h3 ⊢
   simp only [Option.bind_some] at h3 ⊢
   have hlt : g < W.heap.size := by
    rcases Nat.lt_or_ge g W.heap.size with h | h
    ·exact h
    ·rw [Array.getElem?_eq_none h] at h3; cases h3
   rw [hb.block g hlt]; exact h3
  ·cases fuel with
   | zero => simp [DataW.trod] at h4
   | succ fuel =>
    split at hi1
    ·rename_i ms hu
     unfold DataW.trod at h4 ⊢
     rw [hu] at h4 ⊢
     match cs.toList, h4 with
     | [.nilIface], h4 => exact h4
     | [.iface u v], h4 => exact h4
     | [], h4 => simp at h4
     | [.bool _], h4 => simp at h4
     | [.int _ _], h4 => simp at h4
     | [.string _], h4 => simp at h4
     | [.pointer _], h4 => simp at h4
     | [.slice _ _ _], h4 => simp at h4
     | [.agg _], h4 => simp at h4
     | [.tuple _], h4 => simp at h4
     | a :: b :: l, h4 => simp at h4
    ·cases hi1
end
end Go.Proofs.YtmjeghlfmhbjdaaDoor.Eng

/- The engine: a law's row out of its contract. No condition. -/
namespace Go.Proofs.YtmjeghlfmhbjdaaDoor.Eng
open Go.RowKit Go.ChangeShapes
set_option linter.unusedVariables false
set_option linter.unusedSimpArgs false
theorem trodAll_len {H : Type} {enc : TypeId × Value → H} {P : Program} {w : World} {base : Nat} {spare : Nat → Bool} {held : Bool} : ∀ {ts : List TypeId} {vs : List Value} {ds : List (DataW H)} {p : List MemPlace}, DataW.TrodAll enc P w base spare held ts vs ds p → ds.length = ts.length
 | [], vs, ds, p, h => by obtain ⟨rfl, rfl, rfl⟩ := trodAll_nil h; rfl
 | t :: ts, vs, ds, p, h => by
  obtain ⟨v, vs', d, ds', p', q', rfl, rfl, rfl, h1, h2⟩ := trodAll_cons h
  simp [trodAll_len h2]
theorem trodVars_len {H : Type} {enc : TypeId × Value → H} {P : Program} {w : World} {spare : Nat → Bool} : ∀ {ns : List String} {gs : List (DataW H)} {q : List MemPlace}, DataW.TrodVars enc P w spare ns gs q → gs.length = ns.length
 | [], [], q, h => rfl
 | [], _ :: _, q, h => h.elim
 | n :: ns, [], q, h => h.elim
 | n :: ns, d :: ds, q, ⟨_, _, _, _, _, _, _, _, _, _, h, _⟩ => by simp [trodVars_len h]
theorem law_row {H : Type} {enc : TypeId × Value → H} {P : Program} {f : FuncId} {fn : Func} {s : ChangeSpec} {t : TypeId} {ps : List (Bool × Nat × Ty)} {pre : DP ps → Prop} {post : DP ps → DR [(0, .bool)] → DP ps → Prop} {gl : List (Nat × Value)} {apart : Bool} {us : List TypeId}
  (hl : laidOutB P = true) (hr : fn.resultTypes = #[t]) (hb : P.underlying t = some .bool) (hrec : (fn.params.toList.all fun t => P.readableRec t && decide (t < P.types.size)) = true) (hps : ArgTys P ps fn.params.toList) (hiv : ifaceVars P s.vars = true)
  (hfn : ∀ (ds gs : List (DataW H)), ds.length = fn.params.toList.length → gs.length = s.vars.length → s.fn H (ds ++ gs) = { results := [.lit (.bool true)], args := ds, vars := gs })
  (ok : FnOK P f { ps := ps, rs := [(0, .bool)], pre := pre, post := post, gl := gl }) (hpre : ∀ x, pre x) (hpost : ∀ x y x', post x y x' → y.1 = true)
  {W : World} {base : Nat} {args : Array Value} {ds gs : List (DataW H)} {before : List MemPlace} (hval : ∀ (j : Nat) t v, fn.params[j]? = some t → args[j]? = some v → Value.okWide P W .any base t v)
  (hW : DataW.Whole enc P fn.params.toList s.vars apart W args.toList ds gs before) (hsz : (DataW.weightsEach P (fn.params.toList ++ us) (ds ++ gs)).all (· ≤ reachBytes) = true) (hg : GOk (hp W) (Zw W) gl) :
  Calls P f args W fun e W' => ∃ v, e = .returned v ∧ s.post enc P fn apart true false false W args v W' := by
 have hW' := hW
 obtain ⟨p, q, hA, hV, rfl, hfz, hnd⟩ := hW
 obtain ⟨x, hx⟩ := open_args hps hA (fun j t v h1 h2 => hval j t v (by simpa using h1) (by simpa using h2)) (fun n hn => by simpa using List.all_eq_true.1 hsz n hn)
 have h := law_walk ok hpre hpost hg hx
 refine Calls.mono (by simpa using h) ?_
 rintro e W' ⟨rfl, hB⟩
 have hlt : ∀ x ∈ p, x.block < W.heap.size := fun x hx => hW'.lt x (List.mem_append_left _ hx)
 have e := hfn ds gs (trodAll_len hA) (trodVars_len hV)
 refine ⟨_, rfl, ds, gs, _, [], p, q, hW', ?_, ?_, ?_, hB.frame _, fun h => by cases h⟩
 ·rw [e, hr]; exact trodAll_mk1 (shut_bool hb _)
 ·rw [e]; exact trodAll_stays hl hB hrec hA hlt
 ·rw [e]; exact trodVars_stays hB hiv hV
end Go.Proofs.YtmjeghlfmhbjdaaDoor.Eng
