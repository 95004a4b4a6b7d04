/- The engine, nineteenth part: operations in a row, and what is kept between them. No condition. -/
import Derived.Test.YtjpeblicfhfniaaDoorEngZB
import Derived.StillTail
namespace Go.Proofs.YtjpeblicfhfniaaDoor.Eng
open Go.RowKit
set_option linter.unusedVariables false
set_option linter.unusedSimpArgs false

def allHole : List (Nat × SV) → Bool
  | [] => true
  | (_, v) :: l => noHole v && allHole l
def evs (Γ : Ctx) : List Operand → List SV
  | [] => []
  | x :: l => Γ.eval x :: evs Γ l
def evp (Γ : Ctx) : List (Nat × Operand) → List (Nat × SV)
  | [] => []
  | (n, x) :: l => (n, Γ.eval x) :: evp Γ l
def evo (Γ : Ctx) : Option Operand → Option SV
  | none => none
  | some x => some (Γ.eval x)
def below (n : Nat) : List (Nat × Operand) → Bool
  | [] => true
  | (k, _) :: l => decide (k < n) && below n l
def tls : List Operand → List Operand → Prop := fun a b => a = b
section
variable (M : Mth) (T : Tab) (C : FuncId → Option Con)
def isRd : Op → Bool
  | .move _ | .assign _ | .pick .. | .binOp .. | .unOp .. | .convert .. | .load .. | .indexAddr .. | .fieldAddr .. | .field .. | .index .. | .extract .. | .nilCheck _ | .build .. | .slice .. | .lookup .. => true
  | .call { callee := .builtin .len, .. } => true
  | _ => false
def vcBuiltin (b : Builtin) (d : Option Nat) (xs : List SV) (ts : List TypeId) (Γ : Ctx) (K : Ctx → Prop) : Prop :=
  match b, xs with
  | .append, [x, y] => opAppend M T Γ d K ts x y
  | .len, [x] => opLen M T Γ d K ts x
  | .max, [x, y] => opMM M Γ d K true x y
  | .min, [x, y] => opMM M Γ d K false x y
  | .delete, [x, y] => match ts with
    | [t, _] => opDelete M T Γ d K t x y
    | _ => False
  | _, _ => False
def vcOp2 (o : Oper) (Γ : Ctx) (K : Ctx → Prop) : Prop :=
  match o.op with
  | .makeMap t none => opMakeMap T Γ o.dst K t
  | .insert t x k v => match o.dst with
    | none => opInsert M T Γ K t (Γ.eval x) (Γ.eval k) (Γ.eval v)
    | some _ => False
  | .mapUpdate t x k v => match o.dst with
    | none => opInsert M T Γ K t (Γ.eval x) (Γ.eval k) (Γ.eval v)
    | some _ => False
  | .lookup t x k ok => opLookup M T Γ o.dst K t (Γ.eval x) (Γ.eval k) ok
  | _ => False
def vcOp (o : Oper) (Γ : Ctx) (K : Ctx → Prop) : Prop :=
  match o.op with
  | .move x => Γ.on o.dst (Γ.eval x) K
  | .assign x => Γ.on o.dst (Γ.eval x) K
  | .pick c a b => opPick Γ o.dst K (Γ.eval c) (Γ.eval a) (Γ.eval b)
  | .binOp op _ x y _ => bin M op (Γ.eval x) (Γ.eval y) fun v => Γ.on o.dst v K
  | .unOp op _ x => opUn M Γ o.dst K op (Γ.eval x)
  | .convert s t x => opConv M T Γ o.dst K s t (Γ.eval x)
  | .load t x => opLoad M T Γ o.dst K t (Γ.eval x)
  | .store t x v => match o.dst with
    | none => opStore M T Γ K t (Γ.eval x) (Γ.eval v)
    | some _ => False
  | .indexAddr t x i => opIndexAddr M T Γ o.dst K t (Γ.eval x) (Γ.eval i)
  | .fieldAddr t x n => opFieldAddr T Γ o.dst K t (Γ.eval x) n
  | .field t x n => opField T Γ o.dst K t (Γ.eval x) n
  | .index t x i => opIndexStr M T Γ o.dst K t (Γ.eval x) (Γ.eval i)
  | .extract x n => opExtract Γ o.dst K (Γ.eval x) n
  | .nilCheck x => opNil Γ o.dst K (Γ.eval x)
  | .build t ps => match allHole (evp Γ ps.toList) with
    | true => opBuild T Γ o.dst K t (evp Γ ps.toList)
    | false => False
  | .buildSlice t n ps => match below n ps.toList with
    | true => opBuildSlice T Γ o.dst K t n (evp Γ ps.toList)
    | false => False
  | .makeSlice t x y => opMakeSlice M T Γ o.dst K t (Γ.eval x) (Γ.eval y)
  | .slice t x lo hi none => opSlice M T Γ o.dst K t (Γ.eval x) (evo Γ lo) (evo Γ hi)
  | .alloc t => match T.ty t with
    | some u => opBox Γ o.dst K u (zeroSV u)
    | none => False
  | .box t x => match T.ty t with
    | some u => opBox Γ o.dst K u (Γ.eval x)
    | none => False
  | .call { callee := .builtin b, args, argTypes } => vcBuiltin M T b o.dst (evs Γ args.toList) argTypes.toList Γ K
  | .call { callee := .value (.func f), args, .. } => match C f with
    | some c => opCall Γ o.dst K c (evs Γ args.toList)
    | none => False
  | .range t x => opRange T Γ o.dst K t (Γ.eval x)
  | .next x str => opNext M Γ o.dst K (Γ.eval x) str
  | _ => vcOp2 M T o Γ K
end
theorem evs_map (Γ : Ctx) : ∀ l : List Operand, evs Γ l = l.map Γ.eval
  | [] => rfl
  | x :: l => by rw [evs, evs_map Γ l]; rfl
theorem evp_map (Γ : Ctx) : ∀ l : List (Nat × Operand), evp Γ l = l.map fun p => (p.1, Γ.eval p.2)
  | [] => rfl
  | (n, x) :: l => by rw [evp, evp_map Γ l]; rfl
theorem evo_map (Γ : Ctx) : ∀ l : Option Operand, evo Γ l = l.map Γ.eval
  | none => rfl
  | some x => rfl
theorem allHole_ok (Γ : Ctx) : ∀ l : List (Nat × Operand), allHole (evp Γ l) = true → ∀ p ∈ l, noHole (Γ.eval p.2) = true
  | [], _, p, hp => by cases hp
  | (n, x) :: l, h, p, hp => by
    simp only [evp, allHole, Bool.and_eq_true] at h
    rcases List.mem_cons.1 hp with rfl | hp
    · exact h.1
    · exact allHole_ok Γ l h.2 p hp
theorem below_ok (n : Nat) : ∀ l : List (Nat × Operand), below n l = true → ∀ p ∈ l, p.1 < n
  | [], _, p, hp => by cases hp
  | (k, x) :: l, h, p, hp => by
    simp only [below, Bool.and_eq_true, decide_eq_true_eq] at h
    rcases List.mem_cons.1 hp with rfl | hp
    · exact h.1
    · exact below_ok n l h.2 p hp
section
variable {P : Program} {T : Tab} {C : FuncId → Option Con} {Bb : Nat → Prop} {w0 : World} {O0 : List Nat} {av : List Value} {Γ Γ' : Ctx} {a : Act} {w w' : World} {β : Nat → Value} {F : Nat → List Nat} {K : Ctx → Prop} {o : Oper} {Q : Exit → Act → World → Prop}
theorem sound_bin (S : Sim Bb w0 O0 av Γ a w β F) {op : BinOp} {t ty : TypeId} {x y : Operand} (ho : o.op = .binOp op t x y ty) (hk : bin real op (Γ.eval x) (Γ.eval y) fun v => Γ.on o.dst v K) : Reads P o a w (Nx Bb w0 O0 av K) := by
  obtain ⟨v, z, h1, h2, h3⟩ := run_bin (P := P) (w := w) (t := t) (oa := x) (ob := y) (S.eval x) (S.eval y) hk
  exact go_value S (by unfold execOp; rw [ho]; exact run_v h3) h2 h1
theorem list1 {α : Type} {l : Array α} {x : α} (h : l.toList = [x]) : l = #[x] := by apply Array.toList_inj.1; rw [h]
theorem list2 {α : Type} {l : Array α} {x y : α} (h : l.toList = [x, y]) : l = #[x, y] := by apply Array.toList_inj.1; rw [h]
theorem sound_rd2 (hT : TabOk P T) (S : Sim Bb w0 O0 av Γ a w β F) (hr : isRd o.op = true) (hk : vcOp2 real T o Γ K) : Reads P o a w (Nx Bb w0 O0 av K) := by
  unfold vcOp2 at hk
  split at hk
  · rename_i t ho; rw [ho] at hr; cases hr
  · rename_i t x k v ho; rw [ho] at hr; cases hr
  · rename_i t x k v ho; rw [ho] at hr; cases hr
  · rename_i t x k ok ho; exact sound_lookup hT S ho hk
  · exact hk.elim
theorem sound_rd (hT : TabOk P T) (S : Sim Bb w0 O0 av Γ a w β F) (hr : isRd o.op = true) (hk : vcOp real T C o Γ K) : Reads P o a w (Nx Bb w0 O0 av K) := by
  unfold vcOp at hk
  split at hk
  · rename_i x ho; exact sound_move S (.inl ho) hk
  · rename_i x ho; exact sound_move S (.inr ho) hk
  · rename_i c x y ho; exact sound_pick S ho hk
  · rename_i op t x y t2 ho; exact sound_bin S ho hk
  · rename_i op t x ho; exact sound_un S ho hk
  · rename_i s t x ho; exact sound_conv hT S ho hk
  · rename_i t x ho; exact sound_load hT S ho hk
  · rename_i t x v ho; rw [ho] at hr; cases hr
  · rename_i t x i ho; exact sound_indexAddr hT S ho hk
  · rename_i t x n ho; exact sound_fieldAddr hT S ho hk
  · rename_i t x n ho; exact sound_field hT S ho hk
  · rename_i t x i ho; exact sound_indexStr hT S ho hk
  · rename_i x n ho; exact sound_extract S ho hk
  · rename_i x ho; exact sound_nil S ho hk
  · rename_i t ps ho
    split at hk
    · rename_i hn
      rw [evp_map] at hk
      exact sound_build hT S ho (allHole_ok Γ _ hn) hk
    · exact hk.elim
  · rename_i t n ps ho; rw [ho] at hr; cases hr
  · rename_i t x y ho; rw [ho] at hr; cases hr
  · rename_i t x lo hi ho
    rw [evo_map, evo_map] at hk
    exact sound_slice hT S ho hk
  · rename_i t ho; rw [ho] at hr; cases hr
  · rename_i t x ho; rw [ho] at hr; cases hr
  · rename_i b args ts ho
    rw [ho] at hr
    cases b <;> first | (cases hr; done) | skip
    unfold vcBuiltin at hk
    rw [evs_map] at hk
    split at hk <;> first | (rename_i h _; cases h; done) | skip
    · rename_i x' h1 h2
      have : ∃ x, args.toList = [x] ∧ x' = Γ.eval x := by
        cases hl : args.toList with
        | nil => rw [hl] at h2; cases h2
        | cons x l =>
          rw [hl] at h2
          simp only [List.map_cons, List.cons.injEq, List.map_eq_nil_iff] at h2
          exact ⟨x, by rw [h2.2], h2.1.symm⟩
      obtain ⟨x, hx, rfl⟩ := this
      have hx' := list1 hx
      subst hx'
      have : ∃ t, ts.toList = [t] := by
        unfold opLen at hk
        split at hk
        · rename_i t ht; exact ⟨t, ht⟩
        · exact hk.elim
      obtain ⟨t, ht⟩ := this
      have ht' := list1 ht
      subst ht'
      exact sound_len hT S ho hk
    · exact hk.elim
  · rename_i f args ts ho; rw [ho] at hr; cases hr
  · rename_i t x ho; rw [ho] at hr; cases hr
  · rename_i x st ho; rw [ho] at hr; cases hr
  · exact sound_rd2 hT S hr hk
end
end Go.Proofs.YtjpeblicfhfniaaDoor.Eng
