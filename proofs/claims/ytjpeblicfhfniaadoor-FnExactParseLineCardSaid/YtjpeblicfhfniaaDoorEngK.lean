/- The engine, eleventh part: the other operations. No condition. -/
import Derived.Test.YtjpeblicfhfniaaDoorEngJ
namespace Go.Proofs.YtjpeblicfhfniaaDoor.Eng
open Go.RowKit
set_option linter.unusedVariables false
set_option linter.unusedSimpArgs false

section
variable (M : Mth) (T : Tab) (Γ : Ctx) (d : Option Nat) (K : Ctx → Prop)
def opPick (c a b : SV) : Prop :=
  match c with
  | .pv _ .bool x => match x with
    | true => Γ.on d a K
    | false => Γ.on d b K
  | _ => False
def opUn (op : UnOp) (x : SV) : Prop :=
  match op, x with
  | .neg, .pv _ (.int k) n => Γ.on d (.pv [] (.int k) (M.wrap k (M.sub 0 n))) K
  | .xor, .pv _ (.int k) n => Γ.on d (.pv [] (.int k) (M.bit .xor k (if k.signed then -1 else k.max) n)) K
  | .not, .pv _ .bool b => Γ.on d (.pv [] .bool (M.not b)) K
  | _, _ => False
def opLen (ts : List TypeId) (x : SV) : Prop :=
  match ts with
  | [t] => match T.ty t with
    | some (.sl _) => match x with
      | .pv _ (.sl _) xs => Γ.on d (.pv [] (.int .i64) (M.ofN (M.len xs))) K
      | .nils => Γ.on d (.pv [] (.int .i64) 0) K
      | .ref r => match look r Γ.roots with
        | some (.row _ _ xs) => Γ.on d (.pv [] (.int .i64) (M.ofN (M.len xs))) K
        | _ => False
      | _ => False
    | some .str => match x with
      | .pv _ .str s => Γ.on d (.pv [] (.int .i64) (M.sLen s)) K
      | _ => False
    | _ => False
  | _ => False
def opIndexStr (t : TypeId) (x i : SV) : Prop :=
  match T.ty t, x, i with
  | some .str, .pv _ .str s, .pv _ (.int _) n => M.le 0 n ∧ M.lt n (M.sLen s) ∧ Γ.on d (.pv [] (.int .u8) (M.sGet s n)) K
  | _, _, _ => False
def opConv (s t : TypeId) (x : SV) : Prop :=
  match T.ty s, T.ty t with
  | some (.int _), some (.int k) => match x with
    | .pv _ (.int _) n => Γ.on d (.pv [] (.int k) (M.wrap k n)) K
    | _ => False
  | some .str, some .str => match x with
    | .pv _ .str b => Γ.on d (.pv [] .str b) K
    | _ => False
  | some (.sl (.int .u8)), some .str => match den0 Γ.roots (.sl (.int .u8)) x with
    | some y => Γ.on d (.pv [] .str (M.ofB y.1)) K
    | none => False
  | _, _ => False
def nthT : SV → Nat → Option SV
  | .consT a _, 0 => some a
  | .consT _ b, n + 1 => nthT b n
  | _, _ => none
def opExtract (x : SV) (n : Nat) : Prop :=
  match nthT x n with
  | some v => if v.tup = false then Γ.on d v K else False
  | none => False
def opField (t : TypeId) (x : SV) (n : Nat) : Prop :=
  match T.ty t with
  | none => False
  | some s => match tyAt s [n], svAt x [n] with
    | some u, some v => if fits x s = true ∧ v.isAgg = u.agg ∧ x.isAgg = true then Γ.on d v K else False
    | _, _ => False
def opMM (mx : Bool) (x y : SV) : Prop :=
  match x, y with
  | .pv _ (.int k) m, .pv _ (.int j) n => if k = j then Γ.on d (.pv [] (.int k) (match mx with | true => M.maxI m n | false => M.minI m n)) K else False
  | _, _ => False
def opNil (x : SV) : Prop :=
  match x with
  | .ad r e i p => Γ.on d (.ad r e i p) K
  | .fad dp e xs i p => Γ.on d (.fad dp e xs i p) K
  | _ => False
def opBox (u : Ty) (v : SV) : Prop :=
  if noHole (kill Γ.new v) = true ∧ fits (kill Γ.new v) u = true ∧ v.isAgg = u.agg ∧ (kill Γ.new v).isAgg = u.agg ∧ v.tup = false ∧ has Γ.new Γ.roots = false then ((Γ.map (kill Γ.new)).add Γ.new (.box (kill Γ.new v))).on d (.ad Γ.new u 0 []) K else False
end

section
variable {P : Program} {T : Tab} {Bb : Nat → Prop} {w0 : World} {O0 : List Nat} {av : List Value} {Γ Γ' : Ctx} {a : Act} {w w' : World} {β : Nat → Value} {F : Nat → List Nat} {K : Ctx → Prop} {o : Oper} {Q : Exit → Act → World → Prop}
theorem sound_move (S : Sim Bb w0 O0 av Γ a w β F) {x : Operand} (ho : o.op = .move x ∨ o.op = .assign x) (hk : Γ.on o.dst (Γ.eval x) K) : Reads P o a w (Nx Bb w0 O0 av K) :=
  go_value S (by unfold execOp; rcases ho with ho | ho <;> rw [ho] <;> rfl) (S.eval x) hk
theorem sound_pick (S : Sim Bb w0 O0 av Γ a w β F) {c x y : Operand} (ho : o.op = .pick c x y) (hk : opPick Γ o.dst K (Γ.eval c) (Γ.eval x) (Γ.eval y)) : Reads P o a w (Nx Bb w0 O0 av K) := by
  have hc := S.eval c
  unfold opPick at hk
  split at hk
  · rename_i d b hce
    rw [hce] at hc
    have hb := slot_bool hc
    have hrun : ∀ b', a.eval c = .bool b' → (execOp a.eval o).run P w = .ok (.value (if b' then a.eval x else a.eval y)) w := by
      intro b' hb'; unfold execOp; rw [ho]; simp only [hb']; rfl
    split at hk
    · exact go_value S (hrun true hb) (S.eval x) hk
    · exact go_value S (hrun false hb) (S.eval y) hk
  · exact hk.elim
theorem sound_un (S : Sim Bb w0 O0 av Γ a w β F) {op : UnOp} {t : TypeId} {x : Operand} (ho : o.op = .unOp op t x) (hk : opUn real Γ o.dst K op (Γ.eval x)) : Reads P o a w (Nx Bb w0 O0 av K) := by
  have hx := S.eval x
  have hrun : ∀ z, (Op.unary op (a.eval x)).run P w = .ok z w → (execOp a.eval o).run P w = .ok (.value z) w := fun z hz => by unfold execOp; rw [ho]; exact run_v hz
  unfold opUn at hk
  split at hk
  · rename_i d k n hxe
    rw [hxe] at hx
    obtain ⟨e, _⟩ := slot_int hx
    exact go_value S (hrun (.int k (k.wrap (0 - n))) (by rw [e]; rfl)) (mk_int (inK_wrap k _)) hk
  · rename_i d k n hxe
    rw [hxe] at hx
    obtain ⟨e, _⟩ := slot_int hx
    exact go_value S (hrun (.int k (real.bit .xor k (if k.signed then -1 else k.max) n)) (by rw [e]; rfl)) (mk_int (inK_wrap k _)) hk
  · rename_i d b hxe
    rw [hxe] at hx
    have e := slot_bool hx
    exact go_value S (hrun (.bool (!b)) (by rw [e]; rfl)) mk_bool hk
  · exact hk.elim
theorem inK_len {n : Nat} (h : n ≤ maxL) : InK .i64 (n : Int) := by
  unfold maxL at h; unfold InK IntKind.min IntKind.max; simp only [IntKind.signed, IntKind.bits, if_true]; omega
theorem sound_len (hT : TabOk P T) (S : Sim Bb w0 O0 av Γ a w β F) {t : TypeId} {x : Operand} (ho : o.op = .call { callee := .builtin .len, args := #[x], argTypes := #[t] }) (hk : opLen real T Γ o.dst K [t] (Γ.eval x)) : Reads P o a w (Nx Bb w0 O0 av K) := by
  have hx := S.eval x
  have hrun : ∀ z, (Builtin.len_ #[t] o.type #[a.eval x]).run P w = .ok z w → (execOp a.eval o).run P w = .ok (.value z) w := by
    intro z hz
    have e1 : execOp a.eval o = (do pure (Next.value (← Builtin.len_ #[t] o.type (Array.map a.eval #[x]))) : Sem Next) := by unfold execOp; rw [ho]; rfl
    have e2 : Array.map a.eval #[x] = #[a.eval x] := by simp
    rw [e1, e2]; exact run_v hz
  have hl : ∀ te A n c, P.underlying t = some (.slice te) → (Builtin.len_ #[t] o.type #[.slice A n c]).run P w = .ok (.int .i64 n) w := by
    intro te A n c hu
    simp [Builtin.len_, _root_.Go.run_underlying hu, goInt]
  have hs : ∀ s, P.underlying t = some .string → (Builtin.len_ #[t] o.type #[.string s]).run P w = .ok (.int .i64 s.size) w := by
    intro s hu
    simp [Builtin.len_, _root_.Go.run_underlying hu, goInt]
  unfold opLen at hk
  simp only [] at hk
  split at hk
  · rename_i e ht
    obtain ⟨te, hu, _⟩ := (hT _ _ ht).slice
    split at hk
    · rename_i dp f xs hxe
      rw [hxe] at hx
      obtain ⟨cs, ⟨A, c, rfl, _, l2, _⟩, ex⟩ := slot_pv hx
      have ex' : a.eval x = .slice A xs.length c := ex
      exact go_value S (hrun (.int .i64 xs.length) (by rw [ex']; exact hl _ _ _ _ hu)) (mk_int (inK_len l2)) hk
    · rename_i hxe
      rw [hxe] at hx
      obtain ⟨cs, ec, ex⟩ := slot_one hx rfl (by simp)
      have ec' : cs = [.slice none 0 0] := ec
      subst ec'
      have ex' : a.eval x = .slice none 0 0 := ex
      exact go_value S (hrun (.int .i64 0) (by rw [ex']; exact hl _ _ _ _ hu)) (mk_int (inK_len (Nat.zero_le _))) hk
    · rename_i r hxe
      rw [hxe] at hx
      split at hk
      · rename_i lvl f xs hr
        obtain ⟨cs, ec, ex⟩ := slot_one hx rfl (by simp)
        have ec' : cs = [β r] := ec
        subst ec'
        have ex' : a.eval x = β r := ex
        obtain ⟨A, c, eb, _, l2, _⟩ := S.roots r _ (look_mem hr)
        simp only [List.cons.injEq, and_true] at eb
        exact go_value S (hrun (.int .i64 xs.length) (by rw [ex', eb]; exact hl _ _ _ _ hu)) (mk_int (inK_len l2)) hk
      · exact hk.elim
    · exact hk.elim
  · rename_i ht
    have hu : P.underlying t = some .string := (hT _ _ ht).1
    split at hk
    · rename_i dp s hxe
      rw [hxe] at hx
      obtain ⟨e, hsz⟩ := slot_str hx
      exact go_value S (hrun (.int .i64 s.size) (by rw [e]; exact hs _ hu)) (mk_int (inK_len hsz)) hk
    · exact hk.elim
  · exact hk.elim
theorem sound_indexStr (hT : TabOk P T) (S : Sim Bb w0 O0 av Γ a w β F) {t : TypeId} {x i : Operand} (ho : o.op = .index t x i) (hk : opIndexStr real T Γ o.dst K t (Γ.eval x) (Γ.eval i)) : Reads P o a w (Nx Bb w0 O0 av K) := by
  have hx := S.eval x
  have hi := S.eval i
  have hrun : ∀ z, (Instr.index t (a.eval x) (a.eval i)).run P w = .ok z w → (execOp a.eval o).run P w = .ok (.value z) w := fun z hz => by unfold execOp; rw [ho]; exact run_v hz
  unfold opIndexStr at hk
  split at hk
  · rename_i dp s di k n ht hxe hie
    rw [hxe] at hx; rw [hie] at hi
    obtain ⟨e1, _⟩ := slot_str hx
    obtain ⟨e2, _⟩ := slot_int hi
    have hu : P.underlying t = some .string := (hT _ _ ht).1
    obtain ⟨h0, h1, hk⟩ := hk
    have h0' : @LE.le Int _ 0 n := h0
    have h1' : @LT.lt Int _ n (s.size : Int) := h1
    have hlt : n.toNat < s.size := by omega
    have hg : real.sGet s n = (s[n.toNat].toNat : Int) := by
      show ((s[n.toNat]?).map fun b => (b.toNat : Int)).getD 0 = _
      rw [getElem?_pos s n.toNat hlt]; rfl
    rw [hg] at hk
    refine go_value S (hrun (.int .u8 (s[n.toNat].toNat : Int)) ?_) (mk_int ?_) hk
    · rw [e1, e2]
      unfold Instr.index
      show (Sem.bind _ _).run P w = _
      rw [run_bind_ok (s := asIntOf (.int k n)) (x := (k, n)) rfl]
      show (Sem.bind _ _).run P w = _
      rw [run_bind_ok (run_under hu)]
      simp only [h0', if_true, getElem?_pos s n.toNat hlt]; rfl
    · have := s[n.toNat].toNat_lt
      unfold InK IntKind.min IntKind.max; simp only [IntKind.signed, IntKind.bits, Bool.false_eq_true, if_false]; omega
  · exact hk.elim
theorem sound_extract (S : Sim Bb w0 O0 av Γ a w β F) {x : Operand} {n : Nat} (ho : o.op = .extract x n) (hk : opExtract Γ o.dst K (Γ.eval x) n) : Reads P o a w (Nx Bb w0 O0 av K) := by
  have hx := S.eval x
  have hrun : ∀ z, (Instr.extract (a.eval x) n).run P w = .ok z w → (execOp a.eval o).run P w = .ok (.value z) w := fun z hz => by unfold execOp; rw [ho]; exact run_v hz
  unfold opExtract at hk
  split at hk
  · rename_i v hv
    split at hk
    · rename_i ht
      have key : ∀ (u : SV) (n : Nat) (l : List Value), nthT u n = some v → TupR (hp w) (ZdOf Bb F Γ.roots) β u l → ∃ z, l[n]? = some z ∧ Slot1 (hp w) (ZdOf Bb F Γ.roots) β v z := by
        intro u
        induction u with
        | consT p q _ ih =>
          intro n l hn hl
          obtain ⟨z, l', rfl, h1, h2⟩ := hl
          cases n with
          | zero => simp only [nthT, Option.some.injEq] at hn; subst hn; exact ⟨z, rfl, h1⟩
          | succ n => exact ih n l' hn h2
        | _ => intro n l hn; simp [nthT] at hn
      have htu : (Γ.eval x).tup = true := by cases hxe : Γ.eval x <;> rw [hxe] at hv <;> first | rfl | simp [nthT] at hv
      rcases hx with ⟨_, l, e, hl⟩ | ⟨h, _⟩
      · obtain ⟨z, h1, h2⟩ := key _ n l hv hl
        refine go_value S (hrun z ?_) (.inr ⟨ht, h2⟩) hk
        rw [e]; unfold Instr.extract
        simp only [List.getElem?_toArray, h1]; rfl
      · rw [htu] at h; cases h
    · exact hk.elim
  · exact hk.elim
theorem sound_nil (S : Sim Bb w0 O0 av Γ a w β F) {x : Operand} (ho : o.op = .nilCheck x) (hk : opNil Γ o.dst K (Γ.eval x)) : Reads P o a w (Nx Bb w0 O0 av K) := by
  have hx := S.eval x
  have hrun : ∀ q : Addr, a.eval x = .pointer (some q) → (execOp a.eval o).run P w = .ok (.value (a.eval x)) w := fun q hq => by unfold execOp; rw [ho]; simp only [hq]; rfl
  unfold opNil at hk
  split at hk
  · rename_i r e i p hxe
    rw [hxe] at hx
    have hx0 := hx
    obtain ⟨cs, ⟨b, off, _, rfl⟩, ex⟩ := slot_one hx rfl (by simp)
    exact go_value S (hrun _ ex) hx0 hk
  · rename_i dp e xs i p hxe
    rw [hxe] at hx
    have hx0 := hx
    obtain ⟨cs, ⟨_, _, b, off, arr, ty, fz, _, _, _, _, rfl⟩, ex⟩ := slot_one hx rfl (by simp)
    exact go_value S (hrun _ ex) hx0 hk
  · exact hk.elim
end
end Go.Proofs.YtjpeblicfhfniaaDoor.Eng
