/- The engine, twelfth part: conversions, variables, structs, slices. No condition. -/
import Derived.Test.YtjpeblicfhfniaaDoorEngK
import Derived.Laws.BytesArg
namespace Go.Proofs.YtjpeblicfhfniaaDoor.Eng
open Go.RowKit
set_option linter.unusedVariables false
set_option linter.unusedSimpArgs false

section
variable (M : Mth) (T : Tab) (Γ : Ctx) (d : Option Nat) (K : Ctx → Prop)
def buildSV (s : Ty) : SV → List (Nat × SV) → Option SV
  | v, [] => some v
  | v, (n, u) :: l => match tyAt s [n] with
    | some τ => if fits u τ = true ∧ u.isAgg = τ.agg ∧ u.tup = false then match svSet v [n] u with
        | some v' => buildSV s v' l
        | none => none
      else none
    | none => none
def isSt : Ty → Bool
  | .unit => true | .pair _ _ => true | _ => false
def opBuild (t : TypeId) (ps : List (Nat × SV)) : Prop :=
  match T.ty t with
  | none => False
  | some s => if isSt s = true then match buildSV s (zeroSV s) ps with
      | some v => Γ.on d v K
      | none => False
    else False
def buildL (R : List (Nat × Ch)) (e : Ty) : List e.den → List (Nat × SV) → Option (List e.den)
  | xs, [] => some xs
  | xs, (n, u) :: l => match den0 R e u with
    | some y => if e.hasSl = true ∧ isD y.2 = false then none else buildL R e (xs.set n y.1) l
    | none => none
def opBuildSlice (t : TypeId) (n : Nat) (ps : List (Nat × SV)) : Prop :=
  match T.ty t with
  | some (.sl e) => if n ≤ 1000 ∧ e.sz ≤ 1000 ∧ has Γ.new Γ.roots = false ∧ (T.lv t = 0 ∨ e.hasSl = false) then match buildL Γ.roots e (List.replicate n e.zero) ps with
      | some xs => ((Γ.map (kill Γ.new)).add Γ.new (.row (T.lv t) e xs)).on d (.ref Γ.new) K
      | none => False
    else False
  | _ => False
def opMakeSlice (t : TypeId) (x y : SV) : Prop :=
  match T.ty t, x, y with
  | some (.sl e), .pv _ (.int _) m, .pv _ (.int _) n => if has Γ.new Γ.roots = false then M.eq m n ∧ M.makes n ∧ ((Γ.map (kill Γ.new)).add Γ.new (.row (T.lv t) e (M.rep n e.zero))).on d (.ref Γ.new) K else False
  | _, _, _ => False
def bound (dflt : Int) : Option SV → Option Int
  | none => some dflt
  | some (.pv _ (.int _) n) => some n
  | some _ => none
def opSlice (t : TypeId) (x : SV) (lo hi : Option SV) : Prop :=
  match T.ty t with
  | some .str => match x with
    | .pv _ .str s => match bound 0 lo, bound (M.sLen s) hi with
      | some l, some h => M.le 0 l ∧ M.le l h ∧ M.le h (M.sLen s) ∧ Γ.on d (.pv [] .str (M.sCut s l h)) K
      | _, _ => False
    | _ => False
  | some (.sl e) => match x with
    | .pv dp (.sl f) xs => if f = e then match bound 0 lo, bound (M.ofN (M.len xs)) hi with
        | some l, some h => M.le 0 l ∧ M.le l h ∧ M.le h (M.ofN (M.len xs)) ∧ Γ.on d (.pv dp (.sl f) (M.cut xs l h)) K
        | _, _ => False
      else False
    | .ref r => match look r Γ.roots with
      | some (.row lvl f xs) => if f = e then match T.mv, lo with
          | true, none => match bound (M.ofN (M.len xs)) hi with
            | some h => if lvl = 0 ∨ f.hasSl = false then M.le 0 h ∧ M.le h (M.ofN (M.len xs)) ∧ ((Γ.map (kill r)).set r (.row lvl f (M.cut xs 0 h))).on d (.ref r) K else False
            | none => False
          | _, _ => match bound 0 lo, bound (M.ofN (M.len xs)) hi with
            | some l, some h => M.le 0 l ∧ M.le l h ∧ M.le h (M.ofN (M.len xs)) ∧ Γ.on d (.pv [r] (.sl f) (M.cut xs l h)) K
            | _, _ => False
        else False
      | _ => False
    | _ => False
  | _ => False
end

section
variable {P : Program} {T : Tab} {Bb : Nat → Prop} {w0 : World} {O0 : List Nat} {av : List Value} {Γ Γ' : Ctx} {a : Act} {w w' : World} {β : Nat → Value} {F : Nat → List Nat} {K : Ctx → Prop} {o : Oper} {Q : Exit → Act → World → Prop}
theorem sound_conv (hT : TabOk P T) (S : Sim Bb w0 O0 av Γ a w β F) {s t : TypeId} {x : Operand} (ho : o.op = .convert s t x) (hk : opConv real T Γ o.dst K s t (Γ.eval x)) : Reads P o a w (Nx Bb w0 O0 av K) := by
  have hx := S.eval x
  have hrun : ∀ z, (convert s t (a.eval x)).run P w = .ok z w → (execOp a.eval o).run P w = .ok (.value z) w := fun z hz => by unfold execOp; rw [ho]; exact run_v hz
  unfold opConv at hk
  split at hk
  · rename_i j k hs ht
    have h1 : P.underlying s = some (.int j) := (hT _ _ hs).1
    have h2 : P.underlying t = some (.int k) := (hT _ _ ht).1
    split at hk
    · rename_i dp q n hxe
      rw [hxe] at hx
      obtain ⟨e, _⟩ := slot_int hx
      refine go_value S (hrun (.int k (k.wrap n)) ?_) (mk_int (inK_wrap k _)) hk
      rw [e]; simp [convert, _root_.Go.run_underlying h1, _root_.Go.run_underlying h2, Conv.intToInt]
    · exact hk.elim
  · rename_i hs ht
    have h1 : P.underlying s = some .string := (hT _ _ hs).1
    have h2 : P.underlying t = some .string := (hT _ _ ht).1
    split at hk
    · rename_i dp b hxe
      rw [hxe] at hx
      obtain ⟨e, hl⟩ := slot_str hx
      refine go_value S (hrun (.string b) ?_) (mk_str hl) hk
      rw [e]; simp [convert, _root_.Go.run_underlying h1, _root_.Go.run_underlying h2]
    · exact hk.elim
  · rename_i hs ht
    obtain ⟨te, h1, h3⟩ := (hT _ _ hs).slice
    have h2 : P.underlying t = some .string := (hT _ _ ht).1
    have h4 : P.underlying te = some (.int .u8) := h3.1
    split at hk
    · rename_i y hy
      obtain ⟨cs, ⟨A, c, rfl, l1, l2, _, hrow⟩, ex⟩ := den0_slot S.roots hy hx
      have ex' : a.eval x = .slice A y.1.length c := ex
      have hsz : (real.ofB y.1).size = y.1.length := by show ((y.1.map fun x => UInt8.ofNat x.toNat).toArray).size = _; simp
      refine go_value S (hrun (.string (real.ofB y.1)) ?_) (mk_str (by rw [hsz]; exact l2)) hk
      rw [ex']
      by_cases hy0 : y.1 = []
      · have hb : real.ofB y.1 = ByteArray.empty := by rw [hy0]; rfl
        rw [hb, hy0]
        cases A with
        | none => exact run_convert_bytes_nil (P := P) w s te h1 h4 _ _ t h2
        | some ad =>
          show (convert s t (.slice (some ad) 0 c)).run P w = _
          rw [run_convert_bytes_string w s t te _ 0 c h1 h4 h2, run_bytesToString w ad 0 c [] rfl]; rfl
      · obtain ⟨b, off, arr, ty, fz, rfl, hz, hb, hl, hr⟩ := hrow hy0
        rw [run_convert_bytes_arg (P := P) w s te h1 h4 b off _ c y.1 rfl (fun k hk' => ?_) t h2]
        · rfl
        · have hel := hr k _ (List.getElem?_eq_getElem hk')
          obtain ⟨_, h5, _⟩ := hel
          have hlt : off + k < arr.size := by
            have h1 : (Ty.int .u8).sz = 1 := rfl
            rw [h1] at hl; omega
          rw [cell_at hb]
          have h6 : (seg arr.toList (off + k * 1) 1)[0]? = some (.int .u8 y.1[k]) := by
            rw [show seg arr.toList (off + k * 1) 1 = _ from h5]; rfl
          rw [seg_get] at h6
          simp only [Nat.lt_one_iff, if_true, Nat.mul_one, Nat.add_zero] at h6
          rw [← Array.getElem?_toList, h6]
          simp [List.getD_eq_getElem?_getD, hk']
    · exact hk.elim
  · exact hk.elim
theorem sound_field (hT : TabOk P T) (S : Sim Bb w0 O0 av Γ a w β F) {t : TypeId} {x : Operand} {n : Nat} (ho : o.op = .field t x n) (hk : opField T Γ o.dst K t (Γ.eval x) n) : Reads P o a w (Nx Bb w0 O0 av K) := by
  have hx := S.eval x
  have hrun : ∀ z, (Instr.field t (a.eval x) n).run P w = .ok z w → (execOp a.eval o).run P w = .ok (.value z) w := fun z hz => by unfold execOp; rw [ho]; exact run_v hz
  unfold opField at hk
  split at hk
  · exact hk.elim
  rename_i s hs
  split at hk
  · rename_i u v hu hv
    split at hk
    · rename_i hc
      obtain ⟨hf, hag, hxa⟩ := hc
      have htu : (Γ.eval x).tup = false := by cases hxe : Γ.eval x <;> rw [hxe] at hxa <;> first | rfl | simp [SV.isAgg] at hxa
      obtain ⟨cs, h1, ex⟩ := slot_one hx htu (by rintro m hm; rw [hm] at hxa; cases hxa)
      obtain ⟨τ, q1, q2⟩ := SVc.at h1 hf hv (.inr ⟨_, hu⟩)
      rw [hu, Option.some.injEq] at q1; subst q1
      obtain ⟨fs, f, r1, r2, r3, r4⟩ := (hT _ _ hs).field hu
      have hle := offAt_le hu
      rw [← fits_sz hf, ← h1.len] at hle
      have hvt : v.tup = false := by cases v <;> first | rfl | exact q2.elim
      refine go_value S (hrun (valOf u.agg (seg cs (offAt s [n]) u.sz)) ?_) (by rw [← hag]; exact slot_c hvt q2) hk
      rw [ex, hxa]
      unfold Instr.field
      show (Sem.bind _ _).run P w = _
      rw [run_bind_ok (run_under r1)]
      simp only [r2]
      show (Sem.bind _ _).run P w = _
      rw [run_bind_ok (s := asAgg _) (x := cs.toArray) rfl]
      unfold part
      show (Sem.bind _ _).run P w = _
      rw [run_bind_ok r4.agg]
      cases ha : u.agg with
      | true =>
        simp only [if_true]
        show (Sem.bind _ _).run P w = _
        rw [run_bind_ok (run_size r4.info), r3]
        have : cs.toArray.extract (offAt s [n]) (offAt s [n] + u.sz) = (seg cs (offAt s [n]) u.sz).toArray := by
          unfold seg; simp
        rw [this]; rfl
      | false =>
        have h1s : u.sz = 1 := by cases u <;> first | rfl | cases ha
        simp only [Bool.false_eq_true, if_false]
        rw [h1s] at hle
        have hlt : offAt s [n] < cs.length := by omega
        rw [r3]
        have e1 : cs.toArray[offAt s [n]]? = some cs[offAt s [n]] := by simp [hlt]
        simp only [e1]
        have e2 : seg cs (offAt s [n]) u.sz = [cs[offAt s [n]]] := by
          unfold seg; rw [h1s, List.drop_eq_getElem_cons hlt]; rfl
        rw [e2]; rfl
    · exact hk.elim
  · exact hk.elim
theorem sound_mm (S : Sim Bb w0 O0 av Γ a w β F) {x y : Operand} {ts : Array TypeId} {mx : Bool} (ho : o.op = .call { callee := .builtin (match mx with | true => .max | false => .min), args := #[x, y], argTypes := ts }) (hk : opMM real Γ o.dst K mx (Γ.eval x) (Γ.eval y)) : Reads P o a w (Nx Bb w0 O0 av K) := by
  have hx := S.eval x
  have hy := S.eval y
  have e2 : Array.map a.eval #[x, y] = #[a.eval x, a.eval y] := by simp
  unfold opMM at hk
  split at hk
  · rename_i d1 k m d2 j n hxe hye
    rw [hxe] at hx; rw [hye] at hy
    obtain ⟨e3, i1⟩ := slot_int hx
    obtain ⟨e4, i2⟩ := slot_int hy
    split at hk
    · rename_i hkj; subst hkj
      cases mx with
      | true =>
        have e1 : execOp a.eval o = (do pure (Next.value (← Builtin.max_ ts o.type (Array.map a.eval #[x, y]))) : Sem Next) := by unfold execOp; rw [ho]; rfl
        refine go_value S (x := .int k (real.maxI m n)) ?_ (mk_int ?_) hk
        · rw [e1, e2, e3, e4]
          refine run_v ?_
          simp [Builtin.max_, Builtin.max2, real]
        · show InK k (if n > m then n else m); split <;> assumption
      | false =>
        have e1 : execOp a.eval o = (do pure (Next.value (← Builtin.min_ ts o.type (Array.map a.eval #[x, y]))) : Sem Next) := by unfold execOp; rw [ho]; rfl
        refine go_value S (x := .int k (real.minI m n)) ?_ (mk_int ?_) hk
        · rw [e1, e2, e3, e4]
          refine run_v ?_
          simp [Builtin.min_, Builtin.min2, real]
        · show InK k (if n < m then n else m); split <;> assumption
    · exact hk.elim
  · exact hk.elim
theorem sound_box (hT : TabOk P T) (S : Sim Bb w0 O0 av Γ a w β F) {t : TypeId} {u : Ty} {v : SV} {x : Value} (hu : T.ty t = some u) (hv : SlotR (hp w) (ZdOf Bb F Γ.roots) β v x)
    (hrun : ∀ z w', (Instr.box t x).run P w = .ok z w' → (execOp a.eval o).run P w = .ok (.value z) w') (hk : opBox Γ o.dst K u v) : o.wp P a w (Nx Bb w0 O0 av K) Q := by
  unfold opBox at hk
  split at hk
  · rename_i hc
    obtain ⟨hn, hf, hag, hag', htp, hnew⟩ := hc
    generalize Γ.new = r at *
    have hv' := SlotR.soft (soft_kill r) hv
    obtain ⟨cs, hcs, ex⟩ := slot_one hv' (by rw [(soft_kill r).un]; exact htp) (by rintro m hm; rw [hm] at hn; cases hn)
    have hids : ((Γ.map (kill r)).roots).map (·.1) = Γ.roots.map (·.1) := mapC_ids _ _
    have hone := SVc.one S.bone hn hcs
    have hcells : x.cells.toList = cs := by
      rw [ex]; refine cells_valOf fun hg => ?_
      rw [hag'] at hg
      have hs1 : u.sz = 1 := by cases u <;> first | rfl | cases hg
      have hl := hcs.len
      rw [fits_sz hf, hs1] at hl
      match cs, hl, hone with
      | [z], _, hone => exact ⟨z, rfl, hone z (by simp)⟩
    have hxc : x.cells = cs.toArray := by rw [← hcells]
    have hr : (Instr.box t x).run P w = .ok (.pointer (some ⟨w.heap.size, 0, none⟩)) { w with heap := w.heap.push (.cells cs.toArray t) } := by
      unfold Instr.box newVar; rw [hxc]; rfl
    have hnr := has_false hnew
    refine wp_drawn (hrun _ _ hr) ((S.soft (soft_kill r)).addRoot (c := .box (kill r v)) (hdr := .pointer (some ⟨w.heap.size, 0, none⟩)) (B := [w.heap.size]) (FitG.of (fit_kill r) Γ) (by rw [hids]; exact hnr) (fun q hq => heap_push q hq) (by simp) rfl rfl rfl ⟨by simp, fun b hb => ?_⟩ rfl ?_) ?_ hk
    · simp only [List.mem_singleton] at hb; subst hb; simp
    · refine ⟨w.heap.size, cs, t, upF_at, rfl, heap_push_new, ?_⟩
      refine SVc.mono (D := fun d => mem r d = false) (R := fun q => q ≠ r) (fun d hd b hz hs => ?_) (fun q hq => upF_ne hq) (fit_kill r v) hcs
      have hblt : b < w.heap.size := by
        rcases Nat.lt_or_ge b w.heap.size with h | h
        · exact h
        · simp [hp, Array.getElem?_eq_none h] at hs
      refine ⟨heap_push b hblt, ?_⟩
      rcases hz with hz | ⟨q, hq1, hq2, hq3⟩
      · left
        rw [allO_cons, upF_at, allO_congr (F := F) (fun q hq => upF_ne (fun e => hnr (by rw [← hids]; rw [e] at hq; exact hq))), allO_ids hids]
        simp; exact ⟨⟨by omega, hz.1⟩, hz.2⟩
      · exact .inr ⟨q, hq1, by simp only [List.map_cons, List.mem_cons]; right; rw [hids]; exact hq2, by rw [upF_ne (fun e => hnr (by rw [e] at hq2; exact hq2))]; exact hq3⟩
    · refine slot_c (v := .ad r u 0 []) (cs := [.pointer (some ⟨w.heap.size, 0, none⟩)]) rfl ⟨w.heap.size, 0, by rw [upF_at]; rfl, by rw [offAt_nil]; simp⟩
  · exact hk.elim
end
end Go.Proofs.YtjpeblicfhfniaaDoor.Eng
