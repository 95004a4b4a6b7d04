/- The engine, eighth part: the operations one by one: addresses, loads, stores. No condition. -/
import Derived.Test.YtjpeblicfhfniaaDoorEngG
namespace Go.Proofs.YtjpeblicfhfniaaDoor.Eng
open Go.RowKit
set_option linter.unusedVariables false
set_option linter.unusedSimpArgs false

/-! ### what the machine does -/
section
variable (M : Mth) (T : Tab) (Γ : Ctx) (d : Option Nat) (K : Ctx → Prop)
def opIndexAddr (t : TypeId) (x i : SV) : Prop :=
  match T.ty t, i with
  | some (.sl e), .pv _ (.int _) n => match x with
    | .pv dp (.sl f) xs => if e = f then M.le 0 n ∧ M.lt n (M.ofN (M.len xs)) ∧ Γ.on d (.fad dp f xs n []) K else False
    | .ref r => match look r Γ.roots with
      | some (.row _ f xs) => if e = f then M.le 0 n ∧ M.lt n (M.ofN (M.len xs)) ∧ Γ.on d (.ad r f n []) K else False
      | _ => False
    | _ => False
  | _, _ => False
def opFieldAddr (t : TypeId) (x : SV) (n : Nat) : Prop :=
  match T.ty t with
  | none => False
  | some s => match tyAt s [n] with
    | none => False
    | some u => if u.sz = 0 then False else match x with
      | .fad dp e xs i p => if tyAt e p = some s then Γ.on d (.fad dp e xs i (p ++ [n])) K else False
      | .ad r e i p => if tyAt e p = some s then Γ.on d (.ad r e i (p ++ [n])) K else False
      | _ => False
def opLoad (t : TypeId) (x : SV) : Prop :=
  match T.ty t with
  | none => False
  | some u => match x with
    | .fad dp e xs i p => match getAt e (M.get xs i e.zero) p with
      | some s => if s.1 = u then Γ.on d (.pv (if s.1.hasSl then dp else []) s.1 s.2) K else False
      | none => False
    | .ad r e i p => match look r Γ.roots with
      | some (.row lvl f xs) => if f = e then M.le 0 i ∧ M.lt i (M.ofN (M.len xs)) ∧ match getAt f (M.get xs i f.zero) p with
          | some s => if s.1 = u then Γ.on d (.pv (if s.1.hasSl then (match lvl with | 0 => [] | _ => [r]) else []) s.1 s.2) K else False
          | none => False
        else False
      | some (.box v) => if fits v e = true ∧ i = 0 ∧ tyAt e p = some u then match svAt v p with
          | some s => if s.isAgg = u.agg then Γ.on d s K else False
          | none => False
        else False
      | _ => False
    | _ => False
def opStore (t : TypeId) (x v : SV) : Prop :=
  match T.ty t with
  | none => False
  | some u => match x with
    | .ad r e i p => match look r Γ.roots with
      | some (.row lvl f xs) => if f = e ∧ tyAt e p = some u ∧ (u.hasSl = false ∨ lvl = 0) then M.le 0 i ∧ M.lt i (M.ofN (M.len xs)) ∧ match den0 Γ.roots u v with
          | some y => match y.2 with
            | [] => match setAt f (M.get xs i f.zero) p ⟨u, y.1⟩ with
              | some z => K ((Γ.map (killD r)).set r (.row lvl f (M.set xs i z)))
              | none => False
            | _ => False
          | none => False
        else False
      | some (.box b) => if fits (killD r b) e = true ∧ i = 0 ∧ tyAt e p = some u ∧ noHole (killD r v) = true ∧ (killD r v).isAgg = u.agg ∧ v.tup = false then match svSet (killD r b) p (killD r v) with
          | some b' => K ((Γ.map (killD r)).set r (.box b'))
          | none => False
        else False
      | _ => False
    | _ => False
/-- what is appended -/
def srcOf (e : Ty) (t : TypeId) (y : SV) : Option (List e.den × List Nat) :=
  match T.ty t, y with
  | some (.sl _), y => den0 Γ.roots (.sl e) y
  | some .str, .pv _ .str s => (as (.sl e) ⟨.sl (.int .u8), M.toB s⟩).map fun z => (z, [])
  | _, _ => none
def opAppend (ts : List TypeId) (x y : SV) : Prop :=
  match ts with
  | [t, t2] => match T.ty t with
    | some (.sl e) => match srcOf M T Γ e t2 y with
      | some ys => if e.hasSl = true ∧ isD ys.2 = false then False else match x with
        | .ref r => match look r Γ.roots with
          | some (.row lvl f xs) => match as (.sl f) ⟨.sl e, ys.1⟩ with
            | some zs => if (lvl = 0 ∨ f.hasSl = false) then M.room xs zs ∧ ((Γ.map (kill r)).set r (.row lvl f (M.app xs zs))).on d (.ref r) K else False
            | none => False
          | _ => False
        | .nils => if has Γ.new Γ.roots = false ∧ (T.lv t = 0 ∨ e.hasSl = false) then M.room ([] : List e.den) ys.1 ∧ ((Γ.map (kill Γ.new)).add Γ.new (.row (T.lv t) e ys.1)).on d (.ref Γ.new) K else False
        | _ => False
      | none => False
    | _ => False
  | _ => False
end

section
variable {P : Program} {T : Tab} {Bb : Nat → Prop} {w0 : World} {O0 : List Nat} {av : List Value} {Γ Γ' : Ctx} {a : Act} {w w' : World} {β : Nat → Value} {F : Nat → List Nat} {K : Ctx → Prop} {o : Oper} {Q : Exit → Act → World → Prop}
theorem slot_one {h : Hp} {Zd : List Nat → Nat → Prop} {v : SV} {x : Value} (s : SlotR h Zd β v x) (ht : v.tup = false) (hh : ∀ n, v ≠ .hole n) : ∃ cs, SVc h Zd β v cs ∧ x = valOf v.isAgg cs := by
  rcases s with ⟨e, _⟩ | ⟨_, s⟩
  · rw [ht] at e; cases e
  · rcases s with ⟨n, e⟩ | s
    · exact absurd e (hh n)
    · exact s
theorem run_index {e : Ty} {t te : TypeId} (hu : P.underlying t = some (.slice te)) (he : TyOk P e te) {b o len cap : Nat} {k : IntKind} {n : Int} (h0 : 0 ≤ n) (h1 : n < len) :
    (Instr.indexAt t (.slice (some ⟨b, o, none⟩) len cap) (.int k n)).run P w = .ok (.pointer (some ⟨b, o + n.toNat * e.sz, none⟩)) w := by
  unfold Instr.indexAt
  show (Sem.bind _ _).run P w = _
  rw [run_bind_ok (s := asIntOf (.int k n)) (x := (k, n)) rfl]
  show (Sem.bind _ _).run P w = _
  rw [run_bind_ok (run_under hu)]
  show (Sem.bind _ _).run P w = _
  rw [run_bind_ok (s := pure (some (⟨b, o, none⟩ : Addr), len, te)) (x := (some (⟨b, o, none⟩ : Addr), len, te)) rfl]
  show (Sem.bind _ _).run P w = _
  rw [run_bind_ok (run_under hu)]
  simp only [h0, h1, and_self, if_true]
  show (Sem.bind _ _).run P w = _
  rw [run_bind_ok (run_size he.info), add_none]; rfl
theorem ne_nil_of_lt {α : Type} {xs : List α} {n : Int} (h0 : 0 ≤ n) (h : n < xs.length) : xs ≠ [] := by rintro rfl; simp at h; omega
theorem sound_indexAddr (hT : TabOk P T) (S : Sim Bb w0 O0 av Γ a w β F) {t : TypeId} {x i : Operand} (ho : o.op = .indexAddr t x i) (hk : opIndexAddr real T Γ o.dst K t (Γ.eval x) (Γ.eval i)) : Reads P o a w (Nx Bb w0 O0 av K) := by
  have hx := S.eval x
  have hi := S.eval i
  have hrun : ∀ z, (Instr.indexAt t (a.eval x) (a.eval i)).run P w = .ok z w → (execOp a.eval o).run P w = .ok (.value z) w := fun z hz => by unfold execOp; rw [ho]; exact run_v hz
  unfold opIndexAddr at hk
  split at hk
  · rename_i e dd k n ht hie
    rw [hie] at hi
    obtain ⟨ei, ki⟩ := slot_int hi
    obtain ⟨te, hu, he⟩ := (hT _ _ ht).slice
    split at hk
    · rename_i dp f xs hxe
      rw [hxe] at hx
      split at hk
      · rename_i hef; subst hef
        obtain ⟨h0, h1, hk⟩ := hk
        have h0' : 0 ≤ n := h0
        have h1' : n < xs.length := h1
        obtain ⟨cs, ⟨A, c, ec, l1, l2, _, r⟩, ex⟩ := slot_pv hx
        subst ec
        obtain ⟨b, off, arr, ty, fz, rfl, hz, hb, hl, hr⟩ := r (ne_nil_of_lt h0' h1')
        have ex' : a.eval x = .slice (some ⟨b, off, none⟩) xs.length c := ex
        refine go_value S (hrun _ (by rw [ex', ei]; exact run_index hu he h0' h1')) (slot_c (v := .fad dp e xs n []) (cs := [.pointer (some ⟨b, off + n.toNat * e.sz, none⟩)]) rfl ⟨h0', h1', b, off, arr, ty, fz, hz, hb, hl, hr, by rw [offAt_nil]; rfl⟩) hk
      · exact hk.elim
    · rename_i r hxe
      rw [hxe] at hx
      split at hk
      · rename_i lvl f xs hr
        split at hk
        · rename_i hef; subst hef
          obtain ⟨h0, h1, hk⟩ := hk
          have h0' : 0 ≤ n := h0
          have h1' : n < xs.length := h1
          obtain ⟨cs, ec, ex⟩ := slot_one hx rfl (by simp)
          have ec' : cs = [β r] := ec
          subst ec'
          obtain ⟨A, c, eb, l1, l2, q⟩ := S.roots r _ (look_mem hr)
          simp only [List.cons.injEq, and_true] at eb
          have ex' : a.eval x = β r := ex
          rcases q with ⟨_, _, q, _⟩ | ⟨b, off, arr, ty, Bs, rfl, hb, hl, hB, hn, hq⟩
          · exact absurd q (ne_nil_of_lt h0' h1')
          · refine go_value S (hrun _ (by rw [ex', ei, eb]; exact run_index hu he h0' h1')) (slot_c (v := .ad r e n []) (cs := [.pointer (some ⟨b, off + n.toNat * e.sz, none⟩)]) rfl ⟨b, off, by rw [eb]; rfl, by rw [offAt_nil]; rfl⟩) hk
        · exact hk.elim
      · exact hk.elim
    · exact hk.elim
  · exact hk.elim
theorem run_field {τ u : Ty} {t : TypeId} {n : Nat} (ht : TyOk P τ t) (hu : tyAt τ [n] = some u) (hz : u.sz ≠ 0) {b o : Nat} :
    (Instr.fieldAt t (.pointer (some ⟨b, o, none⟩)) n).run P w = .ok (.pointer (some ⟨b, o + offAt τ [n], none⟩)) w := by
  obtain ⟨fs, f, h1, h2, h3, h4⟩ := ht.field hu
  unfold Instr.fieldAt
  show (Sem.bind _ _).run P w = _
  rw [run_bind_ok (run_under h1)]
  simp only [h2]
  show (Sem.bind _ _).run P w = _
  rw [run_bind_ok (s := Instr.sureAddr _) (x := (⟨b, o, none⟩ : Addr)) rfl]
  show (Sem.bind _ _).run P w = _
  have : (fieldPlace ⟨b, o, none⟩ f).run P w = .ok ⟨b, o + offAt τ [n], none⟩ w := by
    unfold fieldPlace
    show (Sem.bind _ _).run P w = _
    rw [run_bind_ok (run_size h4.info), if_neg hz, h3, add_none]; rfl
  rw [run_bind_ok this]; rfl
theorem sound_fieldAddr (hT : TabOk P T) (S : Sim Bb w0 O0 av Γ a w β F) {t : TypeId} {x : Operand} {n : Nat} (ho : o.op = .fieldAddr t x n) (hk : opFieldAddr T Γ o.dst K t (Γ.eval x) n) : Reads P o a w (Nx Bb w0 O0 av K) := by
  have hx := S.eval x
  have hrun : ∀ z, (Instr.fieldAt t (a.eval x) n).run P w = .ok z w → (execOp a.eval o).run P w = .ok (.value z) w := fun z hz => by unfold execOp; rw [ho]; exact run_v hz
  unfold opFieldAddr at hk
  split at hk
  · exact hk.elim
  rename_i s hs
  split at hk
  · exact hk.elim
  rename_i u hu
  split at hk
  · exact hk.elim
  rename_i hz
  split at hk
  · rename_i dp e xs i p hxe
    rw [hxe] at hx
    split at hk
    · rename_i hp
      obtain ⟨cs, ⟨h0, h1, b, off, arr, ty, fz, hzd, hb, hl, hr, ec⟩, ex⟩ := slot_one hx rfl (by simp)
      subst ec
      have ex' : a.eval x = .pointer (some ⟨b, off + i.toNat * e.sz + offAt e p, none⟩) := ex
      refine go_value S (hrun _ (by rw [ex']; exact run_field (hT _ _ hs) hu hz)) (slot_c (v := .fad dp e xs i (p ++ [n])) (cs := [.pointer (some ⟨b, off + i.toNat * e.sz + offAt e p + offAt s [n], none⟩)]) rfl ⟨h0, h1, b, off, arr, ty, fz, hzd, hb, hl, hr, ?_⟩) hk
      rw [(tyAt_app (q := [n]) hp).2, Nat.add_assoc]
    · exact hk.elim
  · rename_i r e i p hxe
    rw [hxe] at hx
    split at hk
    · rename_i hp
      obtain ⟨cs, ⟨b, off, hb, ec⟩, ex⟩ := slot_one hx rfl (by simp)
      subst ec
      have ex' : a.eval x = .pointer (some ⟨b, off + i.toNat * e.sz + offAt e p, none⟩) := ex
      refine go_value S (hrun _ (by rw [ex']; exact run_field (hT _ _ hs) hu hz)) (slot_c (v := .ad r e i (p ++ [n])) (cs := [.pointer (some ⟨b, off + i.toNat * e.sz + offAt e p + offAt s [n], none⟩)]) rfl ⟨b, off, hb, ?_⟩) hk
      rw [(tyAt_app (q := [n]) hp).2, Nat.add_assoc]
    · exact hk.elim
  · exact hk.elim
theorem run_loadAt {τ : Ty} {t : TypeId} (ht : TyOk P τ t) {b o : Nat} {arr : Array Value} {ty : TypeId} {fz : Nat × Nat} (hb : w.heap[b]? = some (.cells arr ty fz)) (h : o + τ.sz ≤ arr.size) :
    (Instr.loadAt t (.pointer (some ⟨b, o, none⟩))).run P w = .ok (valOf τ.agg (seg arr.toList o τ.sz)) w := by
  unfold Instr.loadAt
  show (Sem.bind _ _).run P w = _
  rw [run_bind_ok (s := Instr.sureAddr _) (x := (⟨b, o, none⟩ : Addr)) rfl]
  exact run_loadVar ht hb h
theorem getD_some {α : Type} {xs : List α} {n : Int} {d : α} (h0 : 0 ≤ n) (h : n < xs.length) : xs[n.toNat]? = some (xs.getD n.toNat d) := by
  have : n.toNat < xs.length := by omega
  simp [List.getD_eq_getElem?_getD, this]
theorem fit_row {off sz n : Nat} {i : Int} {L o m : Nat} (h0 : 0 ≤ i) (h1 : i < n) (hl : off + n * sz ≤ L) (ho : o + m ≤ sz) : off + i.toNat * sz + o + m ≤ L := by
  have : (i.toNat + 1) * sz ≤ n * sz := Nat.mul_le_mul_right _ (by omega)
  rw [Nat.add_mul] at this; omega
theorem sound_load (hT : TabOk P T) (S : Sim Bb w0 O0 av Γ a w β F) {t : TypeId} {x : Operand} (ho : o.op = .load t x) (hk : opLoad real T Γ o.dst K t (Γ.eval x)) : Reads P o a w (Nx Bb w0 O0 av K) := by
  have hx := S.eval x
  have hrun : ∀ z, (Instr.loadAt t (a.eval x)).run P w = .ok z w → (execOp a.eval o).run P w = .ok (.value z) w := fun z hz => by unfold execOp; rw [ho]; exact run_v hz
  unfold opLoad at hk
  split at hk
  · exact hk.elim
  rename_i u hu
  have ht := hT _ _ hu
  split at hk
  · rename_i dp e xs i p hxe
    rw [hxe] at hx
    split at hk
    · rename_i s hs
      split at hk
      · rename_i hsu; subst hsu
        obtain ⟨cs, ⟨h0, h1, b, off, arr, ty, fz, hzd, hb, hl, hr, ec⟩, ex⟩ := slot_one hx rfl (by simp)
        subst ec
        have ex' : a.eval x = .pointer (some ⟨b, off + i.toNat * e.sz + offAt e p, none⟩) := ex
        have hel := hr i.toNat _ (getD_some (d := e.zero) h0 h1)
        obtain ⟨hty, B', hB', hat⟩ := Own.at hel hs
        have hb0 : B' = [] := hat.b0
        subst hb0
        have hle := offAt_le hty
        rw [seg_seg hle] at hat
        have hin := fit_row h0 h1 hl hle
        refine go_value S (hrun _ (by rw [ex']; exact run_loadAt ht hb hin)) ?_ hk
        have key : SlotR (hp w) (ZdOf Bb F Γ.roots) β (.pv dp s.1 s.2) (valOf s.1.agg (seg arr.toList (off + i.toNat * e.sz + offAt e p) s.1.sz)) := by
          exact slot_c (v := .pv dp s.1 s.2) rfl hat
        split
        · exact key
        · rename_i hf
          obtain ⟨cs', h5, h6⟩ := slot_pv key
          rw [h6]
          exact slot_c (v := .pv [] s.1 s.2) rfl ((h5.flat (m := 0) (by simpa using hf)).2 _ _)
      · exact hk.elim
    · exact hk.elim
  · rename_i r e i p hxe
    rw [hxe] at hx
    obtain ⟨cs, ⟨b, off, hb, ec⟩, ex⟩ := slot_one hx rfl (by simp)
    subst ec
    have ex' : a.eval x = .pointer (some ⟨b, off + i.toNat * e.sz + offAt e p, none⟩) := ex
    split at hk
    · rename_i lvl f xs hr
      split at hk
      · rename_i hfe; subst hfe
        obtain ⟨h0, h1, hk⟩ := hk
        have h0' : 0 ≤ i := h0
        have h1' : i < xs.length := h1
        split at hk
        · rename_i s hs
          split at hk
          · rename_i hsu; subst hsu
            obtain ⟨A, c, eb, l1, l2, q⟩ := S.roots r _ (look_mem hr)
            simp only [List.cons.injEq, and_true] at eb
            rcases q with ⟨_, _, q, _⟩ | ⟨b', off', arr, ty, Bs, rfl, hbb, hl, hB, hn, hq⟩
            · exact absurd q (ne_nil_of_lt h0' h1')
            · rw [eb] at hb
              simp only [baseA, Option.some.injEq, Prod.mk.injEq] at hb
              obtain ⟨rfl, rfl⟩ := hb
              have hix : i.toNat < Bs.length := by rw [hn]; omega
              have hel := hq i.toNat _ _ (getD_some (d := f.zero) h0' h1') (List.getElem?_eq_getElem hix)
              obtain ⟨hty, B', hB', hat⟩ := Own.at hel hs
              have hle := offAt_le hty
              rw [seg_seg hle] at hat
              have hl' : b'.succ = b'.succ := rfl
              have hin := fit_row (off := off') h0' h1' (Nat.le_trans (Nat.add_le_add_left (Nat.mul_le_mul_right _ l1) _) hl) hle
              refine go_value S (hrun _ (by rw [ex']; exact run_loadAt ht hbb hin)) ?_ hk
              split
              · -- rows inside: read only, out of r
                have hown : ∀ q ∈ B', q ∈ F r := fun q hq' => by rw [hB]; exact List.mem_cons_of_mem _ (List.mem_flatten.2 ⟨_, List.getElem_mem hix, hB' q hq'⟩)
                split
                · exact slot_c (v := .pv [] s.1 s.2) rfl (by have := hat.b0; subst this; exact hat)
                · refine slot_c (v := .pv [r] s.1 s.2) rfl (hat.freeze (fun q hz => ?_) (fun q hq' => ?_))
                  · exact hz.imp id (fun ⟨_, hm, _⟩ => by cases hm)
                  · exact .inr ⟨r, by simp, List.mem_map.2 ⟨_, look_mem hr, rfl⟩, hown q hq'⟩
              · rename_i hf
                exact slot_c (v := .pv [] s.1 s.2) rfl ((hat.flat (m := 0) (by simpa using hf)).2 _ _)
          · exact hk.elim
        · exact hk.elim
      · exact hk.elim
    · rename_i v hr
      split at hk
      · rename_i hc
        obtain ⟨hf, rfl, hty⟩ := hc
        split at hk
        · rename_i s hs
          split at hk
          · rename_i hag
            obtain ⟨b', cs, ty, h1, h2, h3, h4⟩ := S.roots r _ (look_mem hr)
            rw [h1] at hb
            simp only [baseA, Option.some.injEq, Prod.mk.injEq] at hb
            obtain ⟨rfl, rfl⟩ := hb
            obtain ⟨τ, q1, q2⟩ := SVc.at h4 hf hs (.inr ⟨_, hty⟩)
            rw [hty, Option.some.injEq] at q1; subst q1
            have hle := offAt_le hty
            rw [← fits_sz hf, ← h4.len] at hle
            refine go_value S (hrun _ (by rw [ex']; exact run_loadAt ht h3 (by simpa using hle))) ?_ hk
            have e0 : (0 : Nat) + (0 : Int).toNat * e.sz + offAt e p = offAt e p := by simp
            rw [e0]
            have hst : s.tup = false := by
              cases s <;> first | rfl | exact q2.elim
            rw [← hag]
            exact slot_c hst q2
          · exact hk.elim
        · exact hk.elim
      · exact hk.elim
    · exact hk.elim
  · exact hk.elim
end
end Go.Proofs.YtjpeblicfhfniaaDoor.Eng
