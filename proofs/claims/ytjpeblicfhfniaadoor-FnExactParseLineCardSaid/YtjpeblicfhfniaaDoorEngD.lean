/- The engine, fourth part: slots, operands, types, and the change of a world. No condition. -/
import Derived.Test.YtjpeblicfhfniaaDoorEngC
namespace Go.Proofs.YtjpeblicfhfniaaDoor.Eng
open Go.RowKit
set_option linter.unusedVariables false
set_option linter.unusedSimpArgs false

section
variable {Bb : Nat → Prop} {w0 : World} {O0 : List Nat} {av : List Value} {Γ Γ' : Ctx} {a : Act} {w w' : World} {β β' : Nat → Value} {F F' : Nat → List Nat}
theorem look_mem {α : Type} {n : Nat} {x : α} : ∀ {l : List (Nat × α)}, look n l = some x → (n, x) ∈ l
  | [], e => by cases e
  | (m, y) :: l, e => by
    unfold look at e
    split at e
    · rename_i hm; injection e with e; subst hm; subst e; simp
    · exact List.mem_cons_of_mem _ (look_mem e)
theorem mem_putL {α : Type} {n m : Nat} {x y : α} : ∀ {l : List (Nat × α)}, (l.map (·.1)).Nodup → (m, y) ∈ putL n x l → (m = n ∧ y = x) ∨ ((m, y) ∈ l ∧ m ≠ n)
  | [], _, h => by simp [putL] at h; exact .inl h
  | (k, z) :: l, hn, h => by
    simp only [List.map_cons, List.nodup_cons] at hn
    unfold putL at h
    split at h
    · rename_i hk
      rcases List.mem_cons.1 h with h | h
      · injection h with h1 h2; exact .inl ⟨h1, h2⟩
      · exact .inr ⟨List.mem_cons_of_mem _ h, fun hm => hn.1 (by rw [hk, ← hm]; exact List.mem_map.2 ⟨_, h, rfl⟩)⟩
    · rename_i hk
      rcases List.mem_cons.1 h with h | h
      · injection h with h1 h2; subst h1; subst h2; exact .inr ⟨by simp, hk⟩
      · exact (mem_putL hn.2 h).imp id fun ⟨h, h2⟩ => ⟨List.mem_cons_of_mem _ h, h2⟩
theorem mem_del {α : Type} {n m : Nat} {y : α} : ∀ {l : List (Nat × α)}, (m, y) ∈ del n l → (m, y) ∈ l ∧ m ≠ n
  | [], h => by cases h
  | (k, z) :: l, h => by
    unfold del at h
    split at h
    · obtain ⟨h1, h2⟩ := mem_del h; exact ⟨List.mem_cons_of_mem _ h1, h2⟩
    · rename_i hk
      rcases List.mem_cons.1 h with h | h
      · injection h with h1 h2; subst h1; subst h2; exact ⟨by simp, hk⟩
      · obtain ⟨h1, h2⟩ := mem_del h; exact ⟨List.mem_cons_of_mem _ h1, h2⟩
theorem putL_ids {α : Type} {n : Nat} {x : α} : ∀ {l : List (Nat × α)}, n ∈ l.map (·.1) → (putL n x l).map (·.1) = l.map (·.1)
  | [], h => by cases h
  | (k, z) :: l, h => by
    unfold putL
    split
    · rename_i hk; simp [hk]
    · rename_i hk
      simp only [List.map_cons, List.mem_cons] at h ⊢
      rw [putL_ids (h.resolve_left (fun e => hk e.symm))]
theorem Sim.get (S : Sim Bb w0 O0 av Γ a w β F) (n : Nat) : SlotR (hp w) (ZdOf Bb F Γ.roots) β (Γ.get n) (a.eval (.tmp n)) := by
  unfold Ctx.get
  cases hl : look n Γ.slots with
  | none => exact .inr ⟨rfl, .inl ⟨0, rfl⟩⟩
  | some v =>
    obtain ⟨x, h1, h2⟩ := S.slots n v (look_mem hl)
    have : a.eval (.tmp n) = x := by simp [Act.eval, Array.getD_eq_getD_getElem?, h1]
    rw [this]; exact h2
theorem slot_c {h : Hp} {Zd : List Nat → Nat → Prop} {v : SV} {cs : List Value} (ht : v.tup = false) (o : SVc h Zd β v cs) : SlotR h Zd β v (valOf v.isAgg cs) := .inr ⟨ht, .inr ⟨cs, o, rfl⟩⟩
theorem ofConst_ok {h : Hp} {Zd : List Nat → Nat → Prop} (v : Value) : SlotR h Zd β (ofConst v) v := by
  have hole : ∀ x : Value, SlotR h Zd β (.hole 1) x := fun x => .inr ⟨rfl, .inl ⟨1, rfl⟩⟩
  unfold ofConst
  split
  · split
    · rename_i k n hk
      simp only [inKB, Bool.and_eq_true, decide_eq_true_eq] at hk
      exact slot_c (v := .pv [] (.int k) n) (cs := [.int k n]) rfl ⟨rfl, rfl, hk.1, hk.2⟩
    · exact hole _
  · rename_i b; exact slot_c (v := .pv [] .bool b) (cs := [.bool b]) rfl ⟨rfl, rfl⟩
  · split
    · rename_i s hs; exact slot_c (v := .pv [] .str s) (cs := [.string s]) rfl ⟨rfl, rfl, hs⟩
    · exact hole _
  · exact slot_c (v := .nils) (cs := [.slice none 0 0]) rfl rfl
  · exact slot_c (v := .nilI) (cs := [.nilIface]) rfl rfl
  · exact slot_c (v := .nilP) (cs := [.pointer none]) rfl rfl
  · exact slot_c (v := .nilM) (cs := [.map none]) rfl rfl
  · exact hole _
theorem Sim.eval (S : Sim Bb w0 O0 av Γ a w β F) (x : Operand) : SlotR (hp w) (ZdOf Bb F Γ.roots) β (Γ.eval x) (a.eval x) := by
  cases x with
  | tmp n => exact S.get n
  | const v => exact ofConst_ok v
  | global g => exact slot_c (v := .gl g) (cs := [.pointer (some ⟨g, 0, none⟩)]) rfl rfl
  | func f => exact slot_c (v := .fn f) (cs := [.func (.func f) #[] #[]]) rfl rfl
theorem Sim.put (S : Sim Bb w0 O0 av Γ a w β F) {v : SV} {x : Value} (o : SlotR (hp w) (ZdOf Bb F Γ.roots) β v x) {d : Option Nat} (e : Γ.put d v = some Γ') : Sim Bb w0 O0 av Γ' (a.put d x) w β F := by
  cases d with
  | none => simp only [Ctx.put, Option.some.injEq] at e; subst e; exact S
  | some n =>
    simp only [Ctx.put] at e
    split at e
    · rename_i hn
      simp only [Option.some.injEq] at e; subst e
      refine ⟨by simp [Act.put, S.size], S.defers, ?_, S.roots, S.anch, S.ids, S.nodup, S.own, S.frm, S.bone, S.base⟩
      intro m u hm
      rcases List.mem_cons.1 hm with hm | hm
      · injection hm with h1 h2; subst h1; subst h2
        exact ⟨x, by simp [Act.put, Array.getElem?_setIfInBounds, S.size, hn], o⟩
      · obtain ⟨h1, hmn⟩ := mem_del hm
        obtain ⟨y, h2, h3⟩ := S.slots m u h1
        exact ⟨y, by simp [Act.put, Array.getElem?_setIfInBounds, Ne.symm hmn, h2], h3⟩
    · cases e
/-- A change of the world: what fits is kept. -/
theorem Sim.world {R' : List (Nat × Ch)} {D : List Nat → Prop} {R : Nat → Prop} (S : Sim Bb w0 O0 av Γ a w β F) (fit : FitG D R Γ)
    (hz : ∀ d, D d → ∀ b, ZdOf Bb F Γ.roots d b → (hp w b).isSome → hp w' b = hp w b ∧ ZdOf Bb F' R' d b) (hβ : ∀ q, R q → β' q = β q)
    (hr : ∀ r c, (r, c) ∈ R' → RootR (hp w') (ZdOf Bb F' R') β' (F' r) r c) (hi : (R'.map (·.1)).Nodup) (hn : (allO F' R').Nodup)
    (ho : ∀ b ∈ allO F' R', b < w'.heap.size ∧ (b ∈ O0 ∨ w0.heap.size ≤ b)) (hf : Frm O0 w0 w') (h1 : ∀ q, one (β' q) = true) : Sim Bb w0 O0 av ⟨Γ.nt, Γ.slots, R', Γ.anch⟩ a w' β' F' :=
  ⟨S.size, S.defers, fun n v hm => by
    obtain ⟨x, h1, h2⟩ := S.slots n v hm
    exact ⟨x, h1, SlotR.mono hz hβ (fit.slots n v hm) h2⟩, hr, AnchR.mono hz hβ fit.anch S.anch, hi, hn, ho, hf, h1, S.base⟩
theorem RootR.mono {h h' : Hp} {Zd Zd' : List Nat → Nat → Prop} {D : List Nat → Prop} {R : Nat → Prop} (hD : D []) (hz : ∀ d, D d → ∀ b, Zd d b → (h b).isSome → h' b = h b ∧ Zd' d b) (hβ : ∀ q, R q → β' q = β q)
    {B : List Nat} {r : Nat} {c : Ch} (hr : β' r = β r) (hb : ∀ b ∈ B, h' b = h b) (fit : ∀ v, c = .box v → Fit D R v) (o : RootR h Zd β B r c) : RootR h' Zd' β' B r c := by
  cases c with
  | row lvl e xs => unfold RootR; rw [hr]; exact Own.mono (hz [] hD) hb o
  | box v =>
    obtain ⟨b, cs, ty, h1, h2, h3, h4⟩ := o
    exact ⟨b, cs, ty, hr.trans h1, h2, (hb b (by rw [h2]; simp)).trans h3, SVc.mono hz hβ (fit v rfl) h4⟩
  | iter s p =>
    obtain ⟨b, n, h1, h2, h3, h4⟩ := o
    exact ⟨b, n, hr.trans h1, h2, (hb b (by rw [h2]; simp)).trans h3, h4⟩
  | mp k v xs => unfold RootR; rw [hr]; exact Own.mono (hz [] hD) hb o
  | glob l =>
    obtain ⟨h1, h2⟩ := o
    refine ⟨h1, fun p hp => ?_⟩
    obtain ⟨h3, arr, ty, fz, h4, h5⟩ := h2 p hp
    obtain ⟨h6, h7⟩ := hz [] hD _ h3 (by rw [h4]; rfl)
    exact ⟨h7, arr, ty, fz, h6.trans h4, h5⟩
theorem mem_allO {R : List (Nat × Ch)} {b : Nat} : b ∈ allO F R ↔ ∃ r ∈ R.map (·.1), b ∈ F r := by
  unfold allO; simp only [List.mem_flatten, List.mem_map]
  constructor
  · rintro ⟨l, ⟨p, hp, rfl⟩, hb⟩; exact ⟨p.1, ⟨p, hp, rfl⟩, hb⟩
  · rintro ⟨r, ⟨p, hp, rfl⟩, hb⟩; exact ⟨_, ⟨p, hp, rfl⟩, hb⟩
/-- Two roots share no block. -/
theorem disj {R : List (Nat × Ch)} (hi : (R.map (·.1)).Nodup) (hn : (allO F R).Nodup) {r q b : Nat} (hr : r ∈ R.map (·.1)) (hq : q ∈ R.map (·.1)) (h1 : b ∈ F r) (h2 : b ∈ F q) : r = q := by
  induction R with
  | nil => cases hr
  | cons p R ih =>
    simp only [List.map_cons, List.nodup_cons] at hi
    have e : allO F (p :: R) = F p.1 ++ allO F R := by simp [allO]
    rw [e, List.nodup_append] at hn
    simp only [List.map_cons, List.mem_cons] at hr hq
    rcases hr with rfl | hr <;> rcases hq with rfl | hq
    · rfl
    · exact absurd rfl (hn.2.2 _ h1 _ (mem_allO.2 ⟨_, hq, h2⟩))
    · exact absurd rfl (hn.2.2 _ h2 _ (mem_allO.2 ⟨_, hr, h1⟩))
    · exact ih hi.2 hn.2.1 hr hq
end

/-! ### types -/
def InfoOk (P : Program) (τ : Ty) (t : TypeId) : Prop := ∃ i, P.info? t = some i ∧ i.size = τ.sz ∧ i.zero = some (valOf τ.agg τ.zc) ∧ 0 < i.bytes ∧ i.bytes ≤ 1024
def TyF (P : Program) : Ty → (TypeId → Prop) × (List Field → Nat → Prop)
  | .unit => (fun t => ∃ fs, P.underlying t = some (.struct fs) ∧ fs.toList = [] ∧ InfoOk P .unit t, fun fs _ => fs = [])
  | .int k => (fun t => P.underlying t = some (.int k) ∧ InfoOk P (.int k) t, fun _ _ => False)
  | .bool => (fun t => P.underlying t = some .bool ∧ InfoOk P .bool t, fun _ _ => False)
  | .str => (fun t => P.underlying t = some .string ∧ InfoOk P .str t, fun _ _ => False)
  | .pair a b =>
    (fun t => ∃ fs, P.underlying t = some (.struct fs) ∧ (∃ f l, fs.toList = f :: l ∧ f.offset = 0 ∧ (TyF P a).1 f.type ∧ (TyF P b).2 l (0 + a.sz)) ∧ InfoOk P (.pair a b) t,
     fun fs off => ∃ f l, fs = f :: l ∧ f.offset = off ∧ (TyF P a).1 f.type ∧ (TyF P b).2 l (off + a.sz))
  | .sl e => (fun t => ∃ te, P.underlying t = some (.slice te) ∧ (TyF P e).1 te ∧ InfoOk P (.sl e) t, fun _ _ => False)
  | .any => (fun t => ∃ m, P.underlying t = some (.interface m) ∧ InfoOk P .any t, fun _ _ => False)
  | .arr n e => (fun t => ∃ te, P.underlying t = some (.array n te) ∧ (TyF P e).1 te ∧ InfoOk P (.arr n e) t, fun _ _ => False)
  | .mp k v => (fun t => ∃ tk tv, P.underlying t = some (.map tk tv) ∧ (TyF P k).1 tk ∧ (TyF P v).1 tv ∧ InfoOk P (.mp k v) t, fun _ _ => False)
  | .ptr e => (fun t => ∃ te, P.underlying t = some (.pointer te) ∧ (TyF P e).1 te ∧ InfoOk P (.ptr e) t, fun _ _ => False)
  | .inil => (fun t => ∃ m, P.underlying t = some (.interface m) ∧ InfoOk P .inil t, fun _ _ => False)
  | .ialt u a r => (fun t => ∃ m, P.underlying t = some (.interface m) ∧ (TyF P a).1 u ∧ (TyF P r).1 t ∧ InfoOk P (.ialt u a r) t, fun _ _ => False)
def TyOk (P : Program) (τ : Ty) (t : TypeId) : Prop := (TyF P τ).1 t
def TabOk (P : Program) (T : Tab) : Prop := ∀ t τ, T.ty t = some τ → TyOk P τ t
theorem TyOk.info {P : Program} {τ : Ty} {t : TypeId} (h : TyOk P τ t) : InfoOk P τ t := by
  cases τ with
  | unit => obtain ⟨_, _, _, h⟩ := h; exact h
  | int k => exact h.2
  | bool => exact h.2
  | str => exact h.2
  | pair a b => obtain ⟨_, _, _, h⟩ := h; exact h
  | sl e => obtain ⟨_, _, _, h⟩ := h; exact h
  | any => obtain ⟨_, _, h⟩ := h; exact h
  | arr n e => obtain ⟨_, _, _, h⟩ := h; exact h
  | mp k v => obtain ⟨_, _, _, _, _, h⟩ := h; exact h
  | ptr e => obtain ⟨_, _, _, h⟩ := h; exact h
  | inil => obtain ⟨_, _, h⟩ := h; exact h
  | ialt u a r => obtain ⟨_, _, _, _, h⟩ := h; exact h
theorem TyOk.slice {P : Program} {e : Ty} {t : TypeId} (h : TyOk P (.sl e) t) : ∃ te, P.underlying t = some (.slice te) ∧ TyOk P e te := by
  obtain ⟨te, h1, h2, _⟩ := h; exact ⟨te, h1, h2⟩
/-- The field number n of a struct. -/
theorem TyOk.field {P : Program} {τ : Ty} {t : TypeId} {n : Nat} {u : Ty} (h : TyOk P τ t) (hu : tyAt τ [n] = some u) : ∃ fs f, P.underlying t = some (.struct fs) ∧ fs[n]? = some f ∧ f.offset = offAt τ [n] ∧ TyOk P u f.type := by
  have key : ∀ (n : Nat) (τ u : Ty) (fs : List Field) (off : Nat), (TyF P τ).2 fs off → tyAt τ [n] = some u → ∃ f, fs[n]? = some f ∧ f.offset = off + offAt τ [n] ∧ TyOk P u f.type := by
    intro n
    induction n with
    | zero =>
      intro τ u fs off h hu
      cases τ with
      | pair a b =>
        obtain ⟨f, l, rfl, h1, h2, h3⟩ := h
        simp only [tyAt, Option.some.injEq] at hu; subst hu
        exact ⟨f, rfl, by simp [offAt, h1], h2⟩
      | _ => simp [tyAt] at hu
    | succ n ih =>
      intro τ u fs off h hu
      cases τ with
      | pair a b =>
        obtain ⟨f, l, rfl, h1, h2, h3⟩ := h
        obtain ⟨g, q1, q2, q3⟩ := ih b u l _ h3 hu
        exact ⟨g, q1, by simp only [offAt]; omega, q3⟩
      | _ => simp [tyAt] at hu
  cases τ with
  | pair a b =>
    obtain ⟨fs, h1, h2, _⟩ := h
    obtain ⟨f, q1, q2, q3⟩ := key n (.pair a b) u fs.toList 0 h2 hu
    exact ⟨fs, f, h1, by simpa using q1, by simpa using q2, q3⟩
  | _ => simp [tyAt] at hu
/-- What is a struct in the program is one here. -/
theorem TyOk.agg {P : Program} {w : World} {τ : Ty} {t : TypeId} (h : TyOk P τ t) : (isAgg t).run P w = .ok τ.agg w := by
  have u : ∀ d, P.underlying t = some d → (isAgg t).run P w = .ok (match d with | .struct _ | .array _ _ => true | _ => false) w := by
    intro d hd
    simp only [isAgg, underlying, program, bind, Sem.bind, Sem.run, hd, pure]
    cases d <;> rfl
  cases τ with
  | unit => obtain ⟨_, h, _⟩ := h; exact u _ h
  | int k => exact u _ h.1
  | bool => exact u _ h.1
  | str => exact u _ h.1
  | pair a b => obtain ⟨_, h, _⟩ := h; exact u _ h
  | sl e => obtain ⟨_, h, _⟩ := h; exact u _ h
  | any => obtain ⟨_, h, _⟩ := h; exact u _ h
  | arr n e => obtain ⟨_, h, _⟩ := h; exact u _ h
  | mp k v => obtain ⟨_, _, h, _⟩ := h; exact u _ h
  | ptr e => obtain ⟨_, h, _⟩ := h; exact u _ h
  | inil => obtain ⟨_, h, _⟩ := h; exact u _ h
  | ialt _ _ _ => obtain ⟨_, h, _⟩ := h; exact u _ h
end Go.Proofs.YtjpeblicfhfniaaDoor.Eng
