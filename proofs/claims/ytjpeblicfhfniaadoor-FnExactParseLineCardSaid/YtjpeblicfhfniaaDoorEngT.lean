/- The engine, twentieth part: rows of operations. No condition. -/
import Derived.Test.YtjpeblicfhfniaaDoorEngS
namespace Go.Proofs.YtjpeblicfhfniaaDoor.Eng
open Go.RowKit
set_option linter.unusedVariables false
set_option linter.unusedSimpArgs false
section
variable {P : Program} {T : Tab} {C : FuncId → Option Con} {Bb : Nat → Prop} {w0 : World} {O0 : List Nat} {av : List Value} {Γ Γ' : Ctx} {a : Act} {w w' : World} {β : Nat → Value} {F : Nat → List Nat} {K : Ctx → Prop} {o : Oper} {Q : Exit → Act → World → Prop}
def ConsOk (P : Program) (C : FuncId → Option Con) : Prop := ∀ f c, C f = some c → Enters P f ∧ FnOK P f c
theorem run_alloc {t : TypeId} {u : Ty} (ht : TyOk P u t) {z : Value} (h : (Instr.box t (valOf u.agg u.zc)).run P w = .ok z w') : (Instr.alloc t true (.tuple #[])).run P w = .ok z w' := by
  unfold Instr.alloc
  show (Sem.bind _ _).run P w = _
  rw [run_bind_ok (run_zero ht.info)]
  exact h
theorem sound_op2 (hT : TabOk P T) (S : Sim Bb w0 O0 av Γ a w β F) (hr : isRd o.op ≠ true) (hk : vcOp2 real T o Γ K) : o.wp P a w (Nx Bb w0 O0 av K) Q := by
  unfold vcOp2 at hk
  split at hk
  · rename_i t ho; exact sound_makeMap hT S ho hk
  · rename_i t x k v ho
    split at hk
    · rename_i hd; exact sound_insert hT S (.inl ho) hd hk
    · exact hk.elim
  · rename_i t x k v ho
    split at hk
    · rename_i hd; exact sound_insert hT S (.inr ho) hd hk
    · exact hk.elim
  · rename_i t x k ok ho; rw [ho] at hr; exact absurd rfl hr
  · exact hk.elim
theorem sound_op (hT : TabOk P T) (hC : ConsOk P C) (S : Sim Bb w0 O0 av Γ a w β F) (hk : vcOp real T C o Γ K) : o.wp P a w (Nx Bb w0 O0 av K) Q := by
  by_cases hr : isRd o.op = true
  · exact (sound_rd hT S hr hk).wp
  unfold vcOp at hk
  split at hk
  case h_1 x ho => rw [ho] at hr; exact absurd rfl hr
  case h_2 x ho => rw [ho] at hr; exact absurd rfl hr
  case h_3 c x y ho => rw [ho] at hr; exact absurd rfl hr
  case h_4 op t x y t2 ho => rw [ho] at hr; exact absurd rfl hr
  case h_5 op t x ho => rw [ho] at hr; exact absurd rfl hr
  case h_6 s t x ho => rw [ho] at hr; exact absurd rfl hr
  case h_7 t x ho => rw [ho] at hr; exact absurd rfl hr
  case h_8 t x v ho =>
    split at hk
    · rename_i hd; exact sound_store hT S ho hd hk
    · exact hk.elim
  case h_9 t x i ho => rw [ho] at hr; exact absurd rfl hr
  case h_10 t x n ho => rw [ho] at hr; exact absurd rfl hr
  case h_11 t x n ho => rw [ho] at hr; exact absurd rfl hr
  case h_12 t x i ho => rw [ho] at hr; exact absurd rfl hr
  case h_13 x n ho => rw [ho] at hr; exact absurd rfl hr
  case h_14 x ho => rw [ho] at hr; exact absurd rfl hr
  case h_15 t ps ho => rw [ho] at hr; exact absurd rfl hr
  case h_16 t n ps ho =>
    split at hk
    · rename_i hb
      rw [evp_map] at hk
      exact sound_buildSlice hT S ho (below_ok n _ hb) hk
    · exact hk.elim
  case h_17 t x y ho => exact sound_makeSlice hT S ho hk
  case h_18 t x lo hi ho => rw [ho] at hr; exact absurd rfl hr
  case h_19 t ho =>
    split at hk
    · rename_i u hu
      refine sound_box hT S hu (x := valOf u.agg u.zc) (slot_c (v := zeroSV u) (cs := u.zc) (by cases u <;> rfl) (zeroSV_ok u) |> fun h => by rw [agg_zero] at h; exact h) (fun z w' hz => ?_) hk
      unfold execOp; rw [ho]
      exact run_v (run_alloc (hT _ _ hu) hz)
    · exact hk.elim
  case h_20 t x ho =>
    split at hk
    · rename_i u hu
      refine sound_box hT S hu (S.eval x) (fun z w' hz => ?_) hk
      unfold execOp; rw [ho]
      exact run_v hz
    · exact hk.elim
  case h_21 b args ts ho =>
    unfold vcBuiltin at hk
    rw [evs_map] at hk
    have two : ∀ {x' y' : SV}, args.toList.map Γ.eval = [x', y'] → ∃ x y, args = #[x, y] ∧ x' = Γ.eval x ∧ y' = Γ.eval y := by
      intro x' y' h
      cases hl : args.toList with
      | nil => rw [hl] at h; cases h
      | cons x l =>
        cases l with
        | nil => rw [hl] at h; simp at h
        | cons y l =>
          rw [hl] at h
          simp only [List.map_cons, List.cons.injEq, List.map_eq_nil_iff] at h
          obtain ⟨h1, h2, rfl⟩ := h
          exact ⟨x, y, list2 hl, h1.symm, h2.symm⟩
    split at hk
    · rename_i x' y' h2
      obtain ⟨x, y, rfl, rfl, rfl⟩ := two h2
      have : ∃ t t2, ts = #[t, t2] := by
        unfold opAppend at hk
        split at hk
        · rename_i t t2 ht; exact ⟨t, t2, list2 ht⟩
        · exact hk.elim
      obtain ⟨t, t2, rfl⟩ := this
      exact sound_append hT S ho hk
    · rw [ho] at hr; exact absurd rfl hr
    · rename_i x' y' h2
      obtain ⟨x, y, rfl, rfl, rfl⟩ := two h2
      exact (sound_mm S (mx := true) ho hk).wp
    · rename_i x' y' h2
      obtain ⟨x, y, rfl, rfl, rfl⟩ := two h2
      exact (sound_mm S (mx := false) ho hk).wp
    · rename_i x' y' h2
      obtain ⟨x, y, rfl, rfl, rfl⟩ := two h2
      split at hk
      · rename_i t t2 ht
        have ht' := list2 ht
        subst ht'
        exact sound_delete hT S ho hk
      · exact hk.elim
    · exact hk.elim
  case h_22 f args ts ho =>
    split at hk
    · rename_i c hc
      rw [evs_map] at hk
      exact sound_call (hC _ _ hc).1 (hC _ _ hc).2 S ho hk
    · exact hk.elim
  case h_23 t x ho => exact sound_range hT S ho hk
  case h_24 x st ho => exact sound_next S ho hk
  case h_25 => exact sound_op2 hT S hr hk
end

section
variable (M : Mth) (T : Tab) (C : FuncId → Option Con)
def nthO : Nat → List Oper → Option Oper
  | _, [] => none
  | 0, o :: _ => some o
  | n + 1, _ :: l => nthO n l
/-- One operation, its guard looked at. -/
def vcG (all : List Oper) (o : Oper) (Γ : Ctx) (K : Ctx → Prop) : Prop :=
  match o.guard with
  | none => vcOp M T C o Γ K
  | some (j, want) => match nthO j all with
    | none => False
    | some oj => match oj.dst with
      | none => False
      | some t => match Γ.get t with
        | .pv _ .bool c => spl c
            (fun _ => Γ.on (some t) (.pv [] .bool true) fun Γ => match want with | true => vcOp M T C o Γ K | false => Γ.on o.dst .nilT K)
            (fun _ => Γ.on (some t) (.pv [] .bool false) fun Γ => match want with | true => Γ.on o.dst .nilT K | false => vcOp M T C o Γ K)
        | .nilT => Γ.on o.dst .nilT K
        | _ => False
def vcOps (all : List Oper) : List Oper → Ctx → (Ctx → Prop) → Prop
  | [], Γ, K => K Γ
  | o :: l, Γ, K => vcG M T C all o Γ fun Γ => vcOps all l Γ K
/-- operations that only read, ahead of the others -/
def vcHead (all : List Oper) : Nat → List Oper → Ctx → (List Oper → Ctx → Prop) → Prop
  | 0, l, Γ, K => K l Γ
  | _ + 1, [], Γ, K => K [] Γ
  | n + 1, o :: l, Γ, K => match isRd o.op with
    | true => vcG M T C all o Γ fun Γ => vcHead all n l Γ K
    | false => False
end
section
variable {P : Program} {T : Tab} {C : FuncId → Option Con} {Bb : Nat → Prop} {w0 : World} {O0 : List Nat} {av : List Value} {Γ Γ' : Ctx} {a : Act} {w w' : World} {β : Nat → Value} {F : Nat → List Nat} {K : Ctx → Prop} {o : Oper} {Q : Exit → Act → World → Prop}
theorem nthO_eq : ∀ (n : Nat) (l : List Oper), nthO n l = l[n]?
  | n, [] => by cases n <;> rfl
  | 0, o :: l => rfl
  | n + 1, o :: l => by rw [nthO, nthO_eq n l]; rfl
/-- What one guarded operation is to give. -/
def Guarded (P : Program) (ops : Array Oper) (o : Oper) (a : Act) (w : World) (N : Act → World → Prop) (run : Prop) : Prop :=
  (Region.wanted o (yielded ops a.tmps) = true ∧ run) ∨ (Region.wanted o (yielded ops a.tmps) = false ∧ N (a.put o.dst undef) w)
theorem guard_ok {all : List Oper} (S : Sim Bb w0 O0 av Γ a w β F) (hk : vcG real T C all o Γ K) :
    (Region.wanted o (yielded all.toArray a.tmps) = true ∧ ∃ Γ', Sim Bb w0 O0 av Γ' a w β F ∧ vcOp real T C o Γ' K) ∨ (Region.wanted o (yielded all.toArray a.tmps) = false ∧ Nx Bb w0 O0 av K (a.put o.dst undef) w) := by
  unfold vcG at hk
  split at hk
  · rename_i hg; exact .inl ⟨by simp [Region.wanted, hg], Γ, S, hk⟩
  · rename_i j want hg
    split at hk
    · exact hk.elim
    rename_i oj hj
    rw [nthO_eq] at hj
    split at hk
    · exact hk.elim
    rename_i t ht
    split at hk
    · rename_i d c hgt
      have hs := S.get t
      rw [hgt] at hs
      have hc : a.eval (.tmp t) = .bool c := slot_bool hs
      have hy : ∀ b, c = b → Region.wanted o (yielded all.toArray a.tmps) = (b == want) := by
        intro b hb
        have h2 : a.tmps.getD t undef = .bool c := hc
        have h3 : a.tmps[t]? = some (.bool c) := by
          rcases Nat.lt_or_ge t a.tmps.size with h | h
          · simpa [Array.getD_eq_getD_getElem?, h] using h2
          · simp [Array.getD_eq_getD_getElem?, Array.getElem?_eq_none h, undef] at h2
        have h1 : yielded all.toArray a.tmps j = some c := by
          unfold yielded; simp [hj, ht, h3, h2]
        unfold Region.wanted
        rw [hg]
        simp only [h1, hb]
        cases b <;> cases want <;> rfl
      have self : ∀ b, c = b → a.put (some t) (.bool b) = a := by
        intro b hb
        have hin : t < a.tmps.size := by
          rcases Nat.lt_or_ge t a.tmps.size with h | h
          · exact h
          · have h2 : a.tmps.getD t undef = .bool c := hc
            simp [Array.getD_eq_getD_getElem?, Array.getElem?_eq_none h, undef] at h2
        have h2 : a.tmps.getD t undef = .bool b := by rw [← hb]; exact hc
        have h3 : a.tmps[t] = .bool b := by simpa [Array.getD_eq_getD_getElem?, hin] using h2
        have : a.tmps.setIfInBounds t (.bool b) = a.tmps := by
          apply Array.ext_getElem?
          intro i
          rw [Array.getElem?_setIfInBounds]
          split
          · rename_i hi; subst hi; simp [hin, h3]
          · rfl
        show ({ a with tmps := a.tmps.setIfInBounds t (.bool b) } : Act) = a
        rw [this]
      have hole : ∀ (Γ1 : Ctx), Sim Bb w0 O0 av Γ1 a w β F → Γ1.on o.dst .nilT K → Nx Bb w0 O0 av K (a.put o.dst undef) w := by
        intro Γ1 S1 h
        unfold Ctx.on at h
        split at h
        · rename_i Γ2 e; exact ⟨Γ2, β, F, h, S1.put (v := .nilT) (x := undef) (.inl ⟨rfl, [], rfl, show TupR _ _ _ .nilT [] from rfl⟩) e⟩
        · exact h.elim
      rcases spl_cases hk with ⟨hb, hk⟩ | ⟨hb, hk⟩
      · unfold Ctx.on at hk
        split at hk
        · rename_i Γ1 e1
          have S1 : Sim Bb w0 O0 av Γ1 a w β F := by have := S.put (x := .bool true) mk_bool e1; rw [self true hb] at this; exact this
          cases want with
          | true => exact .inl ⟨hy true hb, Γ1, S1, hk⟩
          | false => exact .inr ⟨hy true hb, hole Γ1 S1 hk⟩
        · exact hk.elim
      · unfold Ctx.on at hk
        split at hk
        · rename_i Γ1 e1
          have S1 : Sim Bb w0 O0 av Γ1 a w β F := by have := S.put (x := .bool false) mk_bool e1; rw [self false hb] at this; exact this
          cases want with
          | true => exact .inr ⟨hy false hb, hole Γ1 S1 hk⟩
          | false => exact .inl ⟨hy false hb, Γ1, S1, hk⟩
        · exact hk.elim
    · rename_i hgt
      have hs := S.get t
      rw [hgt] at hs
      have hu : a.tmps.getD t undef = .tuple #[] := by
        rcases hs with ⟨_, l, e, h⟩ | ⟨h, _⟩
        · have h' : l = [] := h
          subst h'; exact e
        · cases h
      refine .inr ⟨?_, ?_⟩
      · have h1 : yielded all.toArray a.tmps j = none := by
          unfold yielded; simp [hj, ht, hu]
          rcases Nat.lt_or_ge t a.tmps.size with h | h
          · have : a.tmps[t] = .tuple #[] := by simpa [Array.getD_eq_getD_getElem?, h] using hu
            simp [Array.getElem?_eq_getElem h, this]
          · simp [Array.getElem?_eq_none h]
        unfold Region.wanted
        rw [hg]
        simp only [h1]
        cases want <;> rfl
      · unfold Ctx.on at hk
        split at hk
        · rename_i Γ2 e; exact ⟨Γ2, β, F, hk, S.put (v := .nilT) (x := undef) (.inl ⟨rfl, [], rfl, show TupR _ _ _ .nilT [] from rfl⟩) e⟩
        · exact hk.elim
    · exact hk.elim
theorem sound_ops (hT : TabOk P T) (hC : ConsOk P C) {all : List Oper} : ∀ {l : List Oper} {Γ : Ctx} {a : Act} {w : World} {β : Nat → Value} {F : Nat → List Nat}, Sim Bb w0 O0 av Γ a w β F → vcOps real T C all l Γ K → (∀ a' w', Nx Bb w0 O0 av K a' w' → Q .normal a' w') → wpList P all.toArray Q l a w
  | [], Γ, a, w, β, F, S, hk, hq => hq a w ⟨Γ, β, F, hk, S⟩
  | o :: l, Γ, a, w, β, F, S, hk, hq => by
    refine wpList_step fun N hN => ?_
    have cont : ∀ a' w', Nx Bb w0 O0 av (fun Γ => vcOps real T C all l Γ K) a' w' → N a' w' := fun a' w' ⟨Γ', β', F', h1, h2⟩ => hN a' w' (sound_ops hT hC h2 h1 hq)
    rcases guard_ok S hk with ⟨h1, Γ', S', h2⟩ | ⟨h1, h2⟩
    · rw [if_pos h1]
      exact Oper.wp_mono' cont (sound_op hT hC S' h2)
    · rw [if_neg (by rw [h1]; exact Bool.false_ne_true)]
      exact cont _ _ h2
where
  Oper.wp_mono' {P : Program} {o : Oper} {a : Act} {w : World} {N N' : Act → World → Prop} {Q : Exit → Act → World → Prop} (h : ∀ a w, N a w → N' a w) (hh : o.wp P a w N Q) : o.wp P a w N' Q := Go.Oper.wp_mono h hh
end
end Go.Proofs.YtjpeblicfhfniaaDoor.Eng
