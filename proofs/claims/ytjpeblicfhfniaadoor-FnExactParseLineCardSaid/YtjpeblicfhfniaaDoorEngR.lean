/- The engine, eighteenth part: the soundness of a call. No condition. -/
import Derived.Test.YtjpeblicfhfniaaDoorEngQ
namespace Go.Proofs.YtjpeblicfhfniaaDoor.Eng
open Go.RowKit
set_option linter.unusedVariables false
set_option linter.unusedSimpArgs false
section
variable {P : Program} {T : Tab} {Bb : Nat → Prop} {w0 : World} {O0 : List Nat} {av : List Value} {Γ Γ' : Ctx} {a : Act} {w w' : World} {β : Nat → Value} {F : Nat → List Nat} {K : Ctx → Prop} {o : Oper} {Q : Exit → Act → World → Prop}
def Enters (P : Program) (f : FuncId) : Prop := ∀ (args : Array Value) (w : World), (callFunc f args).run P w = .ok (.enter f args) w
theorem Soft.comp {f g : SV → SV} (hf : Soft f) (hg : Soft g) : Soft (fun v => g (f v)) where
  c o := hg.c (hf.c o)
  agg v := by
    rcases hf.agg v with ⟨n, h⟩ | h
    · exact .inl ⟨n, by rw [h]; exact hg.hole n⟩
    · rcases hg.agg (f v) with h2 | h2
      · exact .inl h2
      · exact .inr (h2.trans h)
  hole n := by rw [hf.hole, hg.hole]
  nilT := by rw [hf.nilT, hg.nilT]
  consT a b := by rw [hf.consT, hg.consT]
  un v := by rw [hg.un, hf.un]
theorem soft_id : Soft (fun v => v) where
  c o := o
  agg v := .inr rfl
  hole n := rfl
  nilT := rfl
  consT a b := rfl
  un v := rfl
theorem soft_killL : ∀ l : List Nat, Soft (killL l)
  | [] => soft_id
  | r :: l => Soft.comp (f := Eng.kill r) (g := killL l) (soft_kill r) (soft_killL l)
theorem soft_killDL : ∀ l : List Nat, Soft (killDL l)
  | [] => soft_id
  | r :: l => Soft.comp (f := Eng.killD r) (g := killDL l) (soft_killD r) (soft_killDL l)
theorem Fit.mono {D D' : List Nat → Prop} {R R' : Nat → Prop} (hD : ∀ d, D d → D' d) (hR : ∀ q, R q → R' q) : ∀ {v : SV}, Fit D R v → Fit D' R' v
  | .pv d t x, f => hD d f
  | .ref r, f => hR r f
  | .ad r _ _ _, f => hR r f
  | .fad d _ _ _ _, f => hD d f
  | .consA a b, f => ⟨f.1.mono hD hR, f.2.mono hD hR⟩
  | .consT a b, f => ⟨f.1.mono hD hR, f.2.mono hD hR⟩
  | .arp r _ _, f => hR r f
  | .vw r _ _ _, f => hR r f
  | .ifs _ _ v, f => Fit.mono (v := v) hD hR f
  | .hole _, _ => trivial | .nils, _ => trivial | .nilA, _ => trivial | .nilT, _ => trivial | .nilI, _ => trivial | .nilP, _ => trivial | .nilM, _ => trivial | .gl _, _ => trivial | .fn _, _ => trivial
theorem Fit.and {D D' : List Nat → Prop} {R R' : Nat → Prop} : ∀ {v : SV}, Fit D R v → Fit D' R' v → Fit (fun d => D d ∧ D' d) (fun q => R q ∧ R' q) v
  | .pv d t x, f, g => ⟨f, g⟩
  | .ref r, f, g => ⟨f, g⟩
  | .ad r _ _ _, f, g => ⟨f, g⟩
  | .fad d _ _ _ _, f, g => ⟨f, g⟩
  | .consA a b, f, g => ⟨f.1.and g.1, f.2.and g.2⟩
  | .consT a b, f, g => ⟨f.1.and g.1, f.2.and g.2⟩
  | .arp r _ _, f, g => ⟨f, g⟩
  | .vw r _ _ _, f, g => ⟨f, g⟩
  | .ifs _ _ v, f, g => Fit.and (v := v) f g
  | .hole _, _, _ => trivial | .nils, _, _ => trivial | .nilA, _, _ => trivial | .nilT, _, _ => trivial | .nilI, _, _ => trivial | .nilP, _, _ => trivial | .nilM, _, _ => trivial | .gl _, _, _ => trivial | .fn _, _, _ => trivial
theorem Fit.kill {D : List Nat → Prop} {R : Nat → Prop} (r : Nat) : ∀ {v : SV}, Fit D R v → Fit D R (kill r v)
  | .pv d t x, f => by unfold Eng.kill; split <;> first | trivial | exact f
  | .ref q, f => by unfold Eng.kill; split <;> first | trivial | exact f
  | .ad q _ _ _, f => by unfold Eng.kill; split <;> first | trivial | exact f
  | .fad d _ _ _ _, f => by unfold Eng.kill; split <;> first | trivial | exact f
  | .consA a b, f => ⟨Fit.kill r f.1, Fit.kill r f.2⟩
  | .consT a b, f => ⟨Fit.kill r f.1, Fit.kill r f.2⟩
  | .arp q _ _, f => by unfold Eng.kill; split <;> first | trivial | exact f
  | .vw q _ _ _, f => by unfold Eng.kill; split <;> first | trivial | exact f
  | .ifs _ _ v, f => Fit.kill (v := v) r f
  | .hole _, _ => trivial | .nils, _ => trivial | .nilA, _ => trivial | .nilT, _ => trivial | .nilI, _ => trivial | .nilP, _ => trivial | .nilM, _ => trivial | .gl _, _ => trivial | .fn _, _ => trivial
theorem Fit.killD {D : List Nat → Prop} {R : Nat → Prop} (r : Nat) : ∀ {v : SV}, Fit D R v → Fit D R (killD r v)
  | .pv d t x, f => by unfold Eng.killD; split <;> first | trivial | exact f
  | .ref q, f => f
  | .ad q _ _ _, f => f
  | .fad d _ _ _ _, f => by unfold Eng.killD; split <;> first | trivial | exact f
  | .consA a b, f => ⟨Fit.killD r f.1, Fit.killD r f.2⟩
  | .consT a b, f => ⟨Fit.killD r f.1, Fit.killD r f.2⟩
  | .arp q _ _, f => f
  | .vw q _ _ _, f => f
  | .ifs _ _ v, f => Fit.killD (v := v) r f
  | .hole _, _ => trivial | .nils, _ => trivial | .nilA, _ => trivial | .nilT, _ => trivial | .nilI, _ => trivial | .nilP, _ => trivial | .nilM, _ => trivial | .gl _, _ => trivial | .fn _, _ => trivial
theorem Fit.killL {D : List Nat → Prop} {R : Nat → Prop} : ∀ (l : List Nat) {v : SV}, Fit D R v → Fit D R (killL l v)
  | [], _, f => f
  | r :: l, _, f => Fit.killL l (Fit.kill r f)
theorem Fit.killDL {D : List Nat → Prop} {R : Nat → Prop} : ∀ (l : List Nat) {v : SV}, Fit D R v → Fit D R (killDL l v)
  | [], _, f => f
  | r :: l, _, f => Fit.killDL l (Fit.killD r f)
theorem fit_killL : ∀ (l : List Nat) (v : SV), Fit (fun d => ∀ r ∈ l, r ∉ d) (fun q => q ∉ l) (Eng.killL l v)
  | [], v => (fit_all v).mono (fun _ _ => by simp) (fun _ _ => by simp)
  | r :: l, v => by
    have h1 := fit_killL l (kill r v)
    have h2 := Fit.killL l (fit_kill r v)
    refine (h1.and h2).mono (fun d h q hq => ?_) (fun q h => ?_)
    · rcases List.mem_cons.1 hq with rfl | hq
      · exact mem_false h.2
      · exact h.1 q hq
    · simp only [List.mem_cons, not_or]; exact ⟨h.2, h.1⟩
theorem fit_killDL : ∀ (l : List Nat) (v : SV), Fit (fun d => ∀ r ∈ l, r ∉ d) (fun _ => True) (Eng.killDL l v)
  | [], v => (fit_all v).mono (fun _ _ => by simp) (fun _ _ => trivial)
  | r :: l, v => by
    have h1 := fit_killDL l (killD r v)
    have h2 := Fit.killDL l (fit_killD r v)
    refine (h1.and h2).mono (fun d h q hq => ?_) (fun q h => trivial)
    rcases List.mem_cons.1 hq with rfl | hq
    · exact mem_false h.2
    · exact h.1 q hq
theorem nodupB_ok : ∀ {l : List Nat}, nodupB l = true → l.Nodup
  | [], _ => .nil
  | r :: l, h => by
    simp only [nodupB, Bool.and_eq_true, Bool.not_eq_true'] at h
    exact List.nodup_cons.2 ⟨mem_false h.1, nodupB_ok h.2⟩
theorem apartB_ok : ∀ {l m : List Nat}, apartB l m = true → ∀ r ∈ l, r ∉ m
  | [], _, _, _, hr => by cases hr
  | r :: l, m, h, q, hq => by
    simp only [apartB, Bool.and_eq_true, Bool.not_eq_true'] at h
    rcases List.mem_cons.1 hq with rfl | hq
    · exact mem_false h.1
    · exact apartB_ok h.2 q hq
theorem mem_dels {α : Type} {n : Nat} {y : α} : ∀ {l : List Nat} {R : List (Nat × α)}, (n, y) ∈ dels l R → (n, y) ∈ R ∧ n ∉ l
  | [], R, h => ⟨h, by simp⟩
  | r :: l, R, h => by
    obtain ⟨h1, h2⟩ := mem_dels (l := l) h
    obtain ⟨h3, h4⟩ := mem_del h1
    exact ⟨h3, by simp only [List.mem_cons, not_or]; exact ⟨h4, h2⟩⟩
theorem del_mem {α : Type} {n m : Nat} {y : α} : ∀ {l : List (Nat × α)}, (m, y) ∈ l → m ≠ n → (m, y) ∈ del n l
  | [], h, _ => by cases h
  | (k, z) :: l, h, hne => by
    unfold del
    rcases List.mem_cons.1 h with h | h
    · injection h with h1 h2; subst h1; subst h2; rw [if_neg hne]; simp
    · split
      · exact del_mem h hne
      · exact List.mem_cons_of_mem _ (del_mem h hne)
theorem dels_mem {α : Type} {n : Nat} {y : α} : ∀ {l : List Nat} {R : List (Nat × α)}, (n, y) ∈ R → n ∉ l → (n, y) ∈ dels l R
  | [], R, h, _ => h
  | r :: l, R, h, hn => by
    simp only [List.mem_cons, not_or] at hn
    exact dels_mem (l := l) (del_mem h hn.1) hn.2
theorem del_sub {α : Type} {n : Nat} : ∀ {l : List (Nat × α)}, ((del n l).map (·.1)).Sublist (l.map (·.1))
  | [] => .slnil
  | (k, z) :: l => by
    unfold del; split
    · exact (del_sub (l := l)).cons _
    · exact (del_sub (l := l)).cons_cons _
theorem dels_sub {α : Type} : ∀ {l : List Nat} {R : List (Nat × α)}, ((dels l R).map (·.1)).Sublist (R.map (·.1))
  | [], R => .refl _
  | r :: l, R => (dels_sub (l := l)).trans del_sub
theorem nodup_flatMap {l : List Nat} {G : Nat → List Nat} (hl : l.Nodup) (h1 : ∀ r ∈ l, (G r).Nodup) (h2 : ∀ r ∈ l, ∀ q ∈ l, r ≠ q → ∀ b ∈ G r, b ∉ G q) : (l.flatMap G).Nodup := by
  induction l with
  | nil => simp
  | cons r l ih =>
    rw [List.nodup_cons] at hl
    rw [List.flatMap_cons, List.nodup_append]
    refine ⟨h1 r (by simp), ih hl.2 (fun q hq => h1 q (by simp [hq])) (fun p hp q hq => h2 p (by simp [hp]) q (by simp [hq])), fun x hx y hy e => ?_⟩
    subst e
    obtain ⟨q, hq, hy⟩ := List.mem_flatMap.1 hy
    exact h2 r (by simp) q (by simp [hq]) (fun e => hl.1 (e ▸ hq)) x hx hy
theorem allO_eq {G : Nat → List Nat} {R : List (Nat × Ch)} : allO G R = (R.map (·.1)).flatMap G := by
  unfold allO; rw [List.flatMap_def, List.map_map]; rfl
theorem flatten_gOf {gs : List (List Nat)} {G : Nat → List Nat} : (gs.map (·.flatMap G)).flatten = gs.flatten.flatMap G := by
  induction gs with
  | nil => rfl
  | cons g gs ih => simp [ih]
theorem Own.there0 {h : Hp} {Z : Nat → Prop} {t : Ty} {n : Nat} {B : List Nat} {cs : List Value} {x : t.den} (o : Own h Z t n B cs x) : Own h (fun b => Z b ∧ (h b).isSome) t n B cs x :=
  o.mono (fun b hz hs => ⟨rfl, hz, hs⟩) (fun _ _ => rfl)
theorem ArgsR.there {h : Hp} {Z : Nat → Prop} : ∀ {ps : List (Bool × Nat × Ty)} {Bs : List (List Nat)} {vs : List Value} {x : DP ps}, ArgsR h Z ps Bs vs x → ArgsR h (fun b => Z b ∧ (h b).isSome) ps Bs vs x := by
  intro ps
  induction ps with
  | nil => intro Bs vs x h; exact h
  | cons p ps ih =>
    intro Bs vs x hh
    obtain ⟨B, Bs', v, vs', cs, e1, e2, o, e3, r⟩ := hh
    exact ⟨B, Bs', v, vs', cs, e1, e2, o.there0, e3, ih r⟩
theorem OutR.to {h : Hp} {Z Z2 : Nat → Prop} {dep : List Nat} (hz : isD dep = true → ∀ b, Z b → Z2 b) : ∀ {ps : List (Bool × Nat × Ty)} {Bs : List (List Nat)} {vs : List Value} {x : DP ps}, psOk dep ps = true → OutR h Z ps Bs vs x → OutR h Z2 ps Bs vs x := by
  intro ps
  induction ps with
  | nil => intro Bs vs x _ h; exact h
  | cons p ps ih =>
    intro Bs vs x hp hh
    obtain ⟨io, n, t⟩ := p
    obtain ⟨B, Bs', v, vs', e1, e2, om, r⟩ := hh
    simp only [psOk, Bool.and_eq_true, Bool.or_eq_true, beq_iff_eq, decide_eq_true_eq, Bool.not_eq_true'] at hp
    refine ⟨B, Bs', v, vs', e1, e2, ?_, ih hp.2 r⟩
    cases io with
    | false => exact om
    | true =>
      cases n with
      | zero => exact om
      | succ m =>
        obtain ⟨cs, o, ev⟩ := om
        refine ⟨cs, ?_, ev⟩
        rcases hp.1 with (h1 | h1) | ⟨h1 | h1, _⟩
        · cases h1
        · cases h1
        · exact o.weaken (hz h1)
        · exact Own.deep h1 o
theorem run_call {f : FuncId} (he : Enters P f) {args : Array Operand} {tys : Array TypeId} (ho : o.op = .call { callee := .value (.func f), args := args, argTypes := tys }) : (execOp a.eval o).run P w = .ok (.enter f (args.map a.eval)) w := by
  have e1 : execOp a.eval o = callFunc f ((#[] ++ args.map a.eval) ++ #[]) := by unfold execOp; rw [ho]; rfl
  rw [e1, he]; simp
theorem RetL.wf {h : Hp} {Z : Nat → Prop} : ∀ {rs : List (Nat × Ty)} {Bs : List (List Nat)} {vs : List Value} {y : DR rs}, RetL h Z rs Bs vs y → WFr rs y := by
  intro rs
  induction rs with
  | nil => intro _ _ _ _; trivial
  | cons p rs ih => intro Bs vs y ⟨_, _, _, _, _, _, _, o, _, r⟩; exact ⟨o.wf, ih r⟩
theorem OutR.wf {h : Hp} {Z : Nat → Prop} : ∀ {ps : List (Bool × Nat × Ty)} {Bs : List (List Nat)} {vs : List Value} {x : DP ps}, OutR h Z ps Bs vs x → WFo ps x := by
  intro ps
  induction ps with
  | nil => intro _ _ _ _; trivial
  | cons p ps ih =>
    intro Bs vs x ⟨_, _, _, _, _, _, om, r⟩
    obtain ⟨io, n, t⟩ := p
    refine ⟨?_, ih r⟩
    cases io <;> cases n <;> first | trivial | skip
    obtain ⟨cs, o, _⟩ := om
    exact o.wf
theorem stays_ok {dep : List Nat} : ∀ {ps : List (Bool × Nat × Ty)}, psOk dep ps = true → ∀ p ∈ ps, p.1 = true → p.2.1 ≠ 0 → stays p.2.2 = true
  | [], _, _, h, _, _ => by cases h
  | (io, n, t) :: ps, hp, p, hm, h1, h2 => by
    simp only [psOk, Bool.and_eq_true, Bool.or_eq_true, beq_iff_eq, Bool.not_eq_true'] at hp
    rcases List.mem_cons.1 hm with rfl | hm
    · rcases hp.1 with (h3 | h3) | h3
      · rw [show io = true from h1] at h3; cases h3
      · exact absurd h3 h2
      · exact h3.2
    · exact stays_ok hp.2 p hm h1 h2
theorem roots_ok {dep : List Nat} : ∀ {rs : List (Nat × Ty)}, rsOk dep rs = true → ∀ p ∈ rs, rootsOk p.1 p.2 = true
  | [], _, _, h => by cases h
  | (n, t) :: rs, hp, p, hm => by
    simp only [rsOk, Bool.and_eq_true] at hp
    rcases List.mem_cons.1 hm with rfl | hm
    · exact hp.1.2
    · exact roots_ok hp.2 p hm
theorem mem_findGl {p : Nat × Value} : ∀ {R : List (Nat × Ch)}, p ∈ findGl R → ∃ r g, (r, Ch.glob g) ∈ R ∧ p ∈ g
  | [], h => by cases h
  | (r, .glob g) :: l, h => by
    rcases List.mem_append.1 h with h | h
    · exact ⟨r, g, by simp, h⟩
    · obtain ⟨r', g', h1, h2⟩ := mem_findGl h; exact ⟨r', g', List.mem_cons_of_mem _ h1, h2⟩
  | (_, .row _ _ _) :: l, h => by obtain ⟨r', g', h1, h2⟩ := mem_findGl (R := l) h; exact ⟨r', g', List.mem_cons_of_mem _ h1, h2⟩
  | (_, .box _) :: l, h => by obtain ⟨r', g', h1, h2⟩ := mem_findGl (R := l) h; exact ⟨r', g', List.mem_cons_of_mem _ h1, h2⟩
  | (_, .iter _ _) :: l, h => by obtain ⟨r', g', h1, h2⟩ := mem_findGl (R := l) h; exact ⟨r', g', List.mem_cons_of_mem _ h1, h2⟩
  | (_, .mp _ _ _) :: l, h => by obtain ⟨r', g', h1, h2⟩ := mem_findGl (R := l) h; exact ⟨r', g', List.mem_cons_of_mem _ h1, h2⟩
theorem subGl_ok : ∀ {l g : List (Nat × Value)}, subGl l g → ∀ p ∈ l, p ∈ g
  | [], _, _, _, h => by cases h
  | q :: l, g, hs, p, hm => by
    rcases List.mem_cons.1 hm with rfl | hm
    · exact look_mem hs.1
    · exact subGl_ok hs.2 p hm
theorem sound_call {f : FuncId} {c : Con} (he : Enters P f) (hf : FnOK P f c) (S : Sim Bb w0 O0 av Γ a w β F) {args : Array Operand} {tys : Array TypeId} (ho : o.op = .call { callee := .value (.func f), args := args, argTypes := tys })
    (hk : opCall Γ o.dst K c (args.toList.map Γ.eval)) : o.wp P a w (Nx Bb w0 O0 av K) Q := by
  unfold opCall at hk
  split at hk
  · exact hk.elim
  rename_i q hq
  obtain ⟨x, dep, gone, io⟩ := q
  simp only [] at hk
  split at hk
  case isFalse => exact hk.elim
  rename_i hc
  obtain ⟨c1, c2, c3, c4⟩ := hc
  obtain ⟨hgl, hpre, hk⟩ := hk
  have hslots : ∀ l : List Operand, SlotsR (hp w) (ZdOf Bb F Γ.roots) β (l.map Γ.eval) (l.map a.eval) := by
    intro l
    induction l with
    | nil => exact .nil
    | cons y l ih => exact .cons (S.eval y) ih
  obtain ⟨A1, A2, A3⟩ := args_ok S.roots hq (hslots args.toList)
  generalize hgs : gOf Γ.roots c.ps (args.toList.map Γ.eval) = gs at A1 A2 A3
  dsimp only at A1 A2
  have hgn : (gone ++ io).Nodup := nodupB_ok c1
  have hgsn : gs.flatten.Nodup := A2.nodup_iff.2 hgn
  have hgm : ∀ r, r ∈ gs.flatten ↔ r ∈ gone ∨ r ∈ io := fun r => by rw [A2.mem_iff, List.mem_append]
  have hgin : ∀ r, r ∈ gone ∨ r ∈ io → r ∈ Γ.roots.map (·.1) := fun r hr => A3 r ((hgm r).2 hr)
  have hdep : ∀ r ∈ dep, r ∉ gone ∧ r ∉ io := fun r hr => by have := apartB_ok c2 r hr; simpa using this
  -- the blocks handed over
  have hBf : (gs.map (·.flatMap F)).flatten = gs.flatten.flatMap F := flatten_gOf
  have hBm : ∀ b, b ∈ (gs.map (·.flatMap F)).flatten ↔ ∃ r, (r ∈ gone ∨ r ∈ io) ∧ b ∈ F r := by
    intro b; rw [hBf, List.mem_flatMap]
    exact ⟨fun ⟨r, h1, h2⟩ => ⟨r, (hgm r).1 h1, h2⟩, fun ⟨r, h1, h2⟩ => ⟨r, (hgm r).2 h1, h2⟩⟩
  have hBn : (gs.map (·.flatMap F)).flatten.Nodup := by
    rw [hBf]
    exact nodup_flatMap hgsn (fun r hr => nodup_F (A3 r hr) S.nodup) (fun r hr p hp hne b h1 h2 => hne (disj S.ids S.nodup (A3 r hr) (A3 p hp) h1 h2))
  have hBown : ∀ b ∈ (gs.map (·.flatMap F)).flatten, b < w.heap.size ∧ (b ∈ O0 ∨ w0.heap.size ≤ b) := fun b hb => by
    obtain ⟨r, h1, h2⟩ := (hBm b).1 hb
    exact S.own b (mem_allO.2 ⟨r, hgin r h1, h2⟩)
  have hsome : ∀ b, (hp w b).isSome = true → b < w.heap.size := fun b hs => by
    rcases Nat.lt_or_ge b w.heap.size with h | h
    · exact h
    · simp [hp, Array.getElem?_eq_none h] at hs
  have hBZ : ∀ b ∈ (gs.map (·.flatMap F)).flatten, b < w.heap.size ∧ ¬ (ZdOf Bb F Γ.roots dep b ∧ (hp w b).isSome) := fun b hb => by
    refine ⟨(hBown b hb).1, fun ⟨hz, _⟩ => ?_⟩
    obtain ⟨r, h1, h2⟩ := (hBm b).1 hb
    rcases hz with hz | ⟨p, p1, p2, p3⟩
    · exact hz.1 (mem_allO.2 ⟨r, hgin r h1, h2⟩)
    · have := disj S.ids S.nodup p2 (hgin r h1) p3 h2
      subst this
      rcases h1 with h1 | h1
      · exact (hdep p p1).1 h1
      · exact (hdep p p1).2 h1
  have hG : GOk (hp w) (fun b => ZdOf Bb F Γ.roots dep b ∧ (hp w b).isSome) c.gl := fun p hp' => by
    obtain ⟨r, g, g1, g2⟩ := mem_findGl (subGl_ok hgl p hp')
    obtain ⟨_, g3⟩ := S.roots r _ g1
    obtain ⟨g4, arr, ty, fz, g5, g6⟩ := g3 p g2
    exact ⟨⟨zd_mono (by simp) g4, by rw [g5]; rfl⟩, arr, ty, fz, g5, g6⟩
  have hcall := hf w (fun b => ZdOf Bb F Γ.roots dep b ∧ (hp w b).isSome) _ _ x A1.there hBn hBZ hG (hpre trivial)
  generalize hBs : (gs.map (·.flatMap F)).flatten = Bf at *
  unfold Oper.wp
  rw [run_call he ho, Oper.upon_enter]
  have hargs : (args.toList.map a.eval).toArray = args.map a.eval := by rw [← Array.toList_map]
  rw [hargs] at hcall
  refine hcall.mono ?_
  rintro e w' ⟨rv, y, x', Bs', Rs, rfl, hpost, hfr, hnd, hown, hout, hret⟩
  rw [hBs] at hfr hown hout hret
  show Nx Bb w0 O0 av K (a.put o.dst rv) w'
  have hk2 := hk y x' hpost (by obtain ⟨vs, hr, _⟩ := hret; exact RetL.wf hr) (OutR.wf hout)
  generalize hids : freshL (Γ.roots.length + wants c.rs y) 0 Γ.roots (wants c.rs y) = ids at hk2
  split at hk2
  case isFalse => exact hk2.elim
  rename_i hc2
  obtain ⟨c5, c6, c7⟩ := hc2
  have hidn : ids.Nodup := nodupB_ok c6
  have hidr : ∀ r ∈ ids, r ∉ Γ.roots.map (·.1) := apartB_ok c7
  have hnd2 := List.nodup_append.1 hnd
  -- the read-only blocks behind the call, for what is one's own
  let Z2 : Nat → Prop := fun b => ((b ∉ allO F Γ.roots ∧ Bb b) ∧ b < w.heap.size) ∨ ((b ∈ Bf ∨ w.heap.size ≤ b) ∧ b ∉ Bs'.flatten ++ Rs.flatten)
  have hZ2 : isD dep = true → ∀ b, ((ZdOf Bb F Γ.roots dep b ∧ (hp w b).isSome) ∨ ((b ∈ Bf ∨ w.heap.size ≤ b) ∧ b ∉ Bs'.flatten ++ Rs.flatten)) → Z2 b := by
    intro hd b hz
    have hd' : dep = [] := by cases dep with | nil => rfl | cons _ _ => cases hd
    rcases hz with ⟨hz, hs⟩ | hz
    · rw [hd'] at hz
      rcases hz with hz | ⟨_, hz, _⟩
      · exact .inl ⟨hz, hsome b hs⟩
      · cases hz
    · exact .inr hz
  have hout2 := OutR.to hZ2 c4 hout
  obtain ⟨vs, hret, erv⟩ := hret
  have hret2 := retL2 hZ2 c3 hret
  obtain ⟨F1, pF1, kF1⟩ := backs_ok S.roots (stays_ok c4) hq (hslots args.toList) hout2 (List.nodup_append.1 hgn).2.1 hnd2.1
  obtain ⟨used, βn, Fn, u1, ⟨rest, u2⟩, u3, u4⟩ := res1_ok dep ids (roots_ok c3) ⟨vs, hret2, erv⟩ (by rw [c5]; exact Nat.le_refl _) hidn hnd2.2.1
  have hrest : rest = [] := by
    have := congrArg List.length u2
    rw [List.length_append, u1, c5] at this
    exact List.eq_nil_of_length_eq_zero (by omega)
  rw [hrest, List.append_nil] at u2
  subst u2
  dsimp only at pF1 kF1
  generalize hnew : (res1 dep c.rs y ids).2.2 = new at hk2 u3
  generalize hpv : (res1 dep c.rs y ids).1 = pv at hk2 u4
  -- states made soft
  have hsoft : Soft (fun v => killL ids (killL gone (killDL io v))) := Soft.comp (f := fun v => killL gone (killDL io v)) (g := killL ids) (Soft.comp (f := killDL io) (g := killL gone) (soft_killDL io) (soft_killL gone)) (soft_killL ids)
  have S1 := S.soft hsoft
  have hfit : FitG (fun d => (∀ r ∈ ids, r ∉ d) ∧ (∀ r ∈ gone, r ∉ d) ∧ (∀ r ∈ io, r ∉ d)) (fun p => p ∉ ids) (Γ.map (fun v => killL ids (killL gone (killDL io v)))) := FitG.of (fun v => by
    have f1 := fit_killL ids (killL gone (killDL io v))
    have f2 := Fit.killL ids (fit_killL gone (killDL io v))
    have f3 := Fit.killL ids (Fit.killL gone (fit_killDL io v))
    exact ((f1.and f2).and f3).mono (fun d h => ⟨h.1.1, h.1.2, h.2⟩) (fun p h => h.1.1)) Γ
  have hids1 : ((Γ.map (fun v => killL ids (killL gone (killDL io v)))).roots).map (·.1) = Γ.roots.map (·.1) := mapC_ids _ _
  generalize hΓ1 : Γ.map (fun v => killL ids (killL gone (killDL io v))) = Γ1 at *
  obtain ⟨k1, k2⟩ := kF1 Γ1.roots (by rw [hids1]; exact S.ids) (fun r hr => by rw [hids1]; exact hgin r (.inr hr))
  generalize hR : dels gone (backs c.ps (args.toList.map Γ.eval) x' Γ1.roots) = R at hk2
  have hRsub : ∀ r ∈ R.map (·.1), r ∈ Γ.roots.map (·.1) ∧ r ∉ gone := fun r hr => by
    obtain ⟨⟨r', d⟩, h1, rfl⟩ := List.mem_map.1 hr
    rw [← hR] at h1
    obtain ⟨h2, h3⟩ := mem_dels h1
    exact ⟨by rw [← hids1, ← k1]; exact List.mem_map.2 ⟨_, h2, rfl⟩, h3⟩
  have hRin : ∀ r, r ∈ Γ.roots.map (·.1) → r ∉ gone → r ∈ R.map (·.1) := fun r hr hg => by
    rw [← hids1, ← k1] at hr
    obtain ⟨⟨r', d⟩, h1, rfl⟩ := List.mem_map.1 hr
    exact List.mem_map.2 ⟨(r', d), by rw [← hR]; exact dels_mem h1 hg, rfl⟩
  have hnewm : ∀ r, r ∈ new.map (·.1) ↔ r ∈ ids := fun r => u3.perm.mem_iff
  let F2 : Nat → List Nat := fun r => if r ∈ ids then Fn r else if r ∈ io then F1 r else F r
  let β2 : Nat → Value := fun r => if r ∈ ids then βn r else β r
  have eF1 : ∀ r ∈ ids, F2 r = Fn r := fun r hr => if_pos hr
  have eF2 : ∀ r ∈ io, F2 r = F1 r := fun r hr => by
    have : r ∉ ids := fun h => hidr r h (hgin r (.inr hr))
    show (if r ∈ ids then Fn r else if r ∈ io then F1 r else F r) = F1 r
    rw [if_neg this, if_pos hr]
  have eF3 : ∀ r, r ∉ ids → r ∉ io → F2 r = F r := fun r h1 h2 => by
    show (if r ∈ ids then Fn r else if r ∈ io then F1 r else F r) = F r
    rw [if_neg h1, if_neg h2]
  have eβ1 : ∀ r ∈ ids, β2 r = βn r := fun r hr => if_pos hr
  have eβ2 : ∀ r, r ∉ ids → β2 r = β r := fun r hr => if_neg hr
  have hout1 : ∀ b ∈ Bs'.flatten, b < w'.heap.size ∧ (b ∈ Bf ∨ w.heap.size ≤ b) := fun b hb => hown b (List.mem_append_left _ hb)
  have hout3 : ∀ b ∈ Rs.flatten, b < w'.heap.size ∧ (b ∈ Bf ∨ w.heap.size ≤ b) := fun b hb => hown b (List.mem_append_right _ hb)
  -- a root's blocks behind the call: its own of before, or out of what came back
  have hF2 : ∀ r ∈ (new ++ R).map (·.1), ∀ b ∈ F2 r, ((r ∈ ids ∨ r ∈ io) ∧ b ∈ Bs'.flatten ++ Rs.flatten) ∨ (r ∉ ids ∧ r ∉ io ∧ r ∉ gone ∧ r ∈ Γ.roots.map (·.1) ∧ b ∈ F r) := by
    intro r hr b hb
    by_cases h1 : r ∈ ids
    · rw [eF1 r h1] at hb
      exact .inl ⟨.inl h1, List.mem_append_right _ (u3.pr.sub r h1 b hb)⟩
    · by_cases h2 : r ∈ io
      · rw [eF2 r h2] at hb
        exact .inl ⟨.inr h2, List.mem_append_left _ (pF1.sub r h2 b hb)⟩
      · rw [eF3 r h1 h2] at hb
        rw [List.map_append, List.mem_append] at hr
        rcases hr with hr | hr
        · exact absurd ((hnewm r).1 hr) h1
        · exact .inr ⟨h1, h2, (hRsub r hr).2, (hRsub r hr).1, hb⟩
  have hkept : ∀ (r p b : Nat), r ∈ Γ.roots.map (·.1) → r ∉ gone → r ∉ io → b ∈ F r → b ∈ Bf ∨ w.heap.size ≤ b → False := by
    intro r _ b h1 h2 h3 h4 h5
    rcases h5 with h5 | h5
    · obtain ⟨g, g1, g2⟩ := (hBm b).1 h5
      have := disj S.ids S.nodup h1 (hgin g g1) h4 g2
      subst this
      rcases g1 with g1 | g1
      · exact h2 g1
      · exact h3 g1
    · have := (S.own b (mem_allO.2 ⟨r, h1, h4⟩)).1; omega
  -- blocks that nobody owns stay so
  have hfree : ∀ b, b ∉ allO F Γ.roots → b < w.heap.size → b ∉ allO F2 (new ++ R) := by
    intro b h1 h2 h3
    obtain ⟨r, r1, r2⟩ := mem_allO.1 h3
    rcases hF2 r r1 b r2 with ⟨_, h4⟩ | ⟨_, _, _, h4, h5⟩
    · rcases (hown b h4).2 with h5 | h5
      · obtain ⟨g, g1, g2⟩ := (hBm b).1 h5
        exact h1 (mem_allO.2 ⟨g, hgin g g1, g2⟩)
      · omega
    · exact h1 (mem_allO.2 ⟨r, h4, h5⟩)
  have hfree2 : ∀ b, (b ∈ Bf ∨ w.heap.size ≤ b) → b ∉ Bs'.flatten ++ Rs.flatten → b ∉ allO F2 (new ++ R) := by
    intro b h1 h2 h3
    obtain ⟨r, r1, r2⟩ := mem_allO.1 h3
    rcases hF2 r r1 b r2 with ⟨_, h4⟩ | ⟨_, h5, h6, h4, h7⟩
    · exact h2 h4
    · exact hkept r r b h4 h6 h5 h7 h1
  have hrest : ∀ d, (∀ r ∈ d, r ∉ gone ∧ r ∉ io) → ∀ b, ZdOf Bb F Γ.roots d b → b < w.heap.size → ZdOf Bb F2 (new ++ R) d b := by
    intro d hd b hz hb
    rcases hz with hz | ⟨r, r1, r2, r3⟩
    · exact .inl ⟨hfree b hz.1 hb, hz.2⟩
    · obtain ⟨d2, d3⟩ := hd r r1
      have d1 : r ∉ ids := fun h => hidr r h r2
      exact .inr ⟨r, r1, by rw [List.map_append]; exact List.mem_append_right _ (hRin r r2 d2), by rw [eF3 r d1 d3]; exact r3⟩
  have hsame : ∀ d, (∀ r ∈ d, r ∉ gone ∧ r ∉ io) → ∀ b, ZdOf Bb F Γ.roots d b → b < w.heap.size → hp w' b = hp w b := by
    intro d hd b hz hb
    refine hfr.block b hb fun hbf => ?_
    obtain ⟨g, g1, g2⟩ := (hBm b).1 hbf
    rcases hz with hz | ⟨r, r1, r2, r3⟩
    · exact hz.1 (mem_allO.2 ⟨g, hgin g g1, g2⟩)
    · have := disj S.ids S.nodup r2 (hgin g g1) r3 g2
      subst this
      rcases g1 with g1 | g1
      · exact (hd r r1).1 g1
      · exact (hd r r1).2 g1
  have hzz : ZdOf Bb F Γ1.roots = ZdOf Bb F Γ.roots := ZdOf_ids hids1
  have hbb : ∀ b, (b ∈ Bf ∨ w.heap.size ≤ b) → Bb b := fun b hb => by
    rcases hb with hb | hb
    · exact S.base b (hBown b hb).2
    · exact S.base b (.inr (Nat.le_trans S.frm.size hb))
  have hZ2ok : ∀ b, Z2 b → ZdOf Bb F2 (new ++ R) [] b := by
    intro b hz
    rcases hz with ⟨h1, h2⟩ | ⟨h1, h2⟩
    · exact .inl ⟨hfree b h1.1 h2, h1.2⟩
    · exact .inl ⟨hfree2 b h1 h2, hbb b h1⟩
  have hrow : ∀ {B : List Nat} {r : Nat} {d : Ch} {β1 : Nat → Value}, RowR (hp w') Z2 β1 B r d → β2 r = β1 r → RootR (hp w') (ZdOf Bb F2 (new ++ R)) β2 B r d := by
    intro B r d β1 h1 h2
    cases d with
    | row l e xs =>
      have h1' : Own (hp w') Z2 (.sl e) (l + 1) B [β1 r] xs := h1
      show Own _ _ _ _ _ [β2 r] _
      rw [h2]; exact h1'.weaken hZ2ok
    | box _ => exact h1.elim
    | iter _ _ => exact h1.elim
    | mp k v xs =>
      have h1' : Own (hp w') Z2 (.mp k v) 1 B [β1 r] (some xs) := h1
      show Own _ _ _ _ _ [β2 r] _
      rw [h2]; exact h1'.weaken hZ2ok
    | glob _ => exact h1.elim
  have hnodup : (allO F2 (new ++ R)).Nodup := by
    rw [allO_eq]
    have hnd1 : ((new ++ R).map (·.1)).Nodup := by
      rw [List.map_append, List.nodup_append]
      refine ⟨u3.perm.nodup_iff.2 hidn, ?_, fun p hp q hq e => ?_⟩
      · have : (R.map (·.1)).Sublist (Γ.roots.map (·.1)) := by rw [← hR, ← hids1, ← k1]; exact dels_sub
        exact this.nodup S.ids
      · subst e; exact hidr p ((hnewm p).1 hp) (hRsub p hq).1
    refine nodup_flatMap hnd1 (fun r hr => ?_) (fun r hr p hp hne b h1 h2 => ?_)
    · by_cases h1 : r ∈ ids
      · rw [eF1 r h1]; exact u3.pr.nd r h1
      · by_cases h2 : r ∈ io
        · rw [eF2 r h2]; exact pF1.nd r h2
        · rw [eF3 r h1 h2]
          rw [List.map_append, List.mem_append] at hr
          rcases hr with hr | hr
          · exact absurd ((hnewm r).1 hr) h1
          · exact nodup_F (hRsub r hr).1 S.nodup
    · have o1 := hF2 r hr b h1
      have o2 := hF2 p hp b h2
      rcases o1 with ⟨a1, a2⟩ | ⟨a1, a2, a3, a4, a5⟩ <;> rcases o2 with ⟨b1, b2⟩ | ⟨b1, b2, b3, b4, b5⟩
      · rcases a1 with a1 | a1 <;> rcases b1 with b1 | b1
        · rw [eF1 r a1] at h1; rw [eF1 p b1] at h2; exact u3.pr.ap r a1 p b1 hne b h1 h2
        · rw [eF1 r a1] at h1; rw [eF2 p b1] at h2; exact hnd2.2.2 b (pF1.sub p b1 b h2) b (u3.pr.sub r a1 b h1) rfl
        · rw [eF2 r a1] at h1; rw [eF1 p b1] at h2; exact hnd2.2.2 b (pF1.sub r a1 b h1) b (u3.pr.sub p b1 b h2) rfl
        · rw [eF2 r a1] at h1; rw [eF2 p b1] at h2; exact pF1.ap r a1 p b1 hne b h1 h2
      · exact hkept p p b b4 b3 b2 b5 (hown b a2).2
      · exact hkept r r b a4 a3 a2 a5 (hown b b2).2
      · exact hne (disj S.ids S.nodup a4 b4 a5 b5)
  have S2 : Sim Bb w0 O0 av ⟨Γ1.nt, Γ1.slots, new ++ R, Γ1.anch⟩ a w' β2 F2 := by
    refine S1.world (R' := new ++ R) (F' := F2) (D := fun d => (∀ r ∈ ids, r ∉ d) ∧ (∀ r ∈ gone, r ∉ d) ∧ (∀ r ∈ io, r ∉ d)) (R := fun p => p ∉ ids) hfit ?_ eβ2 ?_ ?_ hnodup ?_ ?_ ?_
    · intro d hd b hz hs
      rw [hzz] at hz
      have hb := hsome b hs
      exact ⟨hsame d (fun r hr => ⟨fun h => hd.2.1 r h hr, fun h => hd.2.2 r h hr⟩) b hz hb, hrest d (fun r hr => ⟨fun h => hd.2.1 r h hr, fun h => hd.2.2 r h hr⟩) b hz hb⟩
    · intro r d hm
      rcases List.mem_append.1 hm with hm | hm
      · have hr : r ∈ ids := (hnewm r).1 (List.mem_map.2 ⟨_, hm, rfl⟩)
        rw [eF1 r hr]
        exact hrow (u3.row r d hm) (eβ1 r hr)
      · have hm' := hm
        rw [← hR] at hm'
        obtain ⟨hm1, hm2⟩ := mem_dels hm'
        have hrr := (hRsub r (List.mem_map.2 ⟨_, hm, rfl⟩)).1
        have hrid : r ∉ ids := fun h => hidr r h hrr
        rcases k2 r d hm1 with ⟨h1, h2⟩ | ⟨h1, h2⟩
        · rw [eF2 r h1]; exact hrow h2 (eβ2 r hrid)
        · rw [eF3 r hrid h1]
          have h3 := S1.roots r d h2
          rw [hzz] at h3
          refine RootR.mono (D := fun d => (∀ r ∈ ids, r ∉ d) ∧ (∀ r ∈ gone, r ∉ d) ∧ (∀ r ∈ io, r ∉ d)) (R := fun p => p ∉ ids) ⟨by simp, by simp, by simp⟩ (fun d hd b hz hs => ?_) eβ2 (eβ2 r hrid) (fun b hb => ?_) (fun v e => ?_) h3
          · have hb := hsome b hs
            exact ⟨hsame d (fun r hr => ⟨fun h => hd.2.1 r h hr, fun h => hd.2.2 r h hr⟩) b hz hb, hrest d (fun r hr => ⟨fun h => hd.2.1 r h hr, fun h => hd.2.2 r h hr⟩) b hz hb⟩
          · have hbl := (S.own b (mem_allO.2 ⟨r, hrr, hb⟩)).1
            exact hfr.block b hbl (fun hbf => hkept r r b hrr hm2 h1 hb (.inl hbf))
          · subst e; exact hfit.boxes r v h2
    · rw [List.map_append, List.nodup_append]
      refine ⟨u3.perm.nodup_iff.2 hidn, ?_, fun p hp q hq e => ?_⟩
      · have : (R.map (·.1)).Sublist (Γ.roots.map (·.1)) := by rw [← hR, ← hids1, ← k1]; exact dels_sub
        exact this.nodup S.ids
      · subst e; exact hidr p ((hnewm p).1 hp) (hRsub p hq).1
    · intro b hb
      obtain ⟨r, r1, r2⟩ := mem_allO.1 hb
      rcases hF2 r r1 b r2 with ⟨_, h4⟩ | ⟨_, _, _, h4, h7⟩
      · refine ⟨(hown b h4).1, ?_⟩
        rcases (hown b h4).2 with h5 | h5
        · exact (hBown b h5).2
        · exact .inr (Nat.le_trans S.frm.size h5)
      · have := S.own b (mem_allO.2 ⟨r, h4, h7⟩)
        exact ⟨Nat.lt_of_lt_of_le this.1 hfr.size, this.2⟩
    · refine ⟨hfr.os.trans S.frm.os, hfr.tape.trans S.frm.tape, hfr.output.trans S.frm.output, Nat.le_trans S.frm.size hfr.size, fun k hk1 hk2 => ?_⟩
      refine (hfr.block k (Nat.lt_of_lt_of_le hk1 S.frm.size) fun hbf => ?_).trans (S.frm.block k hk1 hk2)
      rcases (hBown k hbf).2 with h5 | h5
      · exact hk2 h5
      · omega
    · intro q
      show one (if q ∈ ids then βn q else β q) = true
      split
      · rename_i h; exact u3.one q h
      · exact S.bone q
  have hslot : SlotR (hp w') (ZdOf Bb F2 (new ++ R)) β2 pv rv := u4 β2 _ eβ1 (fun b hz => by
    rcases hz with ⟨hz, hs⟩ | ⟨h1, h2⟩
    · exact hrest dep hdep b hz (hsome b hs)
    · exact .inl ⟨hfree2 b h1 h2, hbb b h1⟩)
  unfold Ctx.on at hk2
  split at hk2
  · rename_i Γ' e; exact ⟨Γ', β2, F2, hk2, S2.put hslot e⟩
  · exact hk2.elim
end
end Go.Proofs.YtjpeblicfhfniaaDoor.Eng
