/- The engine, sixteenth part: what a call leaves. No condition. -/
import Derived.Test.YtjpeblicfhfniaaDoorEngO
namespace Go.Proofs.YtjpeblicfhfniaaDoor.Eng
open Go.RowKit
set_option linter.unusedVariables false
set_option linter.unusedSimpArgs false
section
variable {P : Program} {T : Tab} {Bb : Nat → Prop} {w0 : World} {O0 : List Nat} {av : List Value} {Γ Γ' : Ctx} {a : Act} {w w' : World} {β : Nat → Value} {F : Nat → List Nat} {K : Ctx → Prop} {o : Oper} {Q : Exit → Act → World → Prop}
def RowR (h : Hp) (Z : Nat → Prop) (β : Nat → Value) (B : List Nat) (r : Nat) : Ch → Prop
  | .row l e xs => Own h Z (.sl e) (l + 1) B [β r] xs
  | .mp k v xs => Own h Z (.mp k v) 1 B [β r] (some xs)
  | .box _ => False
  | .iter _ _ => False
  | .glob _ => False
/-- Footprints of the roots G, apart, within B. -/
structure Prints (F : Nat → List Nat) (G B : List Nat) : Prop where
  nd : ∀ r ∈ G, (F r).Nodup
  sub : ∀ r ∈ G, ∀ b ∈ F r, b ∈ B
  ap : ∀ r ∈ G, ∀ q ∈ G, r ≠ q → ∀ b ∈ F r, b ∉ F q
theorem Prints.join {F1 F2 : Nat → List Nat} {G1 G2 B1 B2 : List Nat} (h1 : Prints F1 G1 B1) (h2 : Prints F2 G2 B2) (hg : ∀ r ∈ G1, r ∉ G2) (hb : ∀ b ∈ B1, b ∉ B2) : Prints (fun r => if r ∈ G1 then F1 r else F2 r) (G1 ++ G2) (B1 ++ B2) := by
  have e1 : ∀ r ∈ G1, (if r ∈ G1 then F1 r else F2 r) = F1 r := fun r hr => if_pos hr
  have e2 : ∀ r ∈ G2, (if r ∈ G1 then F1 r else F2 r) = F2 r := fun r hr => if_neg (fun h => hg r h hr)
  refine ⟨fun r hr => ?_, fun r hr b hb' => ?_, fun r hr q hq hne b hb1 hb2 => ?_⟩
  · rcases List.mem_append.1 hr with hr | hr
    · rw [e1 r hr]; exact h1.nd r hr
    · rw [e2 r hr]; exact h2.nd r hr
  · rcases List.mem_append.1 hr with hr | hr
    · rw [e1 r hr] at hb'; exact List.mem_append_left _ (h1.sub r hr b hb')
    · rw [e2 r hr] at hb'; exact List.mem_append_right _ (h2.sub r hr b hb')
  · rcases List.mem_append.1 hr with hr | hr <;> rcases List.mem_append.1 hq with hq | hq
    · rw [e1 r hr] at hb1; rw [e1 q hq] at hb2; exact h1.ap r hr q hq hne b hb1 hb2
    · rw [e1 r hr] at hb1; rw [e2 q hq] at hb2; exact hb b (h1.sub r hr b hb1) (h2.sub q hq b hb2)
    · rw [e2 r hr] at hb1; rw [e1 q hq] at hb2; exact hb b (h1.sub q hq b hb2) (h2.sub r hr b hb1)
    · rw [e2 r hr] at hb1; rw [e2 q hq] at hb2; exact h2.ap r hr q hq hne b hb1 hb2
theorem valOf_inj {h h' : Hp} {Z Z' : Nat → Prop} {t : Ty} {n n' : Nat} {B B' : List Nat} {cs cs' : List Value} {x x' : t.den} (o : Own h Z t n B cs x) (o' : Own h' Z' t n' B' cs' x') (e : valOf t.agg cs = valOf t.agg cs') : cs = cs' := by
  cases ha : t.agg with
  | true => rw [ha] at e; simpa [valOf] using e
  | false =>
    obtain ⟨v, rfl, _⟩ := own_agg o ha
    obtain ⟨v', rfl, _⟩ := own_agg o' ha
    rw [ha] at e
    simpa [valOf] using e
theorem fits_sz_den {R : List (Nat × Ch)} {n : Nat} {t : Ty} {v : SV} {y : t.den × List Nat} (e : denN R n t v = some y) : v.sz = t.sz := by
  have c := denN_c e
  clear e
  induction c with
  | pair _ _ _ _ i1 i2 => simp only [SV.sz, Ty.sz]; rw [i1, i2]
  | _ => rfl
theorem denN_flat {R : List (Nat × Ch)} {n : Nat} {t : Ty} {v : SV} {y : t.den × List Nat} (hs : t.hasSl = false) (e : denN R n t v = some y) : y.2 = [] := by
  have c := denN_c e
  clear e
  induction c with
  | pair _ _ _ _ i1 i2 =>
    simp only [Ty.hasSl, Bool.or_eq_false_iff] at hs
    show _ ++ _ = []
    rw [i1 hs.1, i2 hs.2]; rfl
  | hit _ _ i => simp only [Ty.hasSl, Bool.or_eq_false_iff] at hs; exact i hs.1
  | miss _ _ i => simp only [Ty.hasSl, Bool.or_eq_false_iff] at hs; exact i hs.2
  | ref _ => cases hs
  | ad _ _ _ => cases hs
  | mp _ => cases hs
  | _ => rfl
/-- The written roots behind a call. -/
theorem back_ok {R : List (Nat × Ch)} {h h' : Hp} {Zd : List Nat → Nat → Prop} {Z' : Nat → Prop} {n : Nat} (hn : 0 < n) : ∀ {t : Ty} {v : SV} {y : t.den × List Nat} {cs : List Value} {B' : List Nat} {x' : t.den}, stays t = true → denN R n t v = some y → SVc h Zd β v cs → Own h' Z' t n B' cs x' →
    y.2.Nodup → B'.Nodup → ∃ F1, Prints F1 y.2 B' ∧ ∀ R0 : List (Nat × Ch), (R0.map (·.1)).Nodup → (∀ r ∈ y.2, r ∈ R0.map (·.1)) →
      (back n t v x' R0).map (·.1) = R0.map (·.1) ∧ ∀ r c, (r, c) ∈ back n t v x' R0 → (r ∈ y.2 ∧ RowR h' Z' β (F1 r) r c) ∨ (r ∉ y.2 ∧ (r, c) ∈ R0) := by
  have none_ : ∀ {t : Ty} {v : SV} {y : t.den × List Nat} {B' : List Nat} {x' : t.den}, y.2 = [] → (∀ R0, back n t v x' R0 = R0) → ∃ F1, Prints F1 y.2 B' ∧ ∀ R0 : List (Nat × Ch), (R0.map (·.1)).Nodup → (∀ r ∈ y.2, r ∈ R0.map (·.1)) →
      (back n t v x' R0).map (·.1) = R0.map (·.1) ∧ ∀ r c, (r, c) ∈ back n t v x' R0 → (r ∈ y.2 ∧ RowR h' Z' β (F1 r) r c) ∨ (r ∉ y.2 ∧ (r, c) ∈ R0) := by
    intro t v y B' x' hy hb
    refine ⟨fun _ => [], ⟨by rw [hy]; simp, by rw [hy]; simp, by rw [hy]; simp⟩, fun R0 _ _ => ?_⟩
    rw [hb]; exact ⟨rfl, fun r c hm => .inr ⟨by rw [hy]; simp, hm⟩⟩
  have rest : ∀ {t : Ty} {v : SV} {y : t.den × List Nat} {B' : List Nat} {x' : t.den}, stays t = true → stays t = (!t.hasSl) → (∀ v x' R0, back n t v x' R0 = R0) → denN R n t v = some y → ∃ F1, Prints F1 y.2 B' ∧ ∀ R0 : List (Nat × Ch), (R0.map (·.1)).Nodup → (∀ r ∈ y.2, r ∈ R0.map (·.1)) →
      (back n t v x' R0).map (·.1) = R0.map (·.1) ∧ ∀ r c, (r, c) ∈ back n t v x' R0 → (r ∈ y.2 ∧ RowR h' Z' β (F1 r) r c) ∨ (r ∉ y.2 ∧ (r, c) ∈ R0) := by
    intro t v y B' x' hst h1 hb e
    rw [h1] at hst
    exact none_ (denN_flat (by simpa using hst) e) (hb v x')
  intro t
  induction t with
  | unit => intro v y cs B' x' hst e _ _ _ _; exact rest hst rfl (fun v _ _ => by cases v <;> rfl) e
  | int k => intro v y cs B' x' hst e _ _ _ _; exact rest hst rfl (fun v _ _ => by cases v <;> rfl) e
  | bool => intro v y cs B' x' hst e _ _ _ _; exact rest hst rfl (fun v _ _ => by cases v <;> rfl) e
  | str => intro v y cs B' x' hst e _ _ _ _; exact rest hst rfl (fun v _ _ => by cases v <;> rfl) e
  | any => intro v y cs B' x' hst e _ _ _ _; exact rest hst rfl (fun v _ _ => by cases v <;> rfl) e
  | arr _ _ _ => intro v y cs B' x' hst e _ _ _ _; exact rest hst rfl (fun v _ _ => by cases v <;> rfl) e
  | mp _ _ _ _ => intro v y cs B' x' hst e _ _ _ _; exact rest hst rfl (fun v _ _ => by cases v <;> rfl) e
  | ptr _ _ => intro v y cs B' x' hst e _ _ _ _; exact rest hst rfl (fun v _ _ => by cases v <;> rfl) e
  | inil => intro v y cs B' x' hst e _ _ _ _; exact rest hst rfl (fun v _ _ => by cases v <;> rfl) e
  | ialt _ _ _ _ _ => intro v y cs B' x' hst e _ _ _ _; exact rest hst rfl (fun v _ _ => by cases v <;> rfl) e
  | pair a b iha ihb =>
    intro v y cs B' x' hst e s o hd hB
    have hst' : (stays a && stays b) = true := hst
    simp only [Bool.and_eq_true] at hst'
    have c := denN_c e
    clear e
    cases c with
    | pv x hs => exact none_ rfl (fun _ => rfl)
    | pair hp hq k1 k2 =>
      rename_i v1 v2 p q
      obtain ⟨c1, c2, ec, s1, s2⟩ := s
      obtain ⟨B1, B2, d1, d2, eB, ed, o1, o2⟩ := o
      have hl : c1.length = d1.length := by
        have h3 := fits_sz_den hp
        rw [s1.len, o1.len, h3]
      obtain ⟨e1, e2⟩ := List.append_inj (ec.symm.trans ed) hl
      subst e1; subst e2
      rw [List.nodup_append] at hd
      rw [eB, List.nodup_append] at hB
      obtain ⟨Fa, pa, ka⟩ := iha hst'.1 hp s1 o1 hd.1 hB.1
      obtain ⟨Fb, pb, kb⟩ := ihb hst'.2 hq s2 o2 hd.2.1 hB.2.1
      have hg : ∀ r ∈ p.2, r ∉ q.2 := fun r h1 h2 => hd.2.2 r h1 r h2 rfl
      refine ⟨_, by rw [eB]; exact Prints.join pa pb hg (fun b h1 h2 => hB.2.2 b h1 b h2 rfl), fun R0 hR0 hin => ?_⟩
      obtain ⟨m1, m2⟩ := ka R0 hR0 (fun r hr => hin r (List.mem_append_left _ hr))
      obtain ⟨m3, m4⟩ := kb (back n a v1 x'.1 R0) (by rw [m1]; exact hR0) (fun r hr => by rw [m1]; exact hin r (List.mem_append_right _ hr))
      refine ⟨m3.trans m1, fun r c hm => ?_⟩
      rcases m4 r c hm with ⟨h1, h2⟩ | ⟨h1, h2⟩
      · left
        refine ⟨List.mem_append_right _ h1, ?_⟩
        show RowR h' Z' β (if r ∈ p.2 then Fa r else Fb r) r c
        rw [if_neg (fun h => hg r h h1)]; exact h2
      · rcases m2 r c h2 with ⟨h3, h4⟩ | ⟨h3, h4⟩
        · left
          refine ⟨List.mem_append_left _ h3, ?_⟩
          show RowR h' Z' β (if r ∈ p.2 then Fa r else Fb r) r c
          rw [if_pos h3]; exact h4
        · exact .inr ⟨by simp [h1, h3], h4⟩
  | sl e' ih =>
    intro v y cs B' x' _ e s o hd hB
    have c := denN_c e
    clear e
    cases c with
    | pv x hs => cases hs
    | nils => exact none_ rfl (fun _ => rfl)
    | ref hr =>
      rename_i n r xs
      have s' : cs = [β r] := s
      subst s'
      refine ⟨fun _ => B', ⟨fun _ _ => hB, fun _ _ _ hb => hb, fun q hq p hp hne => ?_⟩, fun R0 hR0 hin => ⟨putL_ids (hin r (by simp)), fun q c hq => ?_⟩⟩
      · simp only [List.mem_singleton] at hq hp; exact absurd (hq.trans hp.symm) hne
      · rcases mem_putL hR0 hq with ⟨rfl, rfl⟩ | ⟨h1, h2⟩
        · left
          exact ⟨by simp, o⟩
        · exact .inr ⟨by simp [h2], h1⟩
theorem backs_ok {R : List (Nat × Ch)} {h h' : Hp} {Z' : Nat → Prop} (hR : ∀ r c, (r, c) ∈ R → RootR h (ZdOf Bb F R) β (F r) r c) : ∀ {ps : List (Bool × Nat × Ty)} {vs : List SV} {xs : List Value} {q : DP ps × List Nat × List Nat × List Nat} {Bs : List (List Nat)} {x' : DP ps},
    (∀ p ∈ ps, p.1 = true → p.2.1 ≠ 0 → stays p.2.2 = true) → argsD R ps vs = some q → SlotsR h (ZdOf Bb F R) β vs xs → OutR h' Z' ps Bs xs x' → q.2.2.2.Nodup → Bs.flatten.Nodup → ∃ F1, Prints F1 q.2.2.2 Bs.flatten ∧ ∀ R0 : List (Nat × Ch), (R0.map (·.1)).Nodup → (∀ r ∈ q.2.2.2, r ∈ R0.map (·.1)) →
      (backs ps vs x' R0).map (·.1) = R0.map (·.1) ∧ ∀ r c, (r, c) ∈ backs ps vs x' R0 → (r ∈ q.2.2.2 ∧ RowR h' Z' β (F1 r) r c) ∨ (r ∉ q.2.2.2 ∧ (r, c) ∈ R0) := by
  intro ps
  induction ps with
  | nil =>
    intro vs xs q Bs x' _ e s out _ _
    cases s with
    | nil =>
      simp only [argsD, Option.some.injEq] at e; subst e
      exact ⟨fun _ => [], ⟨by simp, by simp, by simp⟩, fun R0 _ _ => ⟨rfl, fun r c hm => .inr ⟨by simp, hm⟩⟩⟩
    | cons _ _ => simp [argsD] at e
  | cons p ps ih =>
    intro vs xs q Bs x' hst e s out hio hBs
    have hst2 := fun p hp => hst p (List.mem_cons_of_mem _ hp)
    obtain ⟨io, n, t⟩ := p
    cases s with
    | nil => simp [argsD] at e
    | cons s1 s2 =>
      rename_i v x vs xs
      obtain ⟨B, Bs', vx, vs', eB, ev, om, out'⟩ := out
      simp only [List.cons.injEq] at ev
      obtain ⟨ev1, ev2⟩ := ev
      subst ev1; subst ev2; subst eB
      simp only [List.flatten_cons] at hBs
      have hBs2 := List.nodup_append.1 hBs
      have up : ∀ {F1 : Nat → List Nat} {G : List Nat}, Prints F1 G Bs'.flatten → Prints F1 G (B ++ Bs'.flatten) := fun h => ⟨h.nd, fun r hr b hb => List.mem_append_right _ (h.sub r hr b hb), h.ap⟩
      cases n with
      | zero =>
        simp only [argsD] at e
        split at e
        · rename_i y z hy hz
          simp only [Option.some.injEq] at e; subst e
          obtain ⟨F1, p1, k1⟩ := ih hst2 hz s2 out' hio hBs2.2.1
          refine ⟨F1, up p1, fun R0 h1 h2 => ?_⟩
          cases io <;> exact k1 R0 h1 h2
        · cases e
      | succ m =>
        simp only [argsD] at e
        split at e
        · rename_i y z hy hz
          cases io with
          | true =>
            simp only [Option.some.injEq] at e; subst e
            have hio2 := List.nodup_append.1 hio
            obtain ⟨cs', o', ev'⟩ := om
            obtain ⟨cs, sc, oc, ex⟩ := denN_slot hR hy s1
            have hcs := valOf_inj oc o' (ex.symm.trans ev')
            subst hcs
            obtain ⟨Fa, pa, ka⟩ := back_ok (β := β) (Nat.succ_pos m) (hst _ (List.mem_cons_self ..) rfl (Nat.succ_ne_zero m)) hy sc o' hio2.1 hBs2.1
            obtain ⟨Fb, pb, kb⟩ := ih hst2 hz s2 out' hio2.2.1 hBs2.2.1
            have hg : ∀ r ∈ y.2, r ∉ z.2.2.2 := fun r h1 h2 => hio2.2.2 r h1 r h2 rfl
            refine ⟨_, Prints.join pa pb hg (fun b h1 h2 => hBs2.2.2 b h1 b h2 rfl), fun R0 hR0 hin => ?_⟩
            obtain ⟨m1, m2⟩ := ka R0 hR0 (fun r hr => hin r (List.mem_append_left _ hr))
            obtain ⟨m3, m4⟩ := kb (back (m + 1) t v x'.1 R0) (by rw [m1]; exact hR0) (fun r hr => by rw [m1]; exact hin r (List.mem_append_right _ hr))
            refine ⟨m3.trans m1, fun r c hm => ?_⟩
            rcases m4 r c hm with ⟨h1, h2⟩ | ⟨h1, h2⟩
            · left
              refine ⟨List.mem_append_right _ h1, ?_⟩
              show RowR h' Z' β (if r ∈ y.2 then Fa r else Fb r) r c
              rw [if_neg (fun h => hg r h h1)]; exact h2
            · rcases m2 r c h2 with ⟨h3, h4⟩ | ⟨h3, h4⟩
              · left
                refine ⟨List.mem_append_left _ h3, ?_⟩
                show RowR h' Z' β (if r ∈ y.2 then Fa r else Fb r) r c
                rw [if_pos h3]; exact h4
              · exact .inr ⟨by simp [h1, h3], h4⟩
          | false =>
            simp only [Option.some.injEq] at e; subst e
            obtain ⟨F1, p1, k1⟩ := ih hst2 hz s2 out' hio hBs2.2.1
            exact ⟨F1, up p1, fun R0 h1 h2 => k1 R0 h1 h2⟩
        · cases e
theorem rootsOk0 (t : Ty) : rootsOk 0 t = true := by cases t <;> rfl
theorem own_isI {h : Hp} {Z : Nat → Prop} {n : Nat} : ∀ {r : Ty}, isI r = true → Own h Z r n [] [.nilIface] r.zero
  | .inil, _ => ⟨rfl, rfl⟩
  | .ialt _ _ _, _ => .inl ⟨rfl, rfl, rfl⟩
theorem isI_agg : ∀ {r : Ty}, isI r = true → r.agg = false
  | .inil, _ => rfl
  | .ialt _ _ _, _ => rfl
/-- A result's state and its new roots. -/
theorem res_ok {h' : Hp} {Z' : Nat → Prop} {n : Nat} (dep : List Nat) : ∀ {t : Ty} {y : t.den} {B : List Nat} {cs : List Value} (ids : List Nat) (N : List (Nat × Ch)), rootsOk n t = true → Own h' Z' t n B cs y → (0 < n → slots t y ≤ ids.length) → ids.Nodup → B.Nodup →
    ∃ used new β1 F1, ids = used ++ (resV dep n t y ids N).2.1 ∧ (0 < n → used.length = slots t y) ∧ (n = 0 → used = []) ∧ (resV dep n t y ids N).2.2 = new ++ N ∧ (new.map (·.1)).Perm used ∧ Prints F1 used B ∧ (∀ r c, (r, c) ∈ new → RowR h' Z' β1 (F1 r) r c) ∧ (∀ r ∈ used, one (β1 r) = true) ∧
      ∀ (β' : Nat → Value) (Zd : List Nat → Nat → Prop), (∀ r ∈ used, β' r = β1 r) → (n = 0 → ∀ b, Z' b → Zd dep b) → SVc h' Zd β' (resV dep n t y ids N).1 cs ∧ (resV dep n t y ids N).1.isAgg = t.agg ∧ (resV dep n t y ids N).1.tup = false := by
  intro t
  have flat : ∀ {t : Ty} {y : t.den} {B : List Nat} {cs : List Value} (ids : List Nat) (N : List (Nat × Ch)), t.hasSl = false → (t.agg = false) → slots t y = 0 → Own h' Z' t n B cs y → resV dep n t y ids N = (.pv [] t y, ids, N) →
    ∃ used new β1 F1, ids = used ++ (resV dep n t y ids N).2.1 ∧ (0 < n → used.length = slots t y) ∧ (n = 0 → used = []) ∧ (resV dep n t y ids N).2.2 = new ++ N ∧ (new.map (·.1)).Perm used ∧ Prints F1 used B ∧ (∀ r c, (r, c) ∈ new → RowR h' Z' β1 (F1 r) r c) ∧ (∀ r ∈ used, one (β1 r) = true) ∧
      ∀ (β' : Nat → Value) (Zd : List Nat → Nat → Prop), (∀ r ∈ used, β' r = β1 r) → (n = 0 → ∀ b, Z' b → Zd dep b) → SVc h' Zd β' (resV dep n t y ids N).1 cs ∧ (resV dep n t y ids N).1.isAgg = t.agg ∧ (resV dep n t y ids N).1.tup = false := by
    intro t y B cs ids N hs _ h0 o e
    rw [e]
    refine ⟨[], [], fun _ => undef, fun _ => [], rfl, fun _ => h0.symm, fun _ => rfl, rfl, .refl _, ⟨by simp, by simp, by simp⟩, by simp, by simp, fun β' Zd _ _ => ⟨(o.flat (m := 0) hs).2 _ _, rfl, rfl⟩⟩
  induction t with
  | unit =>
    intro y B cs ids N _ o _ _ _
    obtain ⟨rfl, rfl⟩ := o
    exact ⟨[], [], fun _ => undef, fun _ => [], rfl, fun _ => rfl, fun _ => rfl, rfl, .refl _, ⟨by simp, by simp, by simp⟩, by simp, by simp, fun β' Zd _ _ => ⟨rfl, rfl, rfl⟩⟩
  | int k => intro y B cs ids N _ o _ _ _; exact flat ids N rfl rfl rfl o rfl
  | bool => intro y B cs ids N _ o _ _ _; exact flat ids N rfl rfl rfl o rfl
  | str => intro y B cs ids N _ o _ _ _; exact flat ids N rfl rfl rfl o rfl
  | any => intro y B cs ids N _ o _ _ _; exact flat ids N rfl rfl rfl o rfl
  | inil =>
    intro y B cs ids N _ o _ _ _
    obtain ⟨rfl, rfl⟩ := o
    exact ⟨[], [], fun _ => undef, fun _ => [], rfl, fun _ => rfl, fun _ => rfl, rfl, .refl _, ⟨by simp, by simp, by simp⟩, by simp, by simp, fun β' Zd _ _ => ⟨rfl, rfl, rfl⟩⟩
  | arr m e ih =>
    intro y B cs ids N hro o _ _ _
    refine ⟨[], [], fun _ => undef, fun _ => [], rfl, fun _ => rfl, fun _ => rfl, rfl, .refl _, ⟨by simp, by simp, by simp⟩, by simp, by simp, fun β' Zd _ hz => ⟨?_, rfl, rfl⟩⟩
    cases n with
    | zero => have hB0 := o.b0; subst hB0; exact o.weaken (hz rfl)
    | succ n =>
      have hs : (!e.hasSl) = true := hro
      exact (Own.flat (t := .arr m e) (m := 0) (by show e.hasSl = false; simpa using hs) o).2 _ _
  | ptr e ih =>
    intro y B cs ids N hro o _ _ _
    cases n with
    | zero =>
      have hB0 := o.b0; subst hB0
      exact ⟨[], [], fun _ => undef, fun _ => [], rfl, fun _ => rfl, fun _ => rfl, rfl, .refl _, ⟨by simp, by simp, by simp⟩, by simp, by simp, fun β' Zd _ hz => ⟨o.weaken (hz rfl), rfl, rfl⟩⟩
    | succ n => cases hro
  | mp k v ihk ihv =>
    intro y B cs ids N _ o hl hids hB
    cases n with
    | zero =>
      have hB0 := o.b0; subst hB0
      exact ⟨[], [], fun _ => undef, fun _ => [], rfl, fun h => absurd h (Nat.lt_irrefl 0), fun _ => rfl, rfl, .refl _, ⟨by simp, by simp, by simp⟩, by simp, by simp, fun β' Zd _ hz => ⟨o.weaken (hz rfl), rfl, rfl⟩⟩
    | succ m =>
      cases y with
      | none =>
        obtain ⟨rfl, rfl⟩ := o
        exact ⟨[], [], fun _ => undef, fun _ => [], rfl, fun _ => rfl, fun _ => rfl, rfl, .refl _, ⟨by simp, by simp, by simp⟩, by simp, by simp, fun β' Zd _ _ => ⟨rfl, rfl, rfl⟩⟩
      | some xs =>
        cases ids with
        | nil => have := hl (Nat.succ_pos m); simp [slots] at this
        | cons r ids =>
          obtain ⟨b, es, cl, rfl, o2, o3, o4⟩ := o
          refine ⟨[r], [(r, .mp k v xs)], fun _ => .map (some b), fun _ => B, rfl, fun _ => rfl, (fun h => by cases h), rfl, .refl _, ⟨fun _ _ => hB, fun _ _ _ h => h, fun p hp q hq hne => ?_⟩, ?_, fun _ _ => rfl, fun β' Zd hβ _ => ⟨?_, rfl, rfl⟩⟩
          · simp only [List.mem_singleton] at hp hq; exact absurd (hp.trans hq.symm) hne
          · intro q ch hm
            simp only [List.mem_singleton, Prod.mk.injEq] at hm
            obtain ⟨rfl, rfl⟩ := hm; exact ⟨b, es, cl, rfl, o2, o3, o4⟩
          · show _ = [β' r]
            rw [hβ r (by simp)]
  | ialt u a r iha ihr =>
    intro y B cs ids N hro o hl hids hB
    have hro' : 0 < n → rootsOk n a = true ∧ rootsOk n r = true := by
      intro h
      cases n with
      | zero => omega
      | succ n =>
        have h' : (rootsOk (n + 1) a && rootsOk (n + 1) r && isI r) = true := hro
        simp only [Bool.and_eq_true] at h'
        exact h'.1
    have hra : rootsOk n a = true := by
      cases n with
      | zero => exact rootsOk0 a
      | succ n => exact (hro' (Nat.succ_pos n)).1
    have hrr : rootsOk n r = true := by
      cases n with
      | zero => exact rootsOk0 r
      | succ n => exact (hro' (Nat.succ_pos n)).2
    cases y with
    | inl y =>
      obtain ⟨cs', rfl, o'⟩ := o
      obtain ⟨u1, n1, β1, F1, e1, l1, z1, m1, p1, q1, r1, s1, k1⟩ := iha ids N hra o' hl hids hB
      refine ⟨u1, n1, β1, F1, e1, l1, z1, m1, p1, q1, r1, s1, fun β' Zd hβ hz => ?_⟩
      obtain ⟨x1, x2, x3⟩ := k1 β' Zd hβ hz
      exact ⟨⟨cs', rfl, x1⟩, rfl, rfl⟩
    | inr y =>
      cases hI : isI r with
      | true =>
        have er : resV dep n (.ialt u a r) (.inr y) ids N = resV dep n r y ids N := (show resV dep n (.ialt u a r) (.inr y) ids N = if isI r then resV dep n r y ids N else (.hole 1, ids, N) from rfl).trans (if_pos hI)
        have es : slots (.ialt u a r) (.inr y) = slots r y := (show slots (.ialt u a r) (.inr y) = if isI r then slots r y else 0 from rfl).trans (if_pos hI)
        have o' : Own h' Z' r n B cs y := by
          rcases o with ⟨rfl, rfl, rfl⟩ | ⟨_, o⟩
          · exact own_isI hI
          · exact o
        rw [er]
        rw [es] at hl ⊢
        obtain ⟨u1, n1, β1, F1, e1, l1, z1, m1, p1, q1, r1, s1, k1⟩ := ihr ids N hrr o' hl hids hB
        refine ⟨u1, n1, β1, F1, e1, l1, z1, m1, p1, q1, r1, s1, fun β' Zd hβ hz => ?_⟩
        obtain ⟨x1, x2, x3⟩ := k1 β' Zd hβ hz
        exact ⟨x1, by rw [x2]; exact isI_agg hI, x3⟩
      | false =>
        have er : resV dep n (.ialt u a r) (.inr y) ids N = (.hole 1, ids, N) := (show resV dep n (.ialt u a r) (.inr y) ids N = if isI r then resV dep n r y ids N else (.hole 1, ids, N) from rfl).trans (if_neg (by rw [hI]; decide))
        have es : slots (.ialt u a r) (.inr y) = 0 := (show slots (.ialt u a r) (.inr y) = if isI r then slots r y else 0 from rfl).trans (if_neg (by rw [hI]; decide))
        rw [er, es]
        exact ⟨[], [], fun _ => undef, fun _ => [], rfl, fun _ => rfl, fun _ => rfl, rfl, .refl _, ⟨by simp, by simp, by simp⟩, by simp, by simp, fun β' Zd _ _ => ⟨o.len, rfl, rfl⟩⟩
  | pair a b iha ihb =>
    intro y B cs ids N hro o hl hids hB
    have hro' : (rootsOk n a && rootsOk n b) = true := by
      cases n with
      | zero => rw [rootsOk0, rootsOk0]; rfl
      | succ n => exact hro
    simp only [Bool.and_eq_true] at hro'
    obtain ⟨B1, B2, c1, c2, rfl, rfl, o1, o2⟩ := o
    rw [List.nodup_append] at hB
    obtain ⟨u1, n1, β1, F1, e1, l1, z1, m1, p1, q1, r1, s1, k1⟩ := iha ids N hro'.1 o1 (fun h => by have := hl h; simp only [slots] at this; omega) hids hB.1
    have hids1 := hids
    rw [e1, List.nodup_append] at hids1
    have hlen2 : 0 < n → slots b y.2 ≤ (resV dep n a y.1 ids N).2.1.length := by
      intro h
      have h1 := hl h
      have h2 := l1 h
      have h3 := congrArg List.length e1
      rw [List.length_append] at h3
      simp only [slots] at h1; omega
    obtain ⟨u2, n2, β2, F2, e2, l2, z2, m2, p2, q2, r2, s2, k2⟩ := ihb (resV dep n a y.1 ids N).2.1 (resV dep n a y.1 ids N).2.2 hro'.2 o2 hlen2 hids1.2.1 hB.2.1
    have hg : ∀ r ∈ u1, r ∉ u2 := fun r h1 h2 => hids1.2.2 r h1 r (by rw [e2]; exact List.mem_append_left _ h2) rfl
    have b1 : ∀ r ∈ u1, (if r ∈ u1 then β1 r else β2 r) = β1 r := fun r hr => if_pos hr
    have b2 : ∀ r ∈ u2, (if r ∈ u1 then β1 r else β2 r) = β2 r := fun r hr => if_neg (fun h => hg r h hr)
    refine ⟨u1 ++ u2, n2 ++ n1, fun r => if r ∈ u1 then β1 r else β2 r, _, ?_, fun h => by rw [List.length_append, l1 h, l2 h]; rfl, fun h => by rw [z1 h, z2 h]; rfl, ?_, ?_, Prints.join q1 q2 hg (fun b h1 h2 => hB.2.2 b h1 b h2 rfl), ?_, ?_, ?_⟩
    · show ids = u1 ++ u2 ++ (resV dep n b y.2 _ _).2.1
      rw [List.append_assoc, ← e2]; exact e1
    · show (resV dep n b y.2 _ _).2.2 = _
      rw [m2, m1, List.append_assoc]
    · rw [List.map_append]; exact (List.Perm.append p2 p1).trans List.perm_append_comm
    · intro r c hm
      rcases List.mem_append.1 hm with hm | hm
      · have hr : r ∈ u2 := p2.subset (List.mem_map.2 ⟨_, hm, rfl⟩)
        have := r2 r c hm
        rw [if_neg (fun h => hg r h hr)]
        cases c with
        | row l e xs => show Own _ _ _ _ _ [if r ∈ u1 then β1 r else β2 r] _; rw [b2 r hr]; exact this
        | box _ => exact this
        | iter _ _ => exact this
        | mp _ _ _ => show Own _ _ _ _ _ [if r ∈ u1 then β1 r else β2 r] _; rw [b2 r hr]; exact this
        | glob _ => exact this
      · have hr : r ∈ u1 := p1.subset (List.mem_map.2 ⟨_, hm, rfl⟩)
        have := r1 r c hm
        rw [if_pos hr]
        cases c with
        | row l e xs => show Own _ _ _ _ _ [if r ∈ u1 then β1 r else β2 r] _; rw [b1 r hr]; exact this
        | box _ => exact this
        | iter _ _ => exact this
        | mp _ _ _ => show Own _ _ _ _ _ [if r ∈ u1 then β1 r else β2 r] _; rw [b1 r hr]; exact this
        | glob _ => exact this
    · intro r hr
      rcases List.mem_append.1 hr with hr | hr
      · show one (if r ∈ u1 then β1 r else β2 r) = true
        rw [b1 r hr]; exact s1 r hr
      · show one (if r ∈ u1 then β1 r else β2 r) = true
        rw [b2 r hr]; exact s2 r hr
    · intro β' Zd hβ hz
      obtain ⟨x1, x2, _⟩ := k1 β' Zd (fun r hr => (hβ r (List.mem_append_left _ hr)).trans (b1 r hr)) hz
      obtain ⟨y1, y2, _⟩ := k2 β' Zd (fun r hr => (hβ r (List.mem_append_right _ hr)).trans (b2 r hr)) hz
      exact ⟨⟨c1, c2, rfl, x1, y1⟩, rfl, rfl⟩
  | sl e ih =>
    intro y B cs ids N _ o hl hids hB
    cases n with
    | zero =>
      have hB0 := o.b0; subst hB0
      exact ⟨[], [], fun _ => undef, fun _ => [], rfl, fun h => absurd h (Nat.lt_irrefl 0), fun _ => rfl, rfl, .refl _, ⟨by simp, by simp, by simp⟩, by simp, by simp, fun β' Zd _ hz => ⟨o.weaken (hz rfl), rfl, rfl⟩⟩
    | succ m =>
      cases ids with
      | nil => have := hl (Nat.succ_pos m); simp [slots] at this
      | cons r ids =>
        have o0 := o
        obtain ⟨A, c, rfl, _⟩ := o
        refine ⟨[r], [(r, .row m e y)], fun _ => .slice A y.length c, fun _ => B, rfl, fun _ => rfl, (fun h => by cases h), rfl, .refl _, ⟨fun _ _ => hB, fun _ _ _ h => h, fun p hp q hq hne => ?_⟩, ?_, fun _ _ => rfl, fun β' Zd hβ _ => ⟨?_, rfl, rfl⟩⟩
        · simp only [List.mem_singleton] at hp hq; exact absurd (hp.trans hq.symm) hne
        · intro q ch hm
          simp only [List.mem_singleton, Prod.mk.injEq] at hm
          obtain ⟨rfl, rfl⟩ := hm; exact o0
        · show _ = [β' r]
          rw [hβ r (by simp)]
end
end Go.Proofs.YtjpeblicfhfniaaDoor.Eng
