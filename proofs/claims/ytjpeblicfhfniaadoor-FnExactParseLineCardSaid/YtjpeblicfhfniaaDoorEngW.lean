/- The engine, part 23: a function's exit; the contract out of the machine. No condition. -/
import Derived.Test.YtjpeblicfhfniaaDoorEngV
import Derived.Tactics
namespace Go.Proofs.YtjpeblicfhfniaaDoor.Eng
open Go.RowKit
set_option linter.unusedVariables false
set_option linter.unusedSimpArgs false
section
variable {P : Program} {T : Tab} {C : FuncId → Option Con} {lv : Nat → List Nat} {hd : Nat → Nat} {Bb : Nat → Prop} {w0 : World} {O0 : List Nat} {av : List Value} {Γ Γ' : Ctx} {a : Act} {w w' : World} {β : Nat → Value} {F : Nat → List Nat}
theorem resSV_ok (hT : TabOk P T) (S : Sim Bb w0 O0 av Γ a w β F) : ∀ {l : List ResultVar} {vs : List SV}, resSV T Γ l = some vs →
    ∃ zs, (l.mapM fun (v : ResultVar) => match v with
      | ResultVar.tmp t => (pure (a.tmps.getD t undef) : Sem Value)
      | ResultVar.cell ad t => do loadVar t (← asAddr (a.tmps.getD ad undef))).run P w = .ok zs w ∧ SlotsR (hp w) (ZdOf Bb F Γ.roots) β vs zs
  | [], vs, h => by
    simp only [resSV, Option.some.injEq] at h; subst h
    exact ⟨[], rfl, .nil⟩
  | .tmp t :: l, vs, h => by
    simp only [resSV, Option.map_eq_some_iff] at h
    obtain ⟨vs', h1, rfl⟩ := h
    obtain ⟨zs, h2, h3⟩ := resSV_ok hT S h1
    refine ⟨a.tmps.getD t undef :: zs, ?_, .cons (S.get t) h3⟩
    rw [List.mapM_cons]
    show (Sem.bind _ _).run P w = _
    rw [run_bind_ok (s := pure _) (x := a.tmps.getD t undef) rfl]
    show (Sem.bind _ _).run P w = _
    rw [run_bind_ok h2]; rfl
  | .cell ad t :: l, vs, h => by
    simp only [resSV] at h
    split at h
    · rename_i r e i p u hg ht
      split at h
      · rename_i v hr
        split at h
        · rename_i hc
          obtain ⟨hf, rfl, hty⟩ := hc
          split at h
          · rename_i s hs
            split at h
            · rename_i hag
              simp only [Option.map_eq_some_iff] at h
              obtain ⟨vs', h1, rfl⟩ := h
              obtain ⟨zs, h2, h3⟩ := resSV_ok hT S h1
              have hsl := S.get ad
              rw [hg] at hsl
              obtain ⟨cs, ⟨b, off, hb, rfl⟩, ex⟩ := slot_one hsl rfl (by simp)
              have ex' : a.tmps.getD ad undef = .pointer (some ⟨b, off + (0 : Int).toNat * e.sz + offAt e p, none⟩) := ex
              obtain ⟨b', cs, ty, q1, q2, q3, q4⟩ := S.roots r _ (look_mem hr)
              rw [q1] at hb
              simp only [baseA, Option.some.injEq, Prod.mk.injEq] at hb
              obtain ⟨rfl, rfl⟩ := hb
              obtain ⟨τ, t1, t2⟩ := SVc.at q4 hf hs (.inr ⟨_, hty⟩)
              rw [hty, Option.some.injEq] at t1; subst t1
              have hle := offAt_le hty
              rw [← fits_sz hf, ← q4.len] at hle
              have e0 : (0 : Nat) + (0 : Int).toNat * e.sz + offAt e p = offAt e p := by simp
              rw [e0] at ex'
              have hst : s.tup = false := by cases s <;> first | rfl | exact t2.elim
              refine ⟨valOf u.agg (seg cs (offAt e p) u.sz) :: zs, ?_, .cons (by rw [← hag]; exact slot_c hst t2) h3⟩
              rw [List.mapM_cons]
              have hl : (do loadVar t (← asAddr (a.tmps.getD ad undef)) : Sem Value).run P w = .ok (valOf u.agg (seg cs (offAt e p) u.sz)) w := by
                rw [ex']
                show (Sem.bind _ _).run P w = _
                rw [run_bind_ok (s := asAddr _) (x := (⟨b', offAt e p, none⟩ : Addr)) rfl]
                have := run_loadVar (P := P) (w := w) (hT _ _ ht) q3 (o := offAt e p) (by simpa using hle)
                simpa using this
              show (Sem.bind _ _).run P w = _
              rw [run_bind_ok hl]
              show (Sem.bind _ _).run P w = _
              rw [run_bind_ok h2]; rfl
            · cases h
          · cases h
        · cases h
      · cases h
    · cases h
theorem retD_ok {R : List (Nat × Ch)} {h : Hp} (hR : ∀ r c, (r, c) ∈ R → RootR h (ZdOf Bb F R) β (F r) r c) : ∀ {rs : List (Nat × Ty)} {vs : List SV} {zs : List Value} {q : DR rs × List Nat × List Nat}, retD R rs vs = some q → SlotsR h (ZdOf Bb F R) β vs zs →
    ∃ Rs, RetL h (ZdOf Bb F R q.2.1) rs Rs zs q.1 ∧ Rs.flatten = q.2.2.flatMap F ∧ (∀ r ∈ q.2.2, r ∈ R.map (·.1)) := by
  have wk : ∀ {Z Z' : Nat → Prop}, (∀ b, Z b → Z' b) → ∀ {rs : List (Nat × Ty)} {Bs : List (List Nat)} {xs : List Value} {x : DR rs}, RetL h Z rs Bs xs x → RetL h Z' rs Bs xs x := by
    intro Z Z' hz rs
    induction rs with
    | nil => intro Bs xs x hh; exact hh
    | cons p rs ih =>
      intro Bs xs x hh
      obtain ⟨B, Bs', v, vs', cs, e1, e2, o, e3, r⟩ := hh
      exact ⟨B, Bs', v, vs', cs, e1, e2, o.weaken hz, e3, ih r⟩
  intro rs
  induction rs with
  | nil =>
    intro vs zs q e s
    cases s with
    | nil =>
      simp only [retD, Option.some.injEq] at e; subst e
      exact ⟨[], ⟨rfl, rfl⟩, rfl, by simp⟩
    | cons _ _ => simp [retD] at e
  | cons p rs ih =>
    intro vs zs q e s
    obtain ⟨n, t⟩ := p
    cases s with
    | nil => simp [retD] at e
    | cons s1 s2 =>
      rename_i v x vs zs
      cases n with
      | zero =>
        simp only [retD] at e
        split at e
        · rename_i y z hy hz
          simp only [Option.some.injEq] at e; subst e
          obtain ⟨cs, o, ex⟩ := den0_slot hR hy s1
          obtain ⟨Rs, r1, r2, r3⟩ := ih hz s2
          exact ⟨[] :: Rs, ⟨[], Rs, x, zs, cs, rfl, rfl, o.weaken (fun b hb => zd_mono (by intro k hk; simp [hk]) hb), ex, wk (fun b hb => zd_mono (by intro k hk; simp [hk]) hb) r1⟩, by simpa using r2, r3⟩
        · cases e
      | succ m =>
        simp only [retD] at e
        split at e
        · rename_i y z hy hz
          simp only [Option.some.injEq] at e; subst e
          obtain ⟨cs, _, o, ex⟩ := denN_slot hR hy s1
          obtain ⟨Rs, r1, r2, r3⟩ := ih hz s2
          refine ⟨y.2.flatMap F :: Rs, ⟨_, Rs, x, zs, cs, rfl, rfl, o.weaken (fun b hb => zd_mono (by simp) hb), ex, r1⟩, by simp [r2], fun r hr => ?_⟩
          rcases List.mem_append.1 hr with hr | hr
          · exact denN_sub hy r hr
          · exact r3 r hr
        · cases e
theorem outD_ok {R : List (Nat × Ch)} {h : Hp} (hR : ∀ r c, (r, c) ∈ R → RootR h (ZdOf Bb F R) β (F r) r c) : ∀ {ps : List (Bool × Nat × Ty)} {x : DP ps} {vs : List SV} {zs : List Value} {q : DP ps × List Nat}, outD R ps x vs = some q → AnchR h (ZdOf Bb F R) β vs zs →
    ∃ Bs', OutR h (ZdOf Bb F R []) ps Bs' zs q.1 ∧ Bs'.flatten = q.2.flatMap F ∧ (∀ r ∈ q.2, r ∈ R.map (·.1)) := by
  intro ps
  induction ps with
  | nil =>
    intro x vs zs q e s
    cases vs with
    | nil =>
      cases zs with
      | nil =>
        simp only [outD, Option.some.injEq] at e; subst e
        exact ⟨[], ⟨rfl, rfl⟩, rfl, by simp⟩
      | cons _ _ => exact s.elim
    | cons _ _ => simp [outD] at e
  | cons p ps ih =>
    intro x vs zs q e s
    obtain ⟨io, n, t⟩ := p
    cases vs with
    | nil => simp [outD] at e
    | cons v vs =>
      cases zs with
      | nil => exact s.elim
      | cons z zs =>
        obtain ⟨s1, s2⟩ := s
        have plain : (outD R ps x.2 vs).map (fun q => ((x.1, q.1), q.2)) = some q → (∀ m, ¬ (io = true ∧ n = m + 1)) → ∃ Bs', OutR h (ZdOf Bb F R []) ((io, n, t) :: ps) Bs' (z :: zs) q.1 ∧ Bs'.flatten = q.2.flatMap F ∧ (∀ r ∈ q.2, r ∈ R.map (·.1)) := by
          intro e hno
          simp only [Option.map_eq_some_iff] at e
          obtain ⟨q', h1, rfl⟩ := e
          obtain ⟨Bs', r1, r2, r3⟩ := ih h1 s2
          refine ⟨[] :: Bs', ⟨[], Bs', z, zs, rfl, rfl, ?_, r1⟩, by simpa using r2, r3⟩
          cases io with
          | false => rfl
          | true =>
            cases n with
            | zero => rfl
            | succ m => exact absurd ⟨rfl, rfl⟩ (hno m)
        cases io with
        | false => exact plain (by cases n <;> exact e) (by rintro m ⟨h, _⟩; cases h)
        | true =>
          cases n with
          | zero => exact plain e (by rintro m ⟨_, h⟩; cases h)
          | succ m =>
            simp only [outD] at e
            split at e
            · rename_i y q' hy hz
              simp only [Option.some.injEq] at e; subst e
              obtain ⟨cs, _, o, ex⟩ := denN_slot hR hy s1
              obtain ⟨Bs', r1, r2, r3⟩ := ih hz s2
              refine ⟨y.2.flatMap F :: Bs', ⟨_, Bs', z, zs, rfl, rfl, ⟨cs, o, ex⟩, r1⟩, by simp [r2], fun r hr => ?_⟩
              rcases List.mem_append.1 hr with hr | hr
              · exact denN_sub hy r hr
              · exact r3 r hr
            · cases e
theorem OutR.weaken {h : Hp} {Z Z2 : Nat → Prop} (hz : ∀ b, Z b → Z2 b) : ∀ {ps : List (Bool × Nat × Ty)} {Bs : List (List Nat)} {vs : List Value} {x : DP ps}, OutR h Z ps Bs vs x → OutR h Z2 ps Bs vs x := by
  intro ps
  induction ps with
  | nil => intro Bs vs x h; exact h
  | cons p ps ih =>
    intro Bs vs x hh
    obtain ⟨io, n, t⟩ := p
    obtain ⟨B, Bs', v, vs', e1, e2, om, r⟩ := hh
    refine ⟨B, Bs', v, vs', e1, e2, ?_, ih r⟩
    cases io <;> cases n <;> first | exact om | skip
    obtain ⟨cs, o, ev⟩ := om
    exact ⟨cs, o.weaken hz, ev⟩
theorem RetL.weaken {h : Hp} {Z Z2 : Nat → Prop} (hz : ∀ b, Z b → Z2 b) : ∀ {rs : List (Nat × Ty)} {Bs : List (List Nat)} {vs : List Value} {y : DR rs}, RetL h Z rs Bs vs y → RetL h Z2 rs Bs vs y := by
  intro rs
  induction rs with
  | nil => intro Bs xs x hh; exact hh
  | cons p rs ih =>
    intro Bs xs x hh
    obtain ⟨B, Bs', v, vs', cs, e1, e2, o, e3, r⟩ := hh
    exact ⟨B, Bs', v, vs', cs, e1, e2, o.weaken hz, e3, ih r⟩
theorem ret_ok (hT : TabOk P T) {fn : Func} {c : Con} {x : DP c.ps} {Z : Nat → Prop} {Bs : List (List Nat)} {vals : List Value} (S : Sim (BbOf w0 Z Bs) w0 Bs.flatten vals Γ a w β F) (hr : vcRet T c fn.results.toList x Γ) :
    ∃ v, (results fn a.tmps).run P w = .ok v w ∧ Behind w0 Z c Bs vals x (.returned v) w := by
  unfold vcRet at hr
  split at hr
  · exact hr.elim
  rename_i vs hvs
  split at hr
  · rename_i y z hy hz
    split at hr
    · rename_i hc
      obtain ⟨c1, c2⟩ := hc
      obtain ⟨zs, h1, h2⟩ := resSV_ok hT S hvs
      obtain ⟨Rs, r1, r2, r3⟩ := retD_ok S.roots hy h2
      obtain ⟨Bs', o1, o2, o3⟩ := outD_ok S.roots hz S.anch
      have hn := nodupB_ok c1
      have hin : ∀ r ∈ z.2 ++ y.2.2, r ∈ Γ.roots.map (·.1) := fun r hr => by
        rcases List.mem_append.1 hr with hr | hr
        · exact o3 r hr
        · exact r3 r hr
      have hflat : Bs'.flatten ++ Rs.flatten = (z.2 ++ y.2.2).flatMap F := by rw [o2, r2, List.flatMap_append]
      have hZ' : ∀ d, (∀ r ∈ d, r ∉ z.2 ++ y.2.2) → ∀ b, ZdOf (BbOf w0 Z Bs) F Γ.roots d b → Z b ∨ ((b ∈ Bs.flatten ∨ w0.heap.size ≤ b) ∧ b ∉ Bs'.flatten ++ Rs.flatten) := by
        intro d hd b hb
        rcases hb with ⟨h3, h4⟩ | ⟨r, h3, h4, h5⟩
        · rcases h4 with h4 | h4
          · exact .inl h4
          · refine .inr ⟨h4, fun h5 => h3 ?_⟩
            rw [hflat, List.mem_flatMap] at h5
            obtain ⟨r, h6, h7⟩ := h5
            exact mem_allO.2 ⟨r, hin r h6, h7⟩
        · refine .inr ⟨(S.own b (mem_allO.2 ⟨r, h4, h5⟩)).2, fun h6 => ?_⟩
          rw [hflat, List.mem_flatMap] at h6
          obtain ⟨q, h7, h8⟩ := h6
          have := disj S.ids S.nodup h4 (hin q h7) h5 h8
          subst this; exact hd r h3 h7
      refine ⟨_, ?_, _, y.1, z.1, Bs', Rs, rfl, hr trivial, S.frm, ?_, ?_, OutR.weaken (hZ' [] (by simp)) o1, zs, RetL.weaken (hZ' y.2.1 (apartB_ok c2)) r1, rfl⟩
      · have hm : (fn.results.mapM fun (v : ResultVar) => match v with
            | ResultVar.tmp t => (pure (a.tmps.getD t undef) : Sem Value)
            | ResultVar.cell ad t => do loadVar t (← asAddr (a.tmps.getD ad undef))).run P w = .ok zs.toArray w := by
          rw [Array.mapM_eq_mapM_toList]
          show (Sem.bind _ _).run P w = _
          rw [run_bind_ok h1]; rfl
        have hr2 := run_bind_ok (P := P) (k := fun (vs : Array Value) => (pure (if h : vs.size = 1 then vs[0] else .tuple vs) : Sem Value)) hm
        refine Eq.trans hr2 ?_
        match zs with
        | [] => rfl
        | [v] => rfl
        | u :: v :: l => simp [pure, Sem.run]
      · rw [hflat]
        exact nodup_flatMap hn (fun r hr => nodup_F (hin r hr) S.nodup) (fun r hr q hq hne b h3 h4 => hne (disj S.ids S.nodup (hin r hr) (hin q hq) h3 h4))
      · rw [hflat]
        intro b hb
        obtain ⟨r, h3, h4⟩ := List.mem_flatMap.1 hb
        exact S.own b (mem_allO.2 ⟨r, hin r h3, h4⟩)
    · exact hr.elim
  · exact hr.elim
/-- The contract of a function, out of the machine's run of its text. -/
theorem FnOK.of_vc (hm : P.follows .mixedOrders = true) (hT : TabOk P T) (hC : ConsOk P C) {f : FuncId} {fn : Func} {code : Code} (hf : P.funcs[f]? = some fn) (hb : fn.body = some code) {c : Con} (hnt : c.ps.length ≤ fn.ntmps) (lv : Nat → List Nat) (hd : Nat → Nat)
    (h : ∀ x, c.pre x → WFp c.ps x → vcFn real T C lv hd fn.ntmps fn.results.toList code c x) : FnOK P f c := by
  intro w Z Bs vals x hA hB hZ hG hpre
  have h := h x hpre hA.wf
  unfold vcFn at h
  split at h
  case isFalse => exact h.elim
  rename_i hc
  obtain ⟨β, F, S⟩ := entry_sim (nt := fn.ntmps) hc.1 (by simpa using hc.2) hG hA hB hZ hnt
  refine calls_of_wp hf hb (wp_mono (sound_code hm hT hC S h) ?_)
  intro e a' w' he
  cases e with
  | normal =>
    obtain ⟨Γ', β', F', h1, S'⟩ := he
    obtain ⟨v, h2, h3⟩ := ret_ok hT S' h1
    exact ⟨S'.defers, v, h2, h3⟩
  | ret =>
    obtain ⟨Γ', β', F', h1, S'⟩ := he
    obtain ⟨v, h2, h3⟩ := ret_ok hT S' h1
    exact ⟨S'.defers, v, h2, h3⟩
  | exit n =>
    obtain ⟨Γ', β', F', h1, S'⟩ := he
    exact h1.elim
  | _ => exact he.elim
end
end Go.Proofs.YtjpeblicfhfniaaDoor.Eng
