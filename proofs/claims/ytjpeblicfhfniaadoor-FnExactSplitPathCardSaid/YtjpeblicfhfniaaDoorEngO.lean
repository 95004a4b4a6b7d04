/- The engine, fifteenth part: calls. No condition. -/
import Derived.Test.YtjpeblicfhfniaaDoorEngN
namespace Go.Proofs.YtjpeblicfhfniaaDoor.Eng
open Go.RowKit
set_option linter.unusedVariables false
set_option linter.unusedSimpArgs false
/-! ### contracts -/
section
variable (h : Hp) (Z : Nat → Prop)
def ArgsR : (ps : List (Bool × Nat × Ty)) → List (List Nat) → List Value → DP ps → Prop
  | [], Bs, vs, _ => Bs = [] ∧ vs = []
  | p :: ps, Bs, vs, x => ∃ B Bs' v vs' cs, Bs = B :: Bs' ∧ vs = v :: vs' ∧ Own h Z p.2.2 p.2.1 B cs x.1 ∧ v = valOf p.2.2.agg cs ∧ ArgsR ps Bs' vs' x.2
def OutR : (ps : List (Bool × Nat × Ty)) → List (List Nat) → List Value → DP ps → Prop
  | [], Bs, vs, _ => Bs = [] ∧ vs = []
  | p :: ps, Bs, vs, x => ∃ B Bs' v vs', Bs = B :: Bs' ∧ vs = v :: vs' ∧ (match p.1, p.2.1 with | true, m + 1 => ∃ cs, Own h Z p.2.2 (m + 1) B cs x.1 ∧ v = valOf p.2.2.agg cs | _, _ => B = []) ∧ OutR ps Bs' vs' x.2
def RetL : (rs : List (Nat × Ty)) → List (List Nat) → List Value → DR rs → Prop
  | [], Bs, vs, _ => Bs = [] ∧ vs = []
  | p :: rs, Bs, vs, y => ∃ B Bs' v vs' cs, Bs = B :: Bs' ∧ vs = v :: vs' ∧ Own h Z p.2 p.1 B cs y.1 ∧ v = valOf p.2.agg cs ∧ RetL rs Bs' vs' y.2
def RetR (rs : List (Nat × Ty)) (Bs : List (List Nat)) (rv : Value) (y : DR rs) : Prop := ∃ vs, RetL h Z rs Bs vs y ∧ rv = (match vs with | [v] => v | vs => .tuple vs.toArray)
end
/-- What is behind a call. -/
def Behind (w : World) (Z : Nat → Prop) (c : Con) (Bs : List (List Nat)) (vals : List Value) (x : DP c.ps) (e : Ending) (w' : World) : Prop :=
  ∃ rv y x' Bs' Rs, e = .returned rv ∧ c.post x y x' ∧ Frm Bs.flatten w w' ∧ (Bs'.flatten ++ Rs.flatten).Nodup ∧
    (∀ b ∈ Bs'.flatten ++ Rs.flatten, b < w'.heap.size ∧ (b ∈ Bs.flatten ∨ w.heap.size ≤ b)) ∧
    OutR (hp w') (fun b => Z b ∨ ((b ∈ Bs.flatten ∨ w.heap.size ≤ b) ∧ b ∉ Bs'.flatten ++ Rs.flatten)) c.ps Bs' vals x' ∧
    RetR (hp w') (fun b => Z b ∨ ((b ∈ Bs.flatten ∨ w.heap.size ≤ b) ∧ b ∉ Bs'.flatten ++ Rs.flatten)) c.rs Rs rv y
def FnOK (P : Program) (f : FuncId) (c : Con) : Prop :=
  ∀ (w : World) (Z : Nat → Prop) (Bs : List (List Nat)) (vals : List Value) (x : DP c.ps), ArgsR (hp w) Z c.ps Bs vals x → Bs.flatten.Nodup → (∀ b ∈ Bs.flatten, b < w.heap.size ∧ ¬ Z b) → c.pre x →
    Calls P f vals.toArray w (Behind w Z c Bs vals x)

section
variable {P : Program} {T : Tab} {Bb : Nat → Prop} {w0 : World} {O0 : List Nat} {av : List Value} {Γ Γ' : Ctx} {a : Act} {w w' : World} {β : Nat → Value} {F : Nat → List Nat} {K : Ctx → Prop} {o : Oper} {Q : Exit → Act → World → Prop}
theorem Own.deep {h : Hp} {Z Z' : Nat → Prop} : ∀ {t : Ty} {n : Nat} {B : List Nat} {cs : List Value} {x : t.den}, depth t ≤ n → Own h Z t n B cs x → Own h Z' t n B cs x
  | .unit, _, _, _, _, _, o => o
  | .int k, _, _, _, _, _, o => o
  | .bool, _, _, _, _, _, o => o
  | .str, _, _, _, _, _, o => o
  | .pair a b, n, _, _, _, hd, ⟨B1, B2, c1, c2, e1, e2, o1, o2⟩ => by
      have h1 : depth a ≤ n := Nat.le_trans (Nat.le_max_left _ _) hd
      have h2 : depth b ≤ n := Nat.le_trans (Nat.le_max_right _ _) hd
      exact ⟨B1, B2, c1, c2, e1, e2, o1.deep h1, o2.deep h2⟩
  | .sl e, 0, _, _, _, hd, _ => by simp [depth] at hd
  | .sl e, n + 1, _, _, _, hd, ⟨A, c, e1, e2, e3, r⟩ => ⟨A, c, e1, e2, e3, by
      rcases r with r | ⟨b, o, arr, ty, Bs, ha, hh, hl, hB, hn, hr⟩
      · exact .inl r
      · exact .inr ⟨b, o, arr, ty, Bs, ha, hh, hl, hB, hn, fun i x Bi h1 h2 => (hr i x Bi h1 h2).deep (by simp only [depth] at hd; omega)⟩⟩
theorem denN_sub {R : List (Nat × Ch)} {n : Nat} : ∀ {t : Ty} {v : SV} {y : t.den × List Nat}, denN R n t v = some y → ∀ r ∈ y.2, r ∈ R.map (·.1) := by
  have pv : ∀ {t u : Ty} {d : List Nat} {x : u.den} {y : t.den × List Nat}, (if t.hasSl then none else (as t ⟨u, x⟩).map fun y => (y, ([] : List Nat))) = some y → ∀ r ∈ y.2, r ∈ R.map (·.1) := by
    intro t u d x y e r hr
    split at e
    · cases e
    · simp only [Option.map_eq_some_iff] at e; obtain ⟨z, _, rfl⟩ := e; cases hr
  intro t
  induction t with
  | unit =>
    intro v y e
    cases v <;> simp only [denN, reduceCtorEq, Option.some.injEq] at e
    · exact pv (d := []) e
    · subst e; intro r hr; cases hr
  | int k => intro v y e; cases v <;> simp only [denN, reduceCtorEq] at e; exact pv (d := []) e
  | bool => intro v y e; cases v <;> simp only [denN, reduceCtorEq] at e; exact pv (d := []) e
  | str => intro v y e; cases v <;> simp only [denN, reduceCtorEq] at e; exact pv (d := []) e
  | pair a b iha ihb =>
    intro v y e
    cases v <;> simp only [denN, reduceCtorEq] at e
    · exact pv (d := []) e
    · split at e
      · rename_i p q hp hq
        simp only [Option.some.injEq] at e; subst e
        intro r hr
        rcases List.mem_append.1 hr with hr | hr
        · exact iha hp r hr
        · exact ihb hq r hr
      · cases e
  | sl e' ih =>
    intro v y e
    cases v <;> simp only [denN, reduceCtorEq, Option.some.injEq] at e
    · exact pv (d := []) e
    · subst e; intro r hr; cases hr
    · split at e
      · rename_i r m f xs hr
        split at e
        · simp only [Option.map_eq_some_iff] at e; obtain ⟨z, _, rfl⟩ := e
          intro q hq
          simp only [List.mem_singleton] at hq; subst hq
          exact List.mem_map.2 ⟨_, look_mem hr, rfl⟩
        · cases e
      · cases e
theorem denN_ok {R : List (Nat × Ch)} {h : Hp} (hR : ∀ r c, (r, c) ∈ R → RootR h (ZdOf Bb F R) β (F r) r c) {n : Nat} (hn : 0 < n) : ∀ {t : Ty} {v : SV} {y : t.den × List Nat} {cs : List Value}, denN R n t v = some y → SVc h (ZdOf Bb F R) β v cs →
    Own h (ZdOf Bb F R []) t n (y.2.flatMap F) cs y.1 ∧ v.isAgg = t.agg := by
  have pv : ∀ {t u : Ty} {d : List Nat} {x : u.den} {y : t.den × List Nat} {cs : List Value}, (if t.hasSl then none else (as t ⟨u, x⟩).map fun y => (y, ([] : List Nat))) = some y → SVc h (ZdOf Bb F R) β (.pv d u x) cs → Own h (ZdOf Bb F R []) t n (y.2.flatMap F) cs y.1 ∧ (SV.pv d u x).isAgg = t.agg := by
    intro t u d x y cs e o
    split at e
    · cases e
    · rename_i hs
      simp only [Option.map_eq_some_iff] at e
      obtain ⟨z, e, rfl⟩ := e
      have e' := as_some e
      simp only [Sigma.mk.injEq] at e'
      obtain ⟨rfl, e'⟩ := e'
      have e'' := eq_of_heq e'; subst e''
      exact ⟨(Own.flat (m := n) (by simpa using hs) (show Own h (ZdOf Bb F R d) u 0 [] cs x from o)).2 _ _, rfl⟩
  intro t
  induction t with
  | unit =>
    intro v y cs e o
    cases v <;> simp only [denN, reduceCtorEq, Option.some.injEq] at e
    · exact pv e o
    · subst e; exact ⟨⟨rfl, o⟩, rfl⟩
  | int k => intro v y cs e o; cases v <;> simp only [denN, reduceCtorEq] at e; exact pv e o
  | bool => intro v y cs e o; cases v <;> simp only [denN, reduceCtorEq] at e; exact pv e o
  | str => intro v y cs e o; cases v <;> simp only [denN, reduceCtorEq] at e; exact pv e o
  | pair a b iha ihb =>
    intro v y cs e o
    cases v <;> simp only [denN, reduceCtorEq] at e
    · exact pv e o
    · split at e
      · rename_i p q hp hq
        simp only [Option.some.injEq] at e; subst e
        obtain ⟨c1, c2, rfl, o1, o2⟩ := o
        exact ⟨⟨_, _, c1, c2, List.flatMap_append, rfl, (iha hp o1).1, (ihb hq o2).1⟩, rfl⟩
      · cases e
  | sl e' ih =>
    intro v y cs e o
    cases v <;> simp only [denN, reduceCtorEq, Option.some.injEq] at e
    · exact pv e o
    · subst e
      have o' : cs = [.slice none 0 0] := o
      subst o'
      exact ⟨Own.nil e' n, rfl⟩
    · rename_i r
      split at e
      · rename_i m f xs hr
        split at e
        · rename_i hm
          simp only [Option.map_eq_some_iff] at e
          obtain ⟨z, e, rfl⟩ := e
          have e2 := as_some e
          simp only [Sigma.mk.injEq, Ty.sl.injEq] at e2
          obtain ⟨rfl, e3⟩ := e2
          have e4 := eq_of_heq e3; subst e4
          have o' : cs = [β r] := o
          subst o'
          have hrow : Own h (ZdOf Bb F R []) (.sl f) (m + 1) (F r) [β r] xs := hR r _ (look_mem hr)
          rw [hm] at hrow
          exact ⟨by simpa using hrow, rfl⟩
        · cases e
      · cases e
theorem denN_slot {R : List (Nat × Ch)} {h : Hp} (hR : ∀ r c, (r, c) ∈ R → RootR h (ZdOf Bb F R) β (F r) r c) {n : Nat} (hn : 0 < n) {t : Ty} {v : SV} {y : t.den × List Nat} {x : Value} (e : denN R n t v = some y) (s : SlotR h (ZdOf Bb F R) β v x) :
    ∃ cs, SVc h (ZdOf Bb F R) β v cs ∧ Own h (ZdOf Bb F R []) t n (y.2.flatMap F) cs y.1 ∧ x = valOf t.agg cs := by
  have ht : v.tup = false := by cases v <;> cases t <;> first | rfl | (simp [denN] at e)
  have hh : ∀ m, v ≠ .hole m := by rintro m rfl; cases t <;> simp [denN] at e
  obtain ⟨cs, h1, h2⟩ := slot_one s ht hh
  obtain ⟨h3, h4⟩ := denN_ok hR hn e h1
  exact ⟨cs, h1, h3, by rw [h2, h4]⟩
/-- the roots that each parameter hands over -/
def gOf (R : List (Nat × Ch)) : (ps : List (Bool × Nat × Ty)) → List SV → List (List Nat)
  | (_, n, t) :: ps, v :: vs => (match n with | 0 => [] | m + 1 => ((denN R (m + 1) t v).map (·.2)).getD []) :: gOf R ps vs
  | _, _ => []
inductive SlotsR (h : Hp) (Zd : List Nat → Nat → Prop) (β : Nat → Value) : List SV → List Value → Prop where
  | nil : SlotsR h Zd β [] []
  | cons {v : SV} {x : Value} {vs : List SV} {xs : List Value} : SlotR h Zd β v x → SlotsR h Zd β vs xs → SlotsR h Zd β (v :: vs) (x :: xs)
theorem args_ok {R : List (Nat × Ch)} {h : Hp} (hR : ∀ r c, (r, c) ∈ R → RootR h (ZdOf Bb F R) β (F r) r c) : ∀ {ps : List (Bool × Nat × Ty)} {vs : List SV} {xs : List Value} {q : DP ps × List Nat × List Nat × List Nat}, argsD R ps vs = some q → SlotsR h (ZdOf Bb F R) β vs xs →
    ArgsR h (ZdOf Bb F R q.2.1) ps ((gOf R ps vs).map (·.flatMap F)) xs q.1 ∧ (gOf R ps vs).flatten.Perm (q.2.2.1 ++ q.2.2.2) ∧ (∀ r ∈ (gOf R ps vs).flatten, r ∈ R.map (·.1)) := by
  intro ps
  have wk : ∀ {Z Z' : Nat → Prop}, (∀ b, Z b → Z' b) → ∀ {ps : List (Bool × Nat × Ty)} {Bs : List (List Nat)} {xs : List Value} {x : DP ps}, ArgsR h Z ps Bs xs x → ArgsR h Z' ps Bs xs x := by
    intro Z Z' hz ps
    induction ps with
    | nil => intro Bs xs x hh; exact hh
    | cons p ps ih =>
      intro Bs xs x hh
      obtain ⟨B, Bs', v, vs', cs, e1, e2, o, e3, r⟩ := hh
      exact ⟨B, Bs', v, vs', cs, e1, e2, o.weaken hz, e3, ih r⟩
  induction ps with
  | nil =>
    intro vs xs q e s
    cases s with
    | nil =>
      simp only [argsD, Option.some.injEq] at e; subst e
      exact ⟨⟨rfl, rfl⟩, by simp [gOf], by simp [gOf]⟩
    | cons _ _ => simp [argsD] at e
  | cons p ps ih =>
    intro vs xs q e s
    obtain ⟨io, n, t⟩ := p
    cases s with
    | nil => simp [argsD] at e
    | cons s1 s2 =>
      rename_i v x vs xs
      cases n with
      | zero =>
        simp only [argsD] at e
        split at e
        · rename_i y z hy hz
          simp only [Option.some.injEq] at e; subst e
          obtain ⟨cs, o, ex⟩ := den0_slot hR hy s1
          obtain ⟨r1, r2, r3⟩ := ih hz s2
          refine ⟨⟨[], _, x, xs, cs, by simp [gOf], rfl, o.weaken (fun b hb => zd_mono (by intro k hk; simp [hk]) hb), ex, wk (fun b hb => zd_mono (by intro k hk; simp [hk]) hb) r1⟩, ?_, ?_⟩
          · simpa [gOf] using r2
          · simpa [gOf] using r3
        · cases e
      | succ m =>
        simp only [argsD] at e
        split at e
        · rename_i y z hy hz
          obtain ⟨cs, _, o, ex⟩ := denN_slot hR (Nat.succ_pos m) hy s1
          obtain ⟨r1, r2, r3⟩ := ih hz s2
          have hg : gOf R ((io, m + 1, t) :: ps) (v :: vs) = y.2 :: gOf R ps vs := by simp [gOf, hy]
          cases io with
          | true =>
            simp only [Option.some.injEq] at e; subst e
            refine ⟨⟨y.2.flatMap F, _, x, xs, cs, by rw [hg]; rfl, rfl, o.weaken (fun b hb => zd_mono (by simp) hb), ex, r1⟩, ?_, ?_⟩
            · rw [hg]; simp only [List.flatten_cons]
              refine (List.Perm.append_left _ r2).trans ?_
              rw [← List.append_assoc, ← List.append_assoc]
              exact List.Perm.append_right _ List.perm_append_comm
            · rw [hg]; intro r hr
              simp only [List.flatten_cons, List.mem_append] at hr
              rcases hr with hr | hr
              · exact denN_sub hy r hr
              · exact r3 r hr
          | false =>
            simp only [Option.some.injEq] at e; subst e
            refine ⟨⟨y.2.flatMap F, _, x, xs, cs, by rw [hg]; rfl, rfl, o.weaken (fun b hb => zd_mono (by simp) hb), ex, r1⟩, ?_, ?_⟩
            · rw [hg]; simp only [List.flatten_cons, List.append_assoc]
              exact List.Perm.append_left _ r2
            · rw [hg]; intro r hr
              simp only [List.flatten_cons, List.mem_append] at hr
              rcases hr with hr | hr
              · exact denN_sub hy r hr
              · exact r3 r hr
        · cases e
end
end Go.Proofs.YtjpeblicfhfniaaDoor.Eng
