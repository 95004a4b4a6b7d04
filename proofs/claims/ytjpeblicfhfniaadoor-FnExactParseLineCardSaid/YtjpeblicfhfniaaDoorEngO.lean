/- The engine, fifteenth part: calls. No condition. -/
import Derived.Test.YtjpeblicfhfniaaDoorEngN
namespace Go.Proofs.YtjpeblicfhfniaaDoor.Eng
open Go.RowKit
set_option linter.unusedVariables false
set_option linter.unusedSimpArgs false
/-! ### contracts -/
section
variable (h : Hp) (Z : Nat → Prop)
def ArgsR : (ps : List (Bool × Nat × Ty)) → List (List Nat) → List Value → DP ps → Prop
  | [], Bs, vs, _ => Bs = [] ∧ vs = []
  | p :: ps, Bs, vs, x => ∃ B Bs' v vs' cs, Bs = B :: Bs' ∧ vs = v :: vs' ∧ Own h Z p.2.2 p.2.1 B cs x.1 ∧ v = valOf p.2.2.agg cs ∧ ArgsR ps Bs' vs' x.2
def OutR : (ps : List (Bool × Nat × Ty)) → List (List Nat) → List Value → DP ps → Prop
  | [], Bs, vs, _ => Bs = [] ∧ vs = []
  | p :: ps, Bs, vs, x => ∃ B Bs' v vs', Bs = B :: Bs' ∧ vs = v :: vs' ∧ (match p.1, p.2.1 with | true, m + 1 => ∃ cs, Own h Z p.2.2 (m + 1) B cs x.1 ∧ v = valOf p.2.2.agg cs | _, _ => B = []) ∧ OutR ps Bs' vs' x.2
def RetL : (rs : List (Nat × Ty)) → List (List Nat) → List Value → DR rs → Prop
  | [], Bs, vs, _ => Bs = [] ∧ vs = []
  | p :: rs, Bs, vs, y => ∃ B Bs' v vs' cs, Bs = B :: Bs' ∧ vs = v :: vs' ∧ Own h Z p.2 p.1 B cs y.1 ∧ v = valOf p.2.agg cs ∧ RetL rs Bs' vs' y.2
def RetR (rs : List (Nat × Ty)) (Bs : List (List Nat)) (rv : Value) (y : DR rs) : Prop := ∃ vs, RetL h Z rs Bs vs y ∧ rv = (match vs with | [v] => v | vs => .tuple vs.toArray)
end
/-- What is behind a call. -/
def Behind (w : World) (Z : Nat → Prop) (c : Con) (Bs : List (List Nat)) (vals : List Value) (x : DP c.ps) (e : Ending) (w' : World) : Prop :=
  ∃ rv y x' Bs' Rs, e = .returned rv ∧ c.post x y x' ∧ Frm Bs.flatten w w' ∧ (Bs'.flatten ++ Rs.flatten).Nodup ∧
    (∀ b ∈ Bs'.flatten ++ Rs.flatten, b < w'.heap.size ∧ (b ∈ Bs.flatten ∨ w.heap.size ≤ b)) ∧
    OutR (hp w') (fun b => Z b ∨ ((b ∈ Bs.flatten ∨ w.heap.size ≤ b) ∧ b ∉ Bs'.flatten ++ Rs.flatten)) c.ps Bs' vals x' ∧
    RetR (hp w') (fun b => Z b ∨ ((b ∈ Bs.flatten ∨ w.heap.size ≤ b) ∧ b ∉ Bs'.flatten ++ Rs.flatten)) c.rs Rs rv y
def FnOK (P : Program) (f : FuncId) (c : Con) : Prop :=
  ∀ (w : World) (Z : Nat → Prop) (Bs : List (List Nat)) (vals : List Value) (x : DP c.ps), ArgsR (hp w) Z c.ps Bs vals x → Bs.flatten.Nodup → (∀ b ∈ Bs.flatten, b < w.heap.size ∧ ¬ Z b) → GOk (hp w) Z c.gl → c.pre x →
    Calls P f vals.toArray w (Behind w Z c Bs vals x)

section
variable {P : Program} {T : Tab} {Bb : Nat → Prop} {w0 : World} {O0 : List Nat} {av : List Value} {Γ Γ' : Ctx} {a : Act} {w w' : World} {β : Nat → Value} {F : Nat → List Nat} {K : Ctx → Prop} {o : Oper} {Q : Exit → Act → World → Prop}
theorem Own.deep {h : Hp} {Z Z' : Nat → Prop} : ∀ {t : Ty} {n : Nat} {B : List Nat} {cs : List Value} {x : t.den}, deepOk n t = true → Own h Z t n B cs x → Own h Z' t n B cs x
  | .unit, _, _, _, _, _, o => o
  | .int k, _, _, _, _, _, o => o
  | .bool, _, _, _, _, _, o => o
  | .str, _, _, _, _, _, o => o
  | .pair a b, n, _, _, _, hd, ⟨B1, B2, c1, c2, e1, e2, o1, o2⟩ => by
      have hd' : (deepOk n a && deepOk n b) = true := by cases n <;> exact hd
      simp only [Bool.and_eq_true] at hd'
      exact ⟨B1, B2, c1, c2, e1, e2, o1.deep hd'.1, o2.deep hd'.2⟩
  | .sl e, 0, _, _, _, hd, _ => by simp [deepOk] at hd
  | .sl e, n + 1, _, _, _, hd, ⟨A, c, e1, e2, e3, r⟩ => ⟨A, c, e1, e2, e3, by
      rcases r with r | ⟨b, o, arr, ty, Bs, ha, hh, hl, hB, hn, hr⟩
      · exact .inl r
      · exact .inr ⟨b, o, arr, ty, Bs, ha, hh, hl, hB, hn, fun i x Bi h1 h2 => (hr i x Bi h1 h2).deep hd⟩⟩
  | .any, _, _, _, _, _, o => o
  | .inil, _, _, _, _, _, o => o
  | .arr m e, n, _, _, _, hd, ⟨e0, e1, e2, r⟩ =>
      have he : e.hasSl = false := by
        have hd' : (!e.hasSl) = true := by cases n <;> exact hd
        simpa using hd'
      ⟨e0, e1, e2, fun i x hi => ((r i x hi).flat (m := 0) he).2 h Z'⟩
  | .mp _ _, _, _, _, none, _, o => o
  | .mp k v, 0, _, _, some _, hd, _ => by simp [deepOk] at hd
  | .mp k v, n + 1, _, _, some _, hd, ⟨b, es, cl, e1, e2, e3, r⟩ => by
      have hd' : (!k.hasSl && !v.hasSl) = true := hd
      simp only [Bool.and_eq_true, Bool.not_eq_true'] at hd'
      exact ⟨b, es, cl, e1, e2, e3, r.imp (fun c x o => (Own.flat (m := 0) hd'.1 o).2 _ _) (fun c x o => (Own.flat (m := 0) hd'.2 o).2 _ _)⟩
  | .ptr _, _, _, _, none, _, o => o
  | .ptr e, 0, _, _, some _, hd, o => by simp [deepOk] at hd
  | .ptr e, n + 1, _, _, some _, hd, ⟨b, cs', ty, B', e1, e2, e3, r⟩ => ⟨b, cs', ty, B', e1, e2, e3, r.deep hd⟩
  | .ialt _ a r, n, _, _, .inl _, hd, ⟨cs', e1, o⟩ => by
      have hd' : (deepOk n a && deepOk n r) = true := by cases n <;> exact hd
      simp only [Bool.and_eq_true] at hd'
      exact ⟨cs', e1, o.deep hd'.1⟩
  | .ialt _ a r', n, _, _, .inr _, hd, o => by
      have hd' : (deepOk n a && deepOk n r') = true := by cases n <;> exact hd
      simp only [Bool.and_eq_true] at hd'
      rcases o with o | ⟨e1, o⟩
      · exact .inl o
      · exact .inr ⟨e1, o.deep hd'.2⟩
theorem denN_pv {R : List (Nat × Ch)} {n : Nat} {t u : Ty} {d : List Nat} {x : u.den} : denN R n t (.pv d u x) = if t.hasSl then none else (as t ⟨u, x⟩).map fun y => (y, []) := by cases t <;> cases n <;> rfl
theorem denN_ifs {R : List (Nat × Ch)} {n : Nat} {t u : TypeId} {a r b : Ty} {v : SV} : denN R n (.ialt t a r) (.ifs u b v) = if u = t ∧ b = a ∧ v.isAgg = a.agg then (denN R n a v).map fun y => (.inl y.1, y.2) else if isI r then (denN R n r (.ifs u b v)).map fun y => (.inr y.1, y.2) else none := by cases n <;> rfl
theorem denN_pair {R : List (Nat × Ch)} {n : Nat} {a b : Ty} {x y : SV} : denN R n (.pair a b) (.consA x y) = match denN R n a x, denN R n b y with
    | some p, some q => some ((p.1, q.1), p.2 ++ q.2)
    | _, _ => none := by cases n <;> rfl
theorem denN_ref {R : List (Nat × Ch)} {n : Nat} {e : Ty} {r : Nat} : denN R n (.sl e) (.ref r) = match look r R with
    | some (.row m f xs) => if m + 1 = n then (as (.sl e) ⟨.sl f, xs⟩).map fun y => (y, [r]) else none
    | _ => none := by cases n <;> rfl
/-- How a state is data: the shapes, one by one. -/
inductive DenC (R : List (Nat × Ch)) : (n : Nat) → (t : Ty) → SV → t.den × List Nat → Prop where
  | pv {n t d} (x : t.den) (h : t.hasSl = false) : DenC R n t (.pv d t x) (x, [])
  | nils {n e} : DenC R n (.sl e) .nils ([], [])
  | ref {n e r} {xs : List e.den} (h : look r R = some (.row n e xs)) : DenC R (n + 1) (.sl e) (.ref r) (xs, [r])
  | unit {n} : DenC R n .unit .nilA ((), [])
  | pair {n a b x y p q} (h1 : denN R n a x = some p) (h2 : denN R n b y = some q) (k1 : DenC R n a x p) (k2 : DenC R n b y q) : DenC R n (.pair a b) (.consA x y) ((p.1, q.1), p.2 ++ q.2)
  | any {n} : DenC R n .any .nilI (Value.nilIface, [])
  | inil {n} : DenC R n .inil .nilI ((), [])
  | inon {n t a r} : DenC R n (.ialt t a r) .nilI (.inr r.zero, [])
  | hit {n t a r v y} (h1 : denN R n a v = some y) (k : DenC R n a v y) : DenC R n (.ialt t a r) (.ifs t a v) (.inl y.1, y.2)
  | miss {n t a r u b v y} (h1 : denN R n r (.ifs u b v) = some y) (k : DenC R n r (.ifs u b v) y) : DenC R n (.ialt t a r) (.ifs u b v) (.inr y.1, y.2)
  | nilP {n e} : DenC R n (.ptr e) .nilP (none, [])
  | ad {n e r v y} (h : look r R = some (.box v)) (h1 : denN R n e v = some y) (k : DenC R n e v y) : DenC R (n + 1) (.ptr e) (.ad r e 0 []) (some y.1, r :: y.2)
  | nilM {n k v} : DenC R n (.mp k v) .nilM (none, [])
  | mp {n k v r} {xs : List (k.den × v.den)} (h : look r R = some (.mp k v xs)) : DenC R (n + 1) (.mp k v) (.ref r) (some xs, [r])
theorem denN_c {R : List (Nat × Ch)} : ∀ {t : Ty} {n : Nat} {v : SV} {y : t.den × List Nat}, denN R n t v = some y → DenC R n t v y := by
  have pv : ∀ {t u : Ty} {n : Nat} {d : List Nat} {x : u.den} {y : t.den × List Nat}, denN R n t (.pv d u x) = some y → DenC R n t (.pv d u x) y := by
    intro t u n d x y e
    rw [denN_pv] at e
    split at e
    · cases e
    · rename_i hs
      simp only [Option.map_eq_some_iff] at e
      obtain ⟨z, e, rfl⟩ := e
      have e' := as_some e
      simp only [Sigma.mk.injEq] at e'
      obtain ⟨rfl, e'⟩ := e'
      have e'' := eq_of_heq e'; subst e''
      exact .pv _ (by simpa using hs)
  intro t
  induction t with
  | unit => intro n v y e; cases v <;> first | exact pv e | (cases n <;> simp only [denN, reduceCtorEq, Option.some.injEq] at e <;> subst e <;> exact .unit)
  | int k => intro n v y e; cases v <;> first | exact pv e | (cases n <;> simp [denN] at e)
  | bool => intro n v y e; cases v <;> first | exact pv e | (cases n <;> simp [denN] at e)
  | str => intro n v y e; cases v <;> first | exact pv e | (cases n <;> simp [denN] at e)
  | arr m e' _ => intro n v y e; cases v <;> first | exact pv e | (cases n <;> simp [denN] at e)
  | any => intro n v y e; cases v <;> first | exact pv e | (cases n <;> simp only [denN, reduceCtorEq, Option.some.injEq] at e <;> subst e <;> exact .any)
  | inil => intro n v y e; cases v <;> first | exact pv e | (cases n <;> simp only [denN, reduceCtorEq, Option.some.injEq] at e <;> subst e <;> exact .inil)
  | pair a b iha ihb =>
    intro n v y e
    cases v with
    | pv d u x => exact pv e
    | consA v1 v2 =>
      rw [denN_pair] at e
      split at e
      · rename_i p q hp hq
        simp only [Option.some.injEq] at e; subst e
        exact .pair hp hq (iha hp) (ihb hq)
      · cases e
    | _ => cases n <;> simp [denN] at e
  | sl e' ih =>
    intro n v y e
    cases v with
    | pv d u x => exact pv e
    | nils => have e' : some (([] : List e'.den), ([] : List Nat)) = some y := by cases n <;> exact e
              simp only [Option.some.injEq] at e'; subst e'; exact .nils
    | ref r =>
      rw [denN_ref] at e
      split at e
      · rename_i m f xs hr
        split at e
        · rename_i hm
          subst hm
          simp only [Option.map_eq_some_iff] at e
          obtain ⟨z, e, rfl⟩ := e
          have e2 := as_some e
          simp only [Sigma.mk.injEq, Ty.sl.injEq] at e2
          obtain ⟨rfl, e3⟩ := e2
          have e4 := eq_of_heq e3; subst e4
          exact .ref hr
        · cases e
      · cases e
    | _ => cases n <;> simp [denN] at e
  | mp k v' _ _ =>
    intro n v y e
    cases v with
    | pv d u x => exact pv e
    | nilM => have e' : some ((none : Option (List (k.den × v'.den))), ([] : List Nat)) = some y := by cases n <;> exact e
              simp only [Option.some.injEq] at e'; subst e'; exact .nilM
    | ref r =>
      cases n with
      | zero => simp [denN] at e
      | succ n =>
        simp only [denN] at e
        split at e
        · rename_i k' v'' xs hr
          simp only [Option.map_eq_some_iff] at e
          obtain ⟨z, e, rfl⟩ := e
          have e2 := as_some e
          simp only [Sigma.mk.injEq, Ty.mp.injEq] at e2
          obtain ⟨⟨rfl, rfl⟩, e3⟩ := e2
          have e4 := eq_of_heq e3; subst e4
          exact .mp hr
        · cases e
    | _ => cases n <;> simp [denN] at e
  | ptr e' ih =>
    intro n v y e
    cases v with
    | pv d u x => exact pv e
    | nilP => have e'' : some ((none : Option e'.den), ([] : List Nat)) = some y := by cases n <;> exact e
              simp only [Option.some.injEq] at e''; subst e''; exact .nilP
    | ad r f i p =>
      cases n with
      | zero => simp [denN] at e
      | succ n =>
        cases p with
        | cons _ _ => simp [denN] at e
        | nil =>
          simp only [denN] at e
          split at e
          · rename_i v' hr
            split at e
            · rename_i hc
              obtain ⟨rfl, rfl⟩ := hc
              simp only [Option.map_eq_some_iff] at e
              obtain ⟨z, e, rfl⟩ := e
              exact .ad hr e (ih e)
            · cases e
          · cases e
    | _ => cases n <;> simp [denN] at e
  | ialt u a r iha ihr =>
    intro n v y e
    cases v with
    | pv d u x => exact pv e
    | nilI => have e'' : some ((.inr r.zero : a.den ⊕ r.den), ([] : List Nat)) = some y := by cases n <;> exact e
              simp only [Option.some.injEq] at e''; subst e''; exact .inon
    | ifs u' b' v' =>
      rw [denN_ifs] at e
      split at e
      · rename_i hc
        obtain ⟨rfl, rfl, _⟩ := hc
        simp only [Option.map_eq_some_iff] at e
        obtain ⟨z, e, rfl⟩ := e
        exact .hit e (iha e)
      · split at e
        · simp only [Option.map_eq_some_iff] at e
          obtain ⟨z, e, rfl⟩ := e
          exact .miss e (ihr e)
        · cases e
    | _ => cases n <;> simp [denN] at e
theorem denN_sub {R : List (Nat × Ch)} {n : Nat} {t : Ty} {v : SV} {y : t.den × List Nat} (e : denN R n t v = some y) : ∀ r ∈ y.2, r ∈ R.map (·.1) := by
  have c := denN_c e
  clear e
  induction c with
  | ref h => intro q hq; simp only [List.mem_singleton] at hq; subst hq; exact List.mem_map.2 ⟨_, look_mem h, rfl⟩
  | mp h => intro q hq; simp only [List.mem_singleton] at hq; subst hq; exact List.mem_map.2 ⟨_, look_mem h, rfl⟩
  | pair _ _ _ _ i1 i2 =>
    intro q hq
    rcases List.mem_append.1 hq with hq | hq
    · exact i1 q hq
    · exact i2 q hq
  | hit _ _ i => exact i
  | miss _ _ i => exact i
  | ad h _ _ i =>
    intro q hq
    rcases List.mem_cons.1 hq with rfl | hq
    · exact List.mem_map.2 ⟨_, look_mem h, rfl⟩
    · exact i q hq
  | _ => intro q hq; cases hq
theorem denN_ok {R : List (Nat × Ch)} {h : Hp} (hR : ∀ r c, (r, c) ∈ R → RootR h (ZdOf Bb F R) β (F r) r c) {n : Nat} {t : Ty} {v : SV} {y : t.den × List Nat} {cs : List Value} (e : denN R n t v = some y) (o : SVc h (ZdOf Bb F R) β v cs) :
    Own h (ZdOf Bb F R []) t n (y.2.flatMap F) cs y.1 ∧ v.isAgg = t.agg := by
  have c := denN_c e
  clear e
  induction c generalizing cs with
  | pv x hs => exact ⟨(Own.flat (m := _) hs (show Own h (ZdOf Bb F R _) _ 0 [] cs x from o)).2 _ _, rfl⟩
  | nils =>
    have o' : cs = [.slice none 0 0] := o
    subst o'
    exact ⟨Own.nil _ _, rfl⟩
  | ref hr =>
    have o' : cs = [β _] := o
    subst o'
    have hrow : Own h (ZdOf Bb F R []) (.sl _) (_ + 1) (F _) [β _] _ := hR _ _ (look_mem hr)
    refine ⟨?_, rfl⟩
    rw [List.flatMap_cons, List.flatMap_nil, List.append_nil]; exact hrow
  | unit => exact ⟨⟨rfl, o⟩, rfl⟩
  | pair _ _ _ _ i1 i2 =>
    obtain ⟨c1, c2, rfl, o1, o2⟩ := o
    exact ⟨⟨_, _, c1, c2, List.flatMap_append, rfl, (i1 o1).1, (i2 o2).1⟩, rfl⟩
  | any => have o' : cs = [.nilIface] := o
           subst o'; exact ⟨⟨rfl, rfl, rfl⟩, rfl⟩
  | inil => exact ⟨⟨rfl, o⟩, rfl⟩
  | inon => exact ⟨.inl ⟨rfl, o, rfl⟩, rfl⟩
  | hit _ _ i => obtain ⟨cs', rfl, o'⟩ := o; exact ⟨⟨cs', rfl, (i o').1⟩, rfl⟩
  | miss _ _ i => obtain ⟨cs', rfl, o'⟩ := o; exact ⟨.inr ⟨rfl, (i ⟨cs', rfl, o'⟩).1⟩, rfl⟩
  | nilP => exact ⟨⟨rfl, o⟩, rfl⟩
  | ad hr _ _ i =>
    obtain ⟨b, cs', ty, q1, q2, q3, q4⟩ := hR _ _ (look_mem hr)
    obtain ⟨b2, o2, q5, rfl⟩ := o
    rw [q1] at q5
    simp only [baseA, Option.some.injEq, Prod.mk.injEq] at q5
    obtain ⟨rfl, rfl⟩ := q5
    exact ⟨⟨b, cs', ty, _, by simp [offAt_nil], by rw [List.flatMap_cons, q2]; rfl, q3, (i q4).1⟩, rfl⟩
  | nilM => exact ⟨⟨rfl, o⟩, rfl⟩
  | mp hr =>
    have o' : cs = [β _] := o
    subst o'
    have hrow : Own h (ZdOf Bb F R []) (.mp _ _) 1 (F _) [β _] (some _) := hR _ _ (look_mem hr)
    obtain ⟨b, es, cl, e1, e2, e3, r⟩ := hrow
    exact ⟨⟨b, es, cl, e1, e2, by simpa using e3, r⟩, rfl⟩
theorem denN_slot {R : List (Nat × Ch)} {h : Hp} (hR : ∀ r c, (r, c) ∈ R → RootR h (ZdOf Bb F R) β (F r) r c) {n : Nat} {t : Ty} {v : SV} {y : t.den × List Nat} {x : Value} (e : denN R n t v = some y) (s : SlotR h (ZdOf Bb F R) β v x) :
    ∃ cs, SVc h (ZdOf Bb F R) β v cs ∧ Own h (ZdOf Bb F R []) t n (y.2.flatMap F) cs y.1 ∧ x = valOf t.agg cs := by
  have c := denN_c e
  have ht : v.tup = false := by cases c <;> rfl
  have hh : ∀ m, v ≠ .hole m := by rintro m rfl; cases c
  obtain ⟨cs, h1, h2⟩ := slot_one s ht hh
  obtain ⟨h3, h4⟩ := denN_ok hR e h1
  exact ⟨cs, h1, h3, by rw [h2, h4]⟩
/-- the roots that each parameter hands over -/
def gOf (R : List (Nat × Ch)) : (ps : List (Bool × Nat × Ty)) → List SV → List (List Nat)
  | (_, n, t) :: ps, v :: vs => (match n with | 0 => [] | m + 1 => ((denN R (m + 1) t v).map (·.2)).getD []) :: gOf R ps vs
  | _, _ => []
inductive SlotsR (h : Hp) (Zd : List Nat → Nat → Prop) (β : Nat → Value) : List SV → List Value → Prop where
  | nil : SlotsR h Zd β [] []
  | cons {v : SV} {x : Value} {vs : List SV} {xs : List Value} : SlotR h Zd β v x → SlotsR h Zd β vs xs → SlotsR h Zd β (v :: vs) (x :: xs)
theorem args_ok {R : List (Nat × Ch)} {h : Hp} (hR : ∀ r c, (r, c) ∈ R → RootR h (ZdOf Bb F R) β (F r) r c) : ∀ {ps : List (Bool × Nat × Ty)} {vs : List SV} {xs : List Value} {q : DP ps × List Nat × List Nat × List Nat}, argsD R ps vs = some q → SlotsR h (ZdOf Bb F R) β vs xs →
    ArgsR h (ZdOf Bb F R q.2.1) ps ((gOf R ps vs).map (·.flatMap F)) xs q.1 ∧ (gOf R ps vs).flatten.Perm (q.2.2.1 ++ q.2.2.2) ∧ (∀ r ∈ (gOf R ps vs).flatten, r ∈ R.map (·.1)) := by
  intro ps
  have wk : ∀ {Z Z' : Nat → Prop}, (∀ b, Z b → Z' b) → ∀ {ps : List (Bool × Nat × Ty)} {Bs : List (List Nat)} {xs : List Value} {x : DP ps}, ArgsR h Z ps Bs xs x → ArgsR h Z' ps Bs xs x := by
    intro Z Z' hz ps
    induction ps with
    | nil => intro Bs xs x hh; exact hh
    | cons p ps ih =>
      intro Bs xs x hh
      obtain ⟨B, Bs', v, vs', cs, e1, e2, o, e3, r⟩ := hh
      exact ⟨B, Bs', v, vs', cs, e1, e2, o.weaken hz, e3, ih r⟩
  induction ps with
  | nil =>
    intro vs xs q e s
    cases s with
    | nil =>
      simp only [argsD, Option.some.injEq] at e; subst e
      exact ⟨⟨rfl, rfl⟩, by simp [gOf], by simp [gOf]⟩
    | cons _ _ => simp [argsD] at e
  | cons p ps ih =>
    intro vs xs q e s
    obtain ⟨io, n, t⟩ := p
    cases s with
    | nil => simp [argsD] at e
    | cons s1 s2 =>
      rename_i v x vs xs
      cases n with
      | zero =>
        simp only [argsD] at e
        split at e
        · rename_i y z hy hz
          simp only [Option.some.injEq] at e; subst e
          obtain ⟨cs, o, ex⟩ := den0_slot hR hy s1
          obtain ⟨r1, r2, r3⟩ := ih hz s2
          refine ⟨⟨[], _, x, xs, cs, by simp [gOf], rfl, o.weaken (fun b hb => zd_mono (by intro k hk; simp [hk]) hb), ex, wk (fun b hb => zd_mono (by intro k hk; simp [hk]) hb) r1⟩, ?_, ?_⟩
          · simpa [gOf] using r2
          · simpa [gOf] using r3
        · cases e
      | succ m =>
        simp only [argsD] at e
        split at e
        · rename_i y z hy hz
          obtain ⟨cs, _, o, ex⟩ := denN_slot hR hy s1
          obtain ⟨r1, r2, r3⟩ := ih hz s2
          have hg : gOf R ((io, m + 1, t) :: ps) (v :: vs) = y.2 :: gOf R ps vs := by simp [gOf, hy]
          cases io with
          | true =>
            simp only [Option.some.injEq] at e; subst e
            refine ⟨⟨y.2.flatMap F, _, x, xs, cs, by rw [hg]; rfl, rfl, o.weaken (fun b hb => zd_mono (by simp) hb), ex, r1⟩, ?_, ?_⟩
            · rw [hg]; simp only [List.flatten_cons]
              refine (List.Perm.append_left _ r2).trans ?_
              rw [← List.append_assoc, ← List.append_assoc]
              exact List.Perm.append_right _ List.perm_append_comm
            · rw [hg]; intro r hr
              simp only [List.flatten_cons, List.mem_append] at hr
              rcases hr with hr | hr
              · exact denN_sub hy r hr
              · exact r3 r hr
          | false =>
            simp only [Option.some.injEq] at e; subst e
            refine ⟨⟨y.2.flatMap F, _, x, xs, cs, by rw [hg]; rfl, rfl, o.weaken (fun b hb => zd_mono (by simp) hb), ex, r1⟩, ?_, ?_⟩
            · rw [hg]; simp only [List.flatten_cons, List.append_assoc]
              exact List.Perm.append_left _ r2
            · rw [hg]; intro r hr
              simp only [List.flatten_cons, List.mem_append] at hr
              rcases hr with hr | hr
              · exact denN_sub hy r hr
              · exact r3 r hr
        · cases e
end
end Go.Proofs.YtjpeblicfhfniaaDoor.Eng
