/- The engine, ninth part: stores. No condition. -/
import Derived.Test.YtjpeblicfhfniaaDoorEngH
namespace Go.Proofs.YtjpeblicfhfniaaDoor.Eng
open Go.RowKit
set_option linter.unusedVariables false
set_option linter.unusedSimpArgs false
section
variable {P : Program} {T : Tab} {Bb : Nat → Prop} {w0 : World} {O0 : List Nat} {av : List Value} {Γ Γ' : Ctx} {a : Act} {w w' : World} {β : Nat → Value} {F : Nat → List Nat} {K : Ctx → Prop} {o : Oper} {Q : Exit → Act → World → Prop}
theorem zd_mono {R : List (Nat × Ch)} {d d' : List Nat} (h : ∀ r ∈ d, r ∈ d') {b : Nat} (z : ZdOf Bb F R d b) : ZdOf Bb F R d' b :=
  z.imp id fun ⟨r, h1, h2⟩ => ⟨r, h r h1, h2⟩
theorem cells_valOf {cs : List Value} {g : Bool} (h : g = false → ∃ x, cs = [x] ∧ one x = true) : (valOf g cs).cells.toList = cs := by
  cases g with
  | true => simp [valOf, Value.cells]
  | false => obtain ⟨x, rfl, h1⟩ := h rfl; cases x <;> simp [valOf, Value.cells, one] at h1 ⊢
/-- The data of a state. -/
theorem den0_ok {R : List (Nat × Ch)} {h : Hp} (hR : ∀ r c, (r, c) ∈ R → RootR h (ZdOf Bb F R) β (F r) r c) : ∀ {t : Ty} {v : SV} {y : t.den × List Nat} {cs : List Value}, den0 R t v = some y → SVc h (ZdOf Bb F R) β v cs →
    Own h (ZdOf Bb F R y.2) t 0 [] cs y.1 ∧ v.isAgg = t.agg := by
  have pv : ∀ {t u : Ty} {d : List Nat} {x : u.den} {y : t.den × List Nat} {cs : List Value}, (as t ⟨u, x⟩).map (fun y => (y, d)) = some y → SVc h (ZdOf Bb F R) β (.pv d u x) cs → Own h (ZdOf Bb F R y.2) t 0 [] cs y.1 ∧ (SV.pv d u x).isAgg = t.agg := by
    intro t u d x y cs e o
    simp only [Option.map_eq_some_iff] at e
    obtain ⟨z, e, rfl⟩ := e
    have e' := as_some e
    simp only [Sigma.mk.injEq] at e'
    obtain ⟨rfl, e'⟩ := e'
    have e'' := eq_of_heq e'; subst e''
    exact ⟨o, rfl⟩
  intro t
  induction t with
  | unit =>
    intro v y cs e o
    cases v <;> simp only [den0, reduceCtorEq, Option.some.injEq] at e
    · exact pv e o
    · subst e; exact ⟨⟨rfl, o⟩, rfl⟩
  | int k => intro v y cs e o; cases v <;> simp only [den0, reduceCtorEq] at e; exact pv e o
  | bool => intro v y cs e o; cases v <;> simp only [den0, reduceCtorEq] at e; exact pv e o
  | str => intro v y cs e o; cases v <;> simp only [den0, reduceCtorEq] at e; exact pv e o
  | pair a b iha ihb =>
    intro v y cs e o
    cases v <;> simp only [den0, reduceCtorEq] at e
    · exact pv e o
    · rename_i v1 v2
      split at e
      · rename_i p q hp hq
        simp only [Option.some.injEq] at e; subst e
        obtain ⟨c1, c2, rfl, o1, o2⟩ := o
        obtain ⟨q1, _⟩ := iha hp o1
        obtain ⟨q2, _⟩ := ihb hq o2
        exact ⟨⟨[], [], c1, c2, rfl, rfl, q1.weaken (fun b hz => zd_mono (fun r hr => by simp [hr]) hz), q2.weaken (fun b hz => zd_mono (fun r hr => by simp [hr]) hz)⟩, rfl⟩
      · cases e
  | sl e' ih =>
    intro v y cs e o
    cases v <;> simp only [den0, reduceCtorEq, Option.some.injEq] at e
    · exact pv e o
    · subst e
      have o' : cs = [.slice none 0 0] := o
      subst o'
      exact ⟨Own.nil e' 0, rfl⟩
    · rename_i r
      split at e
      · rename_i lvl f xs hr
        simp only [Option.map_eq_some_iff] at e
        obtain ⟨z, e, rfl⟩ := e
        have e2 := as_some e
        simp only [Sigma.mk.injEq, Ty.sl.injEq] at e2
        obtain ⟨rfl, e3⟩ := e2
        have e4 := eq_of_heq e3; subst e4
        have o' : cs = [β r] := o
        subst o'
        have hrow : Own h (ZdOf Bb F R []) (.sl f) (lvl + 1) (F r) [β r] xs := hR r _ (look_mem hr)
        refine ⟨Own.freeze (Z := ZdOf Bb F R []) (Z' := ZdOf Bb F R [r]) (fun b hz => zd_mono (by simp) hz) (fun b hb => .inr ⟨r, by simp, List.mem_map.2 ⟨_, look_mem hr, rfl⟩, hb⟩) hrow, rfl⟩
      · cases e
  | any =>
    intro v y cs e o
    cases v <;> simp only [den0, reduceCtorEq, Option.some.injEq] at e
    · exact pv e o
    · subst e; exact ⟨⟨rfl, o, rfl⟩, rfl⟩
  | arr n e' ih => intro v y cs e o; cases v <;> simp only [den0, reduceCtorEq] at e; exact pv e o
  | inil =>
    intro v y cs e o
    cases v <;> simp only [den0, reduceCtorEq, Option.some.injEq] at e
    · exact pv e o
    · subst e; exact ⟨⟨rfl, o⟩, rfl⟩
  | mp k v' ihk ihv =>
    intro v y cs e o
    cases v <;> simp only [den0, reduceCtorEq, Option.some.injEq] at e
    · exact pv e o
    · rename_i r
      split at e
      · rename_i k' v'' xs hr
        simp only [Option.map_eq_some_iff] at e
        obtain ⟨z, e, rfl⟩ := e
        have e2 := as_some e
        simp only [Sigma.mk.injEq, Ty.mp.injEq] at e2
        obtain ⟨⟨rfl, rfl⟩, e3⟩ := e2
        have e4 := eq_of_heq e3; subst e4
        have o' : cs = [β r] := o
        subst o'
        have hrow : Own h (ZdOf Bb F R []) (.mp k' v'') 1 (F r) [β r] (some xs) := hR r _ (look_mem hr)
        refine ⟨Own.freeze (Z := ZdOf Bb F R []) (Z' := ZdOf Bb F R [r]) (fun b hz => zd_mono (by simp) hz) (fun b hb => .inr ⟨r, by simp, List.mem_map.2 ⟨_, look_mem hr, rfl⟩, hb⟩) hrow, rfl⟩
      · cases e
    · subst e; exact ⟨⟨rfl, o⟩, rfl⟩
  | ptr e' ih =>
    intro v y cs e o
    cases v with
    | pv d u x => simp only [den0] at e; exact pv e o
    | nilP => simp only [den0, Option.some.injEq] at e; subst e; exact ⟨⟨rfl, o⟩, rfl⟩
    | ad r f i p =>
      cases p with
      | cons _ _ => simp [den0] at e
      | nil =>
        simp only [den0] at e
        split at e
        · rename_i v' hr
          split at e
          · rename_i hc
            obtain ⟨rfl, rfl⟩ := hc
            simp only [Option.map_eq_some_iff] at e
            obtain ⟨z, e, rfl⟩ := e
            obtain ⟨b, cs', ty, q1, q2, q3, q4⟩ := hR r _ (look_mem hr)
            obtain ⟨b2, o2, q5, rfl⟩ := o
            rw [q1] at q5
            simp only [baseA, Option.some.injEq, Prod.mk.injEq] at q5
            obtain ⟨rfl, rfl⟩ := q5
            obtain ⟨q6, _⟩ := ih e q4
            have hl := q6.len
            refine ⟨⟨rfl, b, 0, cs'.toArray, ty, (0, 0), by simp [offAt_nil], .inr ⟨r, by simp, List.mem_map.2 ⟨_, look_mem hr, rfl⟩, by rw [q2]; simp⟩, q3, by simp [hl], ?_⟩, rfl⟩
            have : seg cs'.toArray.toList 0 f.sz = cs' := by unfold seg; simp [← hl]
            rw [this]
            exact q6.weaken (fun b hz => zd_mono (fun r hr => by simp [hr]) hz)
          · cases e
        · cases e
    | _ => simp [den0] at e
  | ialt u a r iha ihr =>
    intro v y cs e o
    cases v <;> simp only [den0, reduceCtorEq, Option.some.injEq] at e
    · exact pv e o
    · subst e; exact ⟨.inl ⟨rfl, o, rfl⟩, rfl⟩
    · rename_i u' b' v'
      obtain ⟨cs', rfl, o'⟩ := o
      split at e
      · rename_i hc
        obtain ⟨rfl, rfl, _⟩ := hc
        simp only [Option.map_eq_some_iff] at e
        obtain ⟨z, e, rfl⟩ := e
        exact ⟨⟨cs', rfl, (iha e o').1⟩, rfl⟩
      · split at e
        · simp only [Option.map_eq_some_iff] at e
          obtain ⟨z, e, rfl⟩ := e
          exact ⟨.inr ⟨rfl, (ihr (v := .ifs u' b' v') e ⟨cs', rfl, o'⟩).1⟩, rfl⟩
        · cases e
theorem den0_slot {R : List (Nat × Ch)} {h : Hp} (hR : ∀ r c, (r, c) ∈ R → RootR h (ZdOf Bb F R) β (F r) r c) {t : Ty} {v : SV} {y : t.den × List Nat} {x : Value} (e : den0 R t v = some y) (s : SlotR h (ZdOf Bb F R) β v x) :
    ∃ cs, Own h (ZdOf Bb F R y.2) t 0 [] cs y.1 ∧ x = valOf t.agg cs := by
  have ht : v.tup = false := by cases v <;> cases t <;> first | rfl | (simp [den0] at e)
  have hh : ∀ n, v ≠ .hole n := by rintro n rfl; cases t <;> simp [den0] at e
  obtain ⟨cs, h1, h2⟩ := slot_one s ht hh
  obtain ⟨h3, h4⟩ := den0_ok hR e h1
  exact ⟨cs, h3, by rw [h2, h4]⟩
theorem own_agg {h : Hp} {Z : Nat → Prop} {t : Ty} {n : Nat} {B : List Nat} {cs : List Value} {x : t.den} (o : Own h Z t n B cs x) : t.agg = false → ∃ v, cs = [v] ∧ one v = true := by
  intro ha
  have hl := o.len
  have h1 := o.one
  have hs : t.sz = 1 := by cases t <;> first | rfl | cases ha
  rw [hs] at hl
  match cs, hl, h1 with
  | [v], _, h1 => exact ⟨v, rfl, h1 v (by simp)⟩
theorem run_storeAt {τ : Ty} {t : TypeId} (ht : TyOk P τ t) {b o : Nat} {arr : Array Value} {ty : TypeId} {cs : List Value} {v : Value} (hb : w.heap[b]? = some (.cells arr ty (0, 0))) (hv : v.cells.toList = cs) (hl : cs.length = τ.sz) (h1 : ∀ x ∈ cs, one x = true) (h : o + τ.sz ≤ arr.size) :
    (do Instr.storeAt t (.pointer (some ⟨b, o, none⟩)) v; pure Next.skip : Sem Next).run P w = .ok .skip (upd w b (.cells (splice arr.toList o cs).toArray ty (0, 0))) := by
  have e : (Instr.storeAt t (.pointer (some ⟨b, o, none⟩)) v).run P w = .ok () (upd w b (.cells (splice arr.toList o cs).toArray ty (0, 0))) := by
    unfold Instr.storeAt
    show (Sem.bind _ _).run P w = _
    rw [run_bind_ok (s := Instr.sureAddr _) (x := (⟨b, o, none⟩ : Addr)) rfl]
    unfold storeVar
    show (Sem.bind _ _).run P w = _
    rw [run_bind_ok (run_size ht.info)]
    have hs : v.cells.size = τ.sz := by rw [← Array.length_toList, hv, hl]
    simp only [hs, ne_eq, not_true_eq_false, if_false]
    rw [hv]
    exact run_storeCells cs o 0 arr w hb h1 (by omega)
  show (Sem.bind _ _).run P w = _
  rw [run_bind_ok e]; rfl
/-- One root's content is changed, in its own blocks. -/
theorem Sim.setRoot {r : Nat} {c0 c : Ch} {F' : Nat → List Nat} {β' : Nat → Value} {R : Nat → Prop} (S : Sim Bb w0 O0 av Γ a w β F) (fit : FitG (fun d => mem r d = false) R Γ) (hR : ∀ q, R q → β' q = β q) (hβ : ∀ q, q ≠ r → β' q = β q) (hone : ∀ q, one (β' q) = true) (hr : (r, c0) ∈ Γ.roots)
    (hw : ∀ q, q < w.heap.size → q ∉ F r → hp w' q = hp w q) (hsz : w.heap.size ≤ w'.heap.size) (hos : w'.os = w.os) (htp : w'.tape = w.tape) (hou : w'.output = w.output)
    (hF : ∀ q, q ≠ r → F' q = F q) (hF' : (F' r).Nodup ∧ ∀ b ∈ F' r, b < w'.heap.size ∧ (b ∈ F r ∨ w.heap.size ≤ b))
    (hc : RootR (hp w') (ZdOf Bb F' Γ.roots) β' (F' r) r c) : Sim Bb w0 O0 av (Γ.set r c) a w' β' F' := by
  have hin : r ∈ Γ.roots.map (·.1) := List.mem_map.2 ⟨_, hr, rfl⟩
  have hids : (putL r c Γ.roots).map (·.1) = Γ.roots.map (·.1) := putL_ids hin
  have hlt : ∀ {q b}, q ∈ Γ.roots.map (·.1) → b ∈ F q → b < w.heap.size := fun hq hb => (S.own _ (mem_allO.2 ⟨_, hq, hb⟩)).1
  have hnew : ∀ b ∈ F' r, ∀ q ∈ Γ.roots.map (·.1), q ≠ r → b ∉ F q := by
    intro b hb q hq hne hbq
    rcases (hF'.2 b hb).2 with h1 | h1
    · exact hne (disj S.ids S.nodup hq hin hbq h1)
    · have := hlt hq hbq; omega
  have hz : ∀ d, mem r d = false → ∀ b, ZdOf Bb F Γ.roots d b → (hp w b).isSome → hp w' b = hp w b ∧ ZdOf Bb F' Γ.roots d b := by
    intro d hd b hzb hs
    have hblt : b < w.heap.size := by
      rcases Nat.lt_or_ge b w.heap.size with h | h
      · exact h
      · simp [hp, Array.getElem?_eq_none h] at hs
    have hnr : b ∉ F r := by
      intro hbr
      rcases hzb with h | ⟨q, hq, hqm, hbq⟩
      · exact h.1 (mem_allO.2 ⟨r, hin, hbr⟩)
      · have := disj S.ids S.nodup hqm hin hbq hbr
        subst this; exact mem_false hd hq
    have hnr' : b ∉ F' r := by
      intro hbr
      rcases (hF'.2 b hbr).2 with h1 | h1
      · exact hnr h1
      · omega
    refine ⟨hw b hblt hnr, ?_⟩
    rcases hzb with h | ⟨q, hq, hqm, hbq⟩
    · refine .inl ⟨fun hm => ?_, h.2⟩
      obtain ⟨q, hqm, hbq⟩ := mem_allO.1 hm
      by_cases hqr : q = r
      · subst hqr; exact hnr' hbq
      · rw [hF q hqr] at hbq; exact h.1 (mem_allO.2 ⟨q, hqm, hbq⟩)
    · have hqr : q ≠ r := by rintro rfl; exact mem_false hd hq
      exact .inr ⟨q, hq, hqm, by rw [hF q hqr]; exact hbq⟩
  have hzR : ZdOf Bb F' (putL r c Γ.roots) = ZdOf Bb F' Γ.roots := ZdOf_ids hids
  have hO : allO F' (putL r c Γ.roots) = allO F' Γ.roots := allO_ids hids
  refine S.world (R' := putL r c Γ.roots) (F' := F') fit (fun d hd b h1 h2 => by rw [hzR]; exact hz d hd b h1 h2) hR ?_ (by rw [hids]; exact S.ids) ?_ ?_ ?_ hone
  · intro q d hm
    rw [hzR]
    rcases mem_putL S.ids hm with ⟨rfl, rfl⟩ | ⟨h1, h2⟩
    · exact hc
    · have hqm : q ∈ Γ.roots.map (·.1) := List.mem_map.2 ⟨_, h1, rfl⟩
      rw [hF q h2]
      refine RootR.mono (D := fun d => mem r d = false) (R := R) (h := hp w) rfl hz hR (hβ q h2) (fun b hb => hw b (hlt hqm hb) fun hbr => h2 (disj S.ids S.nodup hqm hin hb hbr)) (fun v e => ?_) (S.roots q d h1)
      subst e; exact fit.boxes q v h1
  · rw [hO]
    have key : ∀ l : List (Nat × Ch), (l.map (·.1)).Nodup → (allO F l).Nodup → (∀ q ∈ l.map (·.1), q ≠ r → ∀ b ∈ F' r, b ∉ F q) → (allO F' l).Nodup := by
      intro l
      induction l with
      | nil => intro _ _ _; simp [allO]
      | cons p l ih =>
        intro h1 h2 h3
        simp only [List.map_cons, List.nodup_cons] at h1
        have e : ∀ G : Nat → List Nat, allO G (p :: l) = G p.1 ++ allO G l := fun G => by simp [allO]
        rw [e] at h2 ⊢
        rw [List.nodup_append] at h2 ⊢
        have hrest := ih h1.2 h2.2.1 (fun q hq => h3 q (by simp [hq]))
        by_cases hpr : p.1 = r
        · refine ⟨by rw [hpr]; exact hF'.1, hrest, fun x hx y hy hxy => ?_⟩
          subst hxy
          obtain ⟨q, hq, hy⟩ := mem_allO.1 hy
          have hqr : q ≠ r := by rintro rfl; exact h1.1 (hpr ▸ hq)
          rw [hF q hqr] at hy
          exact h3 q (by simp [hq]) hqr x (hpr ▸ hx) hy
        · refine ⟨by rw [hF _ hpr]; exact h2.1, hrest, fun x hx y hy hxy => ?_⟩
          subst hxy
          rw [hF _ hpr] at hx
          obtain ⟨q, hq, hy⟩ := mem_allO.1 hy
          by_cases hqr : q = r
          · subst hqr; exact h3 p.1 (by simp) hpr x hy hx
          · rw [hF q hqr] at hy; exact h2.2.2 x hx x (mem_allO.2 ⟨q, hq, hy⟩) rfl
    exact key _ S.ids S.nodup (fun q hq hne b hb => hnew b hb q hq hne)
  · rw [hO]
    intro b hb
    obtain ⟨q, hqm, hbq⟩ := mem_allO.1 hb
    by_cases hqr : q = r
    · subst hqr
      refine ⟨(hF'.2 b hbq).1, ?_⟩
      rcases (hF'.2 b hbq).2 with h1 | h1
      · exact (S.own b (mem_allO.2 ⟨_, hin, h1⟩)).2
      · exact .inr (Nat.le_trans S.frm.size h1)
    · rw [hF q hqr] at hbq
      have := S.own b (mem_allO.2 ⟨_, hqm, hbq⟩)
      exact ⟨Nat.lt_of_lt_of_le this.1 hsz, this.2⟩
  · refine ⟨hos.trans S.frm.os, htp.trans S.frm.tape, hou.trans S.frm.output, Nat.le_trans S.frm.size hsz, fun k hk hkO => ?_⟩
    have h1 : k < w.heap.size := Nat.lt_of_lt_of_le hk S.frm.size
    have hnr : k ∉ F r := fun hkr => by
      rcases (S.own k (mem_allO.2 ⟨_, hin, hkr⟩)).2 with h2 | h2
      · exact hkO h2
      · omega
    exact (hw k h1 hnr).trans (S.frm.block k hk hkO)
theorem mem_mapC_row {f : SV → SV} {r lvl : Nat} {e : Ty} {xs : List e.den} : ∀ {l : List (Nat × Ch)}, (r, Ch.row lvl e xs) ∈ l → (r, Ch.row lvl e xs) ∈ mapC f l
  | [], h => by cases h
  | (m, .box u) :: l, h => by
      rcases List.mem_cons.1 h with h' | h'
      · cases h'
      · simp [mapC, mem_mapC_row h']
  | (m, .row a b d) :: l, h => by
      rcases List.mem_cons.1 h with h' | h'
      · simp [mapC, h']
      · simp [mapC, mem_mapC_row h']
  | (m, .iter a b) :: l, h => by
      rcases List.mem_cons.1 h with h' | h'
      · cases h'
      · simp [mapC, mem_mapC_row h']
  | (m, .mp a b d) :: l, h => by
      rcases List.mem_cons.1 h with h' | h'
      · cases h'
      · simp [mapC, mem_mapC_row h']
  | (m, .glob a) :: l, h => by
      rcases List.mem_cons.1 h with h' | h'
      · cases h'
      · simp [mapC, mem_mapC_row h']
theorem mem_mapC_box {f : SV → SV} {r : Nat} {v : SV} : ∀ {l : List (Nat × Ch)}, (r, Ch.box v) ∈ l → (r, Ch.box (f v)) ∈ mapC f l
  | [], h => by cases h
  | (m, .box u) :: l, h => by
      rcases List.mem_cons.1 h with h' | h'
      · injection h' with h1 h2; injection h2 with h2; simp [mapC, h1, h2]
      · simp [mapC, mem_mapC_box h']
  | (m, .row a b d) :: l, h => by
      rcases List.mem_cons.1 h with h' | h'
      · cases h'
      · simp [mapC, mem_mapC_box h']
  | (m, .iter a b) :: l, h => by
      rcases List.mem_cons.1 h with h' | h'
      · cases h'
      · simp [mapC, mem_mapC_box h']
  | (m, .mp a b d) :: l, h => by
      rcases List.mem_cons.1 h with h' | h'
      · cases h'
      · simp [mapC, mem_mapC_box h']
  | (m, .glob a) :: l, h => by
      rcases List.mem_cons.1 h with h' | h'
      · cases h'
      · simp [mapC, mem_mapC_box h']
theorem mem_mapC_iter {f : SV → SV} {r : Nat} {s : ByteArray} {p : Int} : ∀ {l : List (Nat × Ch)}, (r, Ch.iter s p) ∈ l → (r, Ch.iter s p) ∈ mapC f l
  | [], h => by cases h
  | (m, .box u) :: l, h => by
      rcases List.mem_cons.1 h with h' | h'
      · cases h'
      · simp [mapC, mem_mapC_iter h']
  | (m, .row a b d) :: l, h => by
      rcases List.mem_cons.1 h with h' | h'
      · cases h'
      · simp [mapC, mem_mapC_iter h']
  | (m, .iter a b) :: l, h => by
      rcases List.mem_cons.1 h with h' | h'
      · simp [mapC, h']
      · simp [mapC, mem_mapC_iter h']
  | (m, .mp a b d) :: l, h => by
      rcases List.mem_cons.1 h with h' | h'
      · cases h'
      · simp [mapC, mem_mapC_iter h']
  | (m, .glob a) :: l, h => by
      rcases List.mem_cons.1 h with h' | h'
      · cases h'
      · simp [mapC, mem_mapC_iter h']
theorem mem_mapC_mp {f : SV → SV} {r : Nat} {k v : Ty} {xs : List (k.den × v.den)} : ∀ {l : List (Nat × Ch)}, (r, Ch.mp k v xs) ∈ l → (r, Ch.mp k v xs) ∈ mapC f l
  | [], h => by cases h
  | (m, .box u) :: l, h => by
      rcases List.mem_cons.1 h with h' | h'
      · cases h'
      · simp [mapC, mem_mapC_mp h']
  | (m, .row a b d) :: l, h => by
      rcases List.mem_cons.1 h with h' | h'
      · cases h'
      · simp [mapC, mem_mapC_mp h']
  | (m, .iter a b) :: l, h => by
      rcases List.mem_cons.1 h with h' | h'
      · cases h'
      · simp [mapC, mem_mapC_mp h']
  | (m, .mp a b d) :: l, h => by
      rcases List.mem_cons.1 h with h' | h'
      · simp [mapC, h']
      · simp [mapC, mem_mapC_mp h']
  | (m, .glob a) :: l, h => by
      rcases List.mem_cons.1 h with h' | h'
      · cases h'
      · simp [mapC, mem_mapC_mp h']
theorem nodup_F {r : Nat} : ∀ {l : List (Nat × Ch)}, r ∈ l.map (·.1) → (allO F l).Nodup → (F r).Nodup
  | [], h, _ => by cases h
  | p :: l, h, h2 => by
      have e : allO F (p :: l) = F p.1 ++ allO F l := by simp [allO]
      rw [e, List.nodup_append] at h2
      simp only [List.map_cons, List.mem_cons] at h
      rcases h with h | h
      · rw [h]; exact h2.1
      · exact nodup_F h h2.2.1
theorem fit_svSet {D : List Nat → Prop} {R : Nat → Prop} : ∀ {v : SV} {p : List Nat} {u v' : SV}, Fit D R v → Fit D R u → svSet v p u = some v' → Fit D R v'
  | v, [], u, v', f, g, e => by
      have e' : (if u.sz = v.sz ∧ u.isAgg = v.isAgg then some u else none) = some v' := by cases v <;> exact e
      split at e'
      · simp only [Option.some.injEq] at e'; subst e'; exact g
      · cases e'
  | .consA a b, 0 :: p, u, v', f, g, e => by
      simp only [svSet, Option.map_eq_some_iff] at e
      obtain ⟨z, e, rfl⟩ := e
      exact ⟨fit_svSet f.1 g e, f.2⟩
  | .consA a b, (n + 1) :: p, u, v', f, g, e => by
      simp only [svSet, Option.map_eq_some_iff] at e
      obtain ⟨z, e, rfl⟩ := e
      exact ⟨f.1, fit_svSet f.2 g e⟩
  | .pv _ _ _, k :: p, u, v', f, g, e => by cases k <;> simp [svSet] at e
  | .hole _, k :: p, u, v', f, g, e => by cases k <;> simp [svSet] at e
  | .nils, k :: p, u, v', f, g, e => by cases k <;> simp [svSet] at e
  | .ref _, k :: p, u, v', f, g, e => by cases k <;> simp [svSet] at e
  | .ad _ _ _ _, k :: p, u, v', f, g, e => by cases k <;> simp [svSet] at e
  | .fad _ _ _ _ _, k :: p, u, v', f, g, e => by cases k <;> simp [svSet] at e
  | .nilA, k :: p, u, v', f, g, e => by cases k <;> simp [svSet] at e
  | .nilT, k :: p, u, v', f, g, e => by cases k <;> simp [svSet] at e
  | .consT _ _, k :: p, u, v', f, g, e => by cases k <;> simp [svSet] at e
theorem sound_store (hT : TabOk P T) (S : Sim Bb w0 O0 av Γ a w β F) {t : TypeId} {x v : Operand} (ho : o.op = .store t x v) (hd : o.dst = none) (hk : opStore real T Γ K t (Γ.eval x) (Γ.eval v)) : o.wp P a w (Nx Bb w0 O0 av K) Q := by
  have hx := S.eval x
  have hv := S.eval v
  have hrun : ∀ w', (do Instr.storeAt t (a.eval x) (a.eval v); pure Next.skip : Sem Next).run P w = .ok .skip w' → (execOp a.eval o).run P w = .ok .skip w' := fun w' hz => by unfold execOp; rw [ho]; exact hz
  have hput : a.put o.dst undef = a := by rw [hd]; rfl
  unfold opStore at hk
  split at hk
  · exact hk.elim
  rename_i u hu
  have ht := hT _ _ hu
  split at hk
  · rename_i r e i p hxe
    rw [hxe] at hx
    obtain ⟨cs, ⟨b, off, hb, ec⟩, ex⟩ := slot_one hx rfl (by simp)
    subst ec
    have ex' : a.eval x = .pointer (some ⟨b, off + i.toNat * e.sz + offAt e p, none⟩) := ex
    split at hk
    · rename_i lvl f xs hr
      split at hk
      · rename_i hc
        obtain ⟨rfl, hty, hfl⟩ := hc
        obtain ⟨h0, h1, hk⟩ := hk
        have h0' : 0 ≤ i := h0
        have h1' : i < xs.length := h1
        split at hk
        · rename_i y hy
          split at hk
          · rename_i hdep
            split at hk
            · rename_i z hz
              obtain ⟨cs, hcs, ev⟩ := den0_slot S.roots hy hv
              rw [hdep] at hcs
              obtain ⟨A, c, eb, l1, l2, q⟩ := S.roots r _ (look_mem hr)
              simp only [List.cons.injEq, and_true] at eb
              rcases q with ⟨_, _, q, _⟩ | ⟨b', off', arr, ty, Bs, rfl, hbb, hl, hB, hn, hq⟩
              · exact absurd q (ne_nil_of_lt h0' h1')
              rw [eb] at hb
              simp only [baseA, Option.some.injEq, Prod.mk.injEq] at hb
              obtain ⟨rfl, rfl⟩ := hb
              have hle := offAt_le hty
              have hl1 := Nat.le_trans (Nat.add_le_add_left (Nat.mul_le_mul_right _ l1) _) hl
              have hin := fit_row (off := off') h0' h1' hl1 hle
              have hcl := hcs.len
              refine wp_skip' (hrun _ (by rw [ex', ev]; exact run_storeAt ht hbb (cells_valOf (own_agg hcs)) hcl hcs.one hin)) ?_
              rw [hput]
              refine ⟨_, β, F, hk, ?_⟩
              have S1 := S.soft (soft_killD r)
              have hin1 : r ∈ Γ.roots.map (·.1) := List.mem_map.2 ⟨_, look_mem hr, rfl⟩
              have hFn := nodup_F hin1 S.nodup
              refine S1.setRoot (FitG.of (fit_killD r) Γ) (fun _ _ => rfl) (fun _ _ => rfl) S.bone (mem_mapC_row (look_mem hr)) (F' := F) (fun q _ hq => ?_) (by rw [upd_size]; exact Nat.le_refl _) rfl rfl rfl (fun _ _ => rfl) ⟨?_, fun q hq => ?_⟩ ?_
              · exact upd_ne (by rintro rfl; exact hq (by rw [hB]; simp))
              · exact hFn
              · rw [upd_size]; exact ⟨(S.own q (mem_allO.2 ⟨r, List.mem_map.2 ⟨_, look_mem hr, rfl⟩, hq⟩)).1, .inl hq⟩
              · -- the root's new content
                have hzz : ZdOf Bb F (Γ.map (killD r)).roots = ZdOf Bb F Γ.roots := ZdOf_ids (mapC_ids _ _)
                rw [hzz]
                have hnd := S.nodup
                have hbr : b' ∈ F r := by rw [hB]; simp
                have hnz : ∀ q, ZdOf Bb F Γ.roots [] q → q ≠ b' := by
                  rintro q hq rfl
                  rcases hq with hq | ⟨_, hq, _⟩
                  · exact hq.1 (mem_allO.2 ⟨r, List.mem_map.2 ⟨_, look_mem hr, rfl⟩, hbr⟩)
                  · cases hq
                have hmono : ∀ {tt : Ty} {n : Nat} {B : List Nat} {cc : List Value} {xx : tt.den}, (∀ q ∈ B, q ≠ b') → Own (hp w) (ZdOf Bb F Γ.roots []) tt n B cc xx → Own (hp (upd w b' (.cells (splice arr.toList (off' + i.toNat * f.sz + offAt f p) cs).toArray ty (0, 0)))) (ZdOf Bb F Γ.roots []) tt n B cc xx :=
                  fun hB' h => h.mono (fun q hq _ => ⟨upd_ne (hnz q hq), hq⟩) (fun q hq => upd_ne (hB' q hq))
                rw [hB, List.nodup_cons] at hFn
                have hxl : (real.set xs i z).length = xs.length := by show (xs.set i.toNat z).length = _; simp
                refine ⟨some ⟨b', off', none⟩, c, by rw [eb, hxl], by rw [hxl]; exact l1, by rw [hxl]; exact l2, .inr ⟨b', off', _, ty, Bs, rfl, upd_get hbb, ?_, hB, by rw [hn, hxl], ?_⟩⟩
                · simp only [List.size_toArray]; rw [splice_len (by rw [hcl]; simpa using hin)]; simpa using hl
                · intro j xj Bj hj hBj
                  have hj' : (xs.set i.toNat z)[j]? = some xj := hj
                  have hjl : j < xs.length := by have := (List.getElem?_eq_some_iff.1 hj').1; simpa using this
                  have hBne : ∀ q ∈ Bj, q ≠ b' := fun q hq => by rintro rfl; exact hFn.1 (List.mem_flatten.2 ⟨Bj, List.mem_of_getElem? hBj, hq⟩)
                  have hsl : off' + i.toNat * f.sz + offAt f p + cs.length ≤ arr.toList.length := by rw [hcl]; simpa using hin
                  have hjs : off' + j * f.sz + f.sz ≤ arr.toList.length := by
                    have : (j + 1) * f.sz ≤ xs.length * f.sz := Nat.mul_le_mul_right _ hjl
                    rw [Nat.add_mul] at this
                    have h9 : arr.toList.length = arr.size := by simp
                    omega
                  by_cases hji : j = i.toNat
                  · subst hji
                    have hxj : xj = z := by simpa [hjl] using hj'.symm
                    subst hxj
                    have hel := hq i.toNat _ _ (getD_some (d := f.zero) h0' h1') hBj
                    have := Own.put (vs := cs) hel hz (hfl) (by
                      rcases hfl with hfl | hfl
                      · exact (hcs.flat (m := lvl) hfl).2 _ _
                      · rw [hfl]; exact hcs) hty
                    have hin2 := seg_splice_in (l := arr.toList) (o := off' + i.toNat * f.sz) (d := offAt f p) (n := f.sz) (vs := cs) (by rw [hcl]; exact hle) hjs
                    have hgoal : seg ((splice arr.toList (off' + i.toNat * f.sz + offAt f p) cs).toArray).toList (off' + i.toNat * f.sz) f.sz = splice (seg arr.toList (off' + i.toNat * f.sz) f.sz) (offAt f p) cs := by simpa using hin2
                    rw [hgoal]
                    exact hmono hBne this
                  · have hxj : xs[j]? = some xj := by rw [List.getElem?_set_ne (Ne.symm hji)] at hj'; exact hj'
                    have hel := hq j xj Bj hxj hBj
                    have hout := seg_splice_out (l := arr.toList) (o := off' + j * f.sz) (k := off' + i.toNat * f.sz + offAt f p) (n := f.sz) (vs := cs) (by
                      rw [hcl]
                      rcases Nat.lt_or_ge j i.toNat with hlt | hge
                      · left
                        have : (j + 1) * f.sz ≤ i.toNat * f.sz := Nat.mul_le_mul_right _ hlt
                        rw [Nat.add_mul] at this; omega
                      · right
                        have : (i.toNat + 1) * f.sz ≤ j * f.sz := Nat.mul_le_mul_right _ (by omega)
                        rw [Nat.add_mul] at this; omega) hsl
                    have hgoal : seg ((splice arr.toList (off' + i.toNat * f.sz + offAt f p) cs).toArray).toList (off' + j * f.sz) f.sz = seg arr.toList (off' + j * f.sz) f.sz := by simpa using hout
                    rw [hgoal]
                    exact hmono hBne hel
            · exact hk.elim
          · exact hk.elim
        · exact hk.elim
      · exact hk.elim
    · rename_i bv hr
      split at hk
      · rename_i hc
        obtain ⟨hf, rfl, hty, hnh, hag, htp⟩ := hc
        split at hk
        · rename_i bv' hbv
          obtain ⟨b', cs0, ty, q1, q2, q3, q4⟩ := S.roots r _ (look_mem hr)
          rw [q1] at hb
          simp only [baseA, Option.some.injEq, Prod.mk.injEq] at hb
          obtain ⟨rfl, rfl⟩ := hb
          have e0 : (0 : Nat) + (0 : Int).toNat * e.sz + offAt e p = offAt e p := by simp
          rw [e0] at ex'
          have hv' := SlotR.soft (soft_killD r) hv
          have hnt : (killD r (Γ.eval v)).tup = false := by
            rw [(soft_killD r).un]; exact htp
          obtain ⟨cs, hcs, ev⟩ := slot_one hv' hnt (by rintro n hn; rw [hn] at hnh; cases hnh)
          have S1 := S.soft (soft_killD r)
          obtain ⟨b1, cs1, ty1, r1, r2, r3, r4⟩ := S1.roots r _ (mem_mapC_box (look_mem hr))
          rw [q1] at r1
          simp only [Value.pointer.injEq, Option.some.injEq, Addr.mk.injEq, and_true] at r1
          subst r1
          have hzz : ZdOf Bb F (Γ.map (killD r)).roots = ZdOf Bb F Γ.roots := ZdOf_ids (mapC_ids _ _)
          rw [hzz] at r4
          obtain ⟨hp1, hp2⟩ := SVc.put r4 hf hbv hcs hty
          have hle := offAt_le hty
          rw [← fits_sz hf, ← r4.len, ← hp2] at hle
          have hone := SVc.one S.bone hnh hcs
          refine wp_skip' (hrun _ (by rw [ex', ev]; exact run_storeAt ht r3 (cells_valOf (fun hg => by
            rw [hag] at hg
            have hs1 : u.sz = 1 := by cases u <;> first | rfl | cases hg
            rw [hs1] at hp2
            match cs, hp2, hone with
            | [x], _, hone => exact ⟨x, rfl, hone x (by simp)⟩)) hp2 hone (by simpa [hp2] using hle))) ?_
          rw [hput]
          have hin1 : r ∈ Γ.roots.map (·.1) := List.mem_map.2 ⟨_, look_mem hr, rfl⟩
          refine ⟨_, β, F, hk, ?_⟩
          refine S1.setRoot (FitG.of (fit_killD r) Γ) (fun _ _ => rfl) (fun _ _ => rfl) S.bone (mem_mapC_box (look_mem hr)) (F' := F) (fun q _ hq => ?_) (by rw [upd_size]; exact Nat.le_refl _) rfl rfl rfl (fun _ _ => rfl) ⟨nodup_F hin1 S.nodup, fun q hq => ?_⟩ ?_
          · exact upd_ne (by rintro rfl; exact hq (by rw [q2]; simp))
          · rw [upd_size]; exact ⟨(S.own q (mem_allO.2 ⟨r, hin1, hq⟩)).1, .inl hq⟩
          · rw [hzz]
            refine ⟨b', splice cs1 (offAt e p) cs, ty1, q1, q2, ?_, ?_⟩
            · have := upd_get (w := w) (o := .cells (splice cs1.toArray.toList (offAt e p) cs).toArray ty1 (0, 0)) r3
              simpa [hp] using this
            · refine SVc.mono (D := fun d => mem r d = false) (R := fun _ => True) (fun d hd q hq _ => ⟨upd_ne ?_, hq⟩) (fun _ _ => rfl) ?_ hp1
              · rintro rfl
                rcases hq with hq | ⟨q', hq1, hq2, hq3⟩
                · exact hq.1 (mem_allO.2 ⟨r, hin1, by rw [q2]; simp⟩)
                · have := disj S.ids S.nodup hq2 hin1 hq3 (by rw [q2]; simp)
                  subst this; exact mem_false hd hq1
              · exact fit_svSet (fit_killD r _) (fit_killD r _) hbv
        · exact hk.elim
      · exact hk.elim
    · exact hk.elim
  · exact hk.elim
end
end Go.Proofs.YtjpeblicfhfniaaDoor.Eng
