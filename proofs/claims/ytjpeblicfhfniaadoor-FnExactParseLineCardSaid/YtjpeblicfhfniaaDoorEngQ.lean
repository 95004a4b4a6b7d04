/- The engine, seventeenth part: a call, whole. No condition. -/
import Derived.Test.YtjpeblicfhfniaaDoorEngP
namespace Go.Proofs.YtjpeblicfhfniaaDoor.Eng
open Go.RowKit
set_option linter.unusedVariables false
set_option linter.unusedSimpArgs false
section
variable {P : Program} {T : Tab} {Bb : Nat → Prop} {w0 : World} {O0 : List Nat} {av : List Value} {Γ Γ' : Ctx} {a : Act} {w w' : World} {β : Nat → Value} {F : Nat → List Nat} {K : Ctx → Prop} {o : Oper} {Q : Exit → Act → World → Prop}
/-- What the new roots are, behind results. -/
structure NewR (h' : Hp) (Z' : Nat → Prop) (used : List Nat) (new : List (Nat × Ch)) (β1 : Nat → Value) (F1 : Nat → List Nat) (B : List Nat) : Prop where
  perm : (new.map (·.1)).Perm used
  pr : Prints F1 used B
  row : ∀ r c, (r, c) ∈ new → RowR h' Z' β1 (F1 r) r c
  one : ∀ r ∈ used, one (β1 r) = true
theorem NewR.join {h' : Hp} {Z' : Nat → Prop} {u1 u2 : List Nat} {n1 n2 : List (Nat × Ch)} {β1 β2 : Nat → Value} {F1 F2 : Nat → List Nat} {B1 B2 : List Nat} (x : NewR h' Z' u1 n1 β1 F1 B1) (y : NewR h' Z' u2 n2 β2 F2 B2) (hg : ∀ r ∈ u1, r ∉ u2) (hb : ∀ b ∈ B1, b ∉ B2) :
    NewR h' Z' (u1 ++ u2) (n2 ++ n1) (fun r => if r ∈ u1 then β1 r else β2 r) (fun r => if r ∈ u1 then F1 r else F2 r) (B1 ++ B2) := by
  have b1 : ∀ r ∈ u1, (if r ∈ u1 then β1 r else β2 r) = β1 r := fun r hr => if_pos hr
  have b2 : ∀ r ∈ u2, (if r ∈ u1 then β1 r else β2 r) = β2 r := fun r hr => if_neg (fun h => hg r h hr)
  refine ⟨by rw [List.map_append]; exact (List.Perm.append y.perm x.perm).trans List.perm_append_comm, Prints.join x.pr y.pr hg hb, ?_, ?_⟩
  · intro r c hm
    rcases List.mem_append.1 hm with hm | hm
    · have hr : r ∈ u2 := y.perm.subset (List.mem_map.2 ⟨_, hm, rfl⟩)
      have := y.row r c hm
      show RowR _ _ _ (if r ∈ u1 then F1 r else F2 r) r c
      rw [if_neg (fun h => hg r h hr)]
      cases c with
      | row l e xs => show Own _ _ _ _ _ [if r ∈ u1 then β1 r else β2 r] _; rw [b2 r hr]; exact this
      | box _ => exact this
      | iter _ _ => exact this
      | mp _ _ _ => show Own _ _ _ _ _ [if r ∈ u1 then β1 r else β2 r] _; rw [b2 r hr]; exact this
      | glob _ => exact this
    · have hr : r ∈ u1 := x.perm.subset (List.mem_map.2 ⟨_, hm, rfl⟩)
      have := x.row r c hm
      show RowR _ _ _ (if r ∈ u1 then F1 r else F2 r) r c
      rw [if_pos hr]
      cases c with
      | row l e xs => show Own _ _ _ _ _ [if r ∈ u1 then β1 r else β2 r] _; rw [b1 r hr]; exact this
      | box _ => exact this
      | iter _ _ => exact this
      | mp _ _ _ => show Own _ _ _ _ _ [if r ∈ u1 then β1 r else β2 r] _; rw [b1 r hr]; exact this
      | glob _ => exact this
  · intro r hr
    rcases List.mem_append.1 hr with hr | hr
    · show Eng.one (if r ∈ u1 then β1 r else β2 r) = true
      rw [b1 r hr]; exact x.one r hr
    · show Eng.one (if r ∈ u1 then β1 r else β2 r) = true
      rw [b2 r hr]; exact y.one r hr
theorem resV_ok {h' : Hp} {Z' : Nat → Prop} {n : Nat} (dep : List Nat) {t : Ty} {y : t.den} {B : List Nat} {cs : List Value} (ids : List Nat) (N : List (Nat × Ch)) (hro : rootsOk n t = true) (o : Own h' Z' t n B cs y) (hl : 0 < n → slots t y ≤ ids.length) (hi : ids.Nodup) (hB : B.Nodup) :
    ∃ used new β1 F1, ids = used ++ (resV dep n t y ids N).2.1 ∧ (0 < n → used.length = slots t y) ∧ (n = 0 → used = []) ∧ (resV dep n t y ids N).2.2 = new ++ N ∧ NewR h' Z' used new β1 F1 B ∧
      ∀ (β' : Nat → Value) (Zd : List Nat → Nat → Prop), (∀ r ∈ used, β' r = β1 r) → (n = 0 → ∀ b, Z' b → Zd dep b) → SVc h' Zd β' (resV dep n t y ids N).1 cs ∧ (resV dep n t y ids N).1.isAgg = t.agg ∧ (resV dep n t y ids N).1.tup = false := by
  obtain ⟨u, nw, β1, F1, h1, h2, h3, h4, h5, h6, h7, h8, h9⟩ := res_ok dep ids N hro o hl hi hB
  exact ⟨u, nw, β1, F1, h1, h2, h3, h4, ⟨h5, h6, h7, h8⟩, h9⟩
theorem resV_ok2 {h' : Hp} {Z' Z2 : Nat → Prop} {n : Nat} (dep : List Nat) {t : Ty} {y : t.den} {B : List Nat} {cs : List Value} {ids : List Nat} {N : List (Nat × Ch)} (hro : rootsOk n t = true) (o0 : n = 0 → Own h' Z' t n B cs y) (o1 : 0 < n → Own h' Z2 t n B cs y) (hl : 0 < n → slots t y ≤ ids.length) (hi : ids.Nodup) (hB : B.Nodup) :
    ∃ used new β1 F1, ids = used ++ (resV dep n t y ids N).2.1 ∧ (0 < n → used.length = slots t y) ∧ (n = 0 → used = []) ∧ (resV dep n t y ids N).2.2 = new ++ N ∧ NewR h' Z2 used new β1 F1 B ∧
      ∀ (β' : Nat → Value) (Zd : List Nat → Nat → Prop), (∀ r ∈ used, β' r = β1 r) → (∀ b, Z' b → Zd dep b) → SVc h' Zd β' (resV dep n t y ids N).1 cs ∧ (resV dep n t y ids N).1.isAgg = t.agg ∧ (resV dep n t y ids N).1.tup = false := by
  rcases Nat.eq_zero_or_pos n with h0 | h0
  · obtain ⟨u, nw, β1, F1, h1, h2, h3, h4, h5, h6⟩ := resV_ok dep ids N hro (o0 h0) hl hi hB
    have hu := h3 h0
    subst hu
    have hn : nw = [] := by
      have := h5.perm.length_eq
      simp at this
      exact this
    subst hn
    exact ⟨[], [], β1, F1, h1, h2, h3, h4, ⟨.refl _, h5.pr, by simp, h5.one⟩, fun β' Zd hβ hz => h6 β' Zd hβ (fun _ => hz)⟩
  · obtain ⟨u, nw, β1, F1, h1, h2, h3, h4, h5, h6⟩ := resV_ok dep ids N hro (o1 h0) hl hi hB
    exact ⟨u, nw, β1, F1, h1, h2, h3, h4, h5, fun β' Zd hβ hz => h6 β' Zd hβ (fun h => by omega)⟩
def RetL2 (h : Hp) (Z Z2 : Nat → Prop) : (rs : List (Nat × Ty)) → List (List Nat) → List Value → DR rs → Prop
  | [], Bs, vs, _ => Bs = [] ∧ vs = []
  | p :: rs, Bs, vs, y => ∃ B Bs' v vs' cs, Bs = B :: Bs' ∧ vs = v :: vs' ∧ (p.1 = 0 → Own h Z p.2 p.1 B cs y.1) ∧ (0 < p.1 → Own h Z2 p.2 p.1 B cs y.1) ∧ v = valOf p.2.agg cs ∧ RetL2 h Z Z2 rs Bs' vs' y.2
theorem retL2 {h : Hp} {Z Z2 : Nat → Prop} {dep : List Nat} (hz : isD dep = true → ∀ b, Z b → Z2 b) : ∀ {rs : List (Nat × Ty)} {Bs : List (List Nat)} {vs : List Value} {y : DR rs}, rsOk dep rs = true → RetL h Z rs Bs vs y → RetL2 h Z Z2 rs Bs vs y := by
  intro rs
  induction rs with
  | nil => intro Bs vs y _ h; exact h
  | cons p rs ih =>
    intro Bs vs y hr h
    obtain ⟨n, t⟩ := p
    obtain ⟨B, Bs', v, vs', cs, e1, e2, o, e3, r⟩ := h
    simp only [rsOk, Bool.and_eq_true, Bool.or_eq_true, beq_iff_eq, decide_eq_true_eq] at hr
    refine ⟨B, Bs', v, vs', cs, e1, e2, fun _ => o, fun h0 => ?_, e3, ih hr.2 r⟩
    rcases hr.1.1 with (h1 | h1) | h1
    · have h0' : 0 < n := h0
      omega
    · exact o.weaken (hz h1)
    · exact Own.deep h1 o
theorem resT_ok {h' : Hp} {Z' Z2 : Nat → Prop} (dep : List Nat) : ∀ {rs : List (Nat × Ty)} {Rs : List (List Nat)} {vs : List Value} {y : DR rs} (ids : List Nat) (N : List (Nat × Ch)), (∀ p ∈ rs, rootsOk p.1 p.2 = true) → RetL2 h' Z' Z2 rs Rs vs y → wants rs y ≤ ids.length → ids.Nodup → Rs.flatten.Nodup →
    ∃ used new β1 F1, ids = used ++ (resT dep rs y ids N).2.1 ∧ used.length = wants rs y ∧ (resT dep rs y ids N).2.2 = new ++ N ∧ NewR h' Z2 used new β1 F1 Rs.flatten ∧
      ∀ (β' : Nat → Value) (Zd : List Nat → Nat → Prop), (∀ r ∈ used, β' r = β1 r) → (∀ b, Z' b → Zd dep b) → TupR h' Zd β' (resT dep rs y ids N).1 vs ∧ (resT dep rs y ids N).1.tup = true := by
  intro rs
  induction rs with
  | nil =>
    intro Rs vs y ids N _ h _ _ _
    obtain ⟨rfl, rfl⟩ := h
    exact ⟨[], [], fun _ => undef, fun _ => [], rfl, rfl, rfl, ⟨.refl _, ⟨by simp, by simp, by simp⟩, by simp, by simp⟩, fun β' Zd _ _ => ⟨rfl, rfl⟩⟩
  | cons p rs ih =>
    intro Rs vs y ids N hro h hl hi hR
    have hro2 := fun p hp => hro p (List.mem_cons_of_mem _ hp)
    obtain ⟨n, t⟩ := p
    obtain ⟨B, Bs', v, vs', cs, rfl, rfl, o0, o1, ev, h⟩ := h
    simp only [List.flatten_cons] at hR
    rw [List.nodup_append] at hR
    have o0 : n = 0 → Own h' Z' t n B cs y.1 := o0
    have o1 : 0 < n → Own h' Z2 t n B cs y.1 := o1
    have one_ := resV_ok2 dep (ids := ids) (N := N) (show rootsOk n t = true from hro (n, t) (List.mem_cons_self ..)) o0 o1
    have hw : (0 < n → wants ((n, t) :: rs) y = slots t y.1 + wants rs y.2) ∧ (n = 0 → wants ((n, t) :: rs) y = wants rs y.2) := by cases n <;> simp [wants]
    obtain ⟨u1, n1, β1, F1, e1, l1, z1, m1, q1, k1⟩ := one_ (fun h => by have := hw.1 h; omega) hi hR.1
    have hi1 := hi
    rw [e1, List.nodup_append] at hi1
    have h3 := congrArg List.length e1
    rw [List.length_append] at h3
    have hlen2 : wants rs y.2 ≤ (resV dep n t y.1 ids N).2.1.length := by
      rcases Nat.eq_zero_or_pos n with h0 | h0
      · have h4 := z1 h0
        have h5 := hw.2 h0
        rw [h4] at h3; simp at h3; omega
      · have := hw.1 h0; have := l1 h0; omega
    obtain ⟨u2, n2, β2, F2, e2, l2, m2, q2, k2⟩ := ih (resV dep n t y.1 ids N).2.1 (resV dep n t y.1 ids N).2.2 hro2 h hlen2 hi1.2.1 hR.2.1
    have hg : ∀ r ∈ u1, r ∉ u2 := fun r h1 h2 => hi1.2.2 r h1 r (by rw [e2]; exact List.mem_append_left _ h2) rfl
    have b1 : ∀ r ∈ u1, (if r ∈ u1 then β1 r else β2 r) = β1 r := fun r hr => if_pos hr
    have b2 : ∀ r ∈ u2, (if r ∈ u1 then β1 r else β2 r) = β2 r := fun r hr => if_neg (fun h => hg r h hr)
    refine ⟨u1 ++ u2, n2 ++ n1, _, _, ?_, ?_, ?_, NewR.join q1 q2 hg (fun b h1 h2 => hR.2.2 b h1 b h2 rfl), ?_⟩
    · show ids = u1 ++ u2 ++ (resT dep rs y.2 _ _).2.1
      rw [List.append_assoc, ← e2]; exact e1
    · rw [List.length_append, l2]
      rcases Nat.eq_zero_or_pos n with h0 | h0
      · rw [z1 h0, hw.2 h0]; simp
      · rw [l1 h0, hw.1 h0]
    · show (resT dep rs y.2 _ _).2.2 = _
      rw [m2, m1, List.append_assoc]
    · intro β' Zd hβ hz
      obtain ⟨x1, x2, x3⟩ := k1 β' Zd (fun r hr => (hβ r (List.mem_append_left _ hr)).trans (b1 r hr)) hz
      obtain ⟨y1, y2⟩ := k2 β' Zd (fun r hr => (hβ r (List.mem_append_right _ hr)).trans (b2 r hr)) hz
      exact ⟨⟨v, vs', rfl, .inr ⟨cs, x1, by rw [x2]; exact ev⟩, y1⟩, rfl⟩
theorem res1_ok {h' : Hp} {Z' Z2 : Nat → Prop} (dep : List Nat) {rs : List (Nat × Ty)} {Rs : List (List Nat)} {rv : Value} {y : DR rs} (ids : List Nat) (hro : ∀ p ∈ rs, rootsOk p.1 p.2 = true) (h : ∃ vs, RetL2 h' Z' Z2 rs Rs vs y ∧ rv = (match vs with | [v] => v | vs => .tuple vs.toArray)) (hl : wants rs y ≤ ids.length) (hi : ids.Nodup) (hR : Rs.flatten.Nodup) :
    ∃ used β1 F1, used.length = wants rs y ∧ (∃ rest, ids = used ++ rest) ∧ NewR h' Z2 used (res1 dep rs y ids).2.2 β1 F1 Rs.flatten ∧
      ∀ (β' : Nat → Value) (Zd : List Nat → Nat → Prop), (∀ r ∈ used, β' r = β1 r) → (∀ b, Z' b → Zd dep b) → SlotR h' Zd β' (res1 dep rs y ids).1 rv := by
  obtain ⟨vs, h, erv⟩ := h
  match rs, y, hro, h, hl with
  | [], y, hro, h, hl =>
    obtain ⟨u, nw, β1, F1, e1, l1, m1, q1, k1⟩ := resT_ok dep ids [] hro h hl hi hR
    obtain ⟨rfl, rfl⟩ := h
    rw [List.append_nil] at m1
    refine ⟨u, β1, F1, l1, ⟨_, e1⟩, by show NewR _ _ _ (resT dep [] y ids []).2.2 _ _ _; rw [m1]; exact q1, fun β' Zd hβ hz => ?_⟩
    obtain ⟨x1, x2⟩ := k1 β' Zd hβ hz
    rw [erv]; exact .inl ⟨x2, [], rfl, x1⟩
  | [(n, t)], y, hro, h, hl =>
    obtain ⟨B, Bs', v, vs', cs, rfl, rfl, o0, o1, ev, rfl, rfl⟩ := h
    simp only [List.flatten_cons, List.flatten_nil, List.append_nil] at hR
    have o0 : n = 0 → Own h' Z' t n B cs y.1 := o0
    have o1 : 0 < n → Own h' Z2 t n B cs y.1 := o1
    have hw : (0 < n → wants [(n, t)] y = slots t y.1) ∧ (n = 0 → wants [(n, t)] y = 0) := by cases n <;> simp [wants]
    obtain ⟨u, nw, β1, F1, e1, l1, z1, m1, q1, k1⟩ := resV_ok2 dep (ids := ids) (N := []) (show rootsOk n t = true from hro (n, t) (List.mem_cons_self ..)) o0 o1 (fun h => by have := hw.1 h; omega) hi hR
    rw [List.append_nil] at m1
    refine ⟨u, β1, F1, ?_, ⟨_, e1⟩, ?_, fun β' Zd hβ hz => ?_⟩
    · rcases Nat.eq_zero_or_pos n with h0 | h0
      · rw [z1 h0, hw.2 h0]; rfl
      · rw [l1 h0, hw.1 h0]
    · show NewR _ _ _ (resV dep n t y.1 ids []).2.2 _ _ _
      rw [m1]; simpa using q1
    · obtain ⟨x1, x2, x3⟩ := k1 β' Zd hβ hz
      rw [erv]; exact .inr ⟨x3, .inr ⟨cs, x1, by show v = valOf (resV dep n t y.1 ids []).1.isAgg cs; rw [x2]; exact ev⟩⟩
  | p1 :: p2 :: rs, y, hro, h, hl =>
    obtain ⟨u, nw, β1, F1, e1, l1, m1, q1, k1⟩ := resT_ok dep ids [] hro h hl hi hR
    obtain ⟨B, Bs', v, vs', cs, rfl, rfl, _, _, ev, h2⟩ := h
    obtain ⟨B2, Bs2, v2, vs2, cs2, rfl, rfl, _⟩ := h2
    rw [List.append_nil] at m1
    refine ⟨u, β1, F1, l1, ⟨_, e1⟩, by show NewR _ _ _ (resT dep (p1 :: p2 :: rs) y ids []).2.2 _ _ _; rw [m1]; exact q1, fun β' Zd hβ hz => ?_⟩
    obtain ⟨x1, x2⟩ := k1 β' Zd hβ hz
    rw [erv]; exact .inl ⟨x2, _, rfl, x1⟩
end
end Go.Proofs.YtjpeblicfhfniaaDoor.Eng
