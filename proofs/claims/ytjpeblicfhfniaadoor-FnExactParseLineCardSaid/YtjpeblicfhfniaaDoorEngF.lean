/- The engine, sixth part: parts of what is held. No condition. -/
import Derived.Test.YtjpeblicfhfniaaDoorEngE
namespace Go.Proofs.YtjpeblicfhfniaaDoor.Eng
open Go.RowKit
set_option linter.unusedVariables false
set_option linter.unusedSimpArgs false

section
variable {h h' : Hp} {Z Z' : Nat → Prop}
theorem Own.one : ∀ {t : Ty} {n : Nat} {B : List Nat} {cs : List Value} {x : t.den}, Own h Z t n B cs x → ∀ v ∈ cs, Eng.one v = true
  | .unit, _, _, _, _, ⟨_, e⟩, v, hv => by rw [e] at hv; cases hv
  | .int k, _, _, _, _, ⟨_, e, _⟩, v, hv => by rw [e] at hv; simp at hv; rw [hv]; rfl
  | .bool, _, _, _, _, ⟨_, e⟩, v, hv => by rw [e] at hv; simp at hv; rw [hv]; rfl
  | .str, _, _, _, _, ⟨_, e, _⟩, v, hv => by rw [e] at hv; simp at hv; rw [hv]; rfl
  | .pair a b, _, _, _, _, ⟨_, _, _, _, _, e, h1, h2⟩, v, hv => by
      rw [e] at hv
      rcases List.mem_append.1 hv with hv | hv
      · exact h1.one v hv
      · exact h2.one v hv
  | .sl e, _, _, _, _, ⟨_, _, e', _⟩, v, hv => by rw [e'] at hv; simp at hv; rw [hv]; rfl
  | .any, _, _, _, _, ⟨_, e, o⟩, v, hv => by rw [e] at hv; simp at hv; rw [hv]; exact o
  | .arr n e, _, _, cs, xs, ⟨_, e1, e2, r⟩, v, hv => by
      obtain ⟨k, hk, rfl⟩ := List.mem_iff_getElem.1 hv
      have hz : 0 < e.sz := by rcases Nat.eq_zero_or_pos e.sz with h | h
                               · rw [h, Nat.mul_zero] at e2; omega
                               · exact h
      have hi : k / e.sz < n := Nat.div_lt_of_lt_mul (by rw [Nat.mul_comm]; omega)
      have hx : k / e.sz < xs.length := by rw [e1]; exact hi
      have o := r (k / e.sz) _ (List.getElem?_eq_getElem hx)
      have hm : k % e.sz < e.sz := Nat.mod_lt _ hz
      have hg : (seg cs (k / e.sz * e.sz) e.sz)[k % e.sz]? = some cs[k] := by
        unfold seg
        rw [List.getElem?_take, if_pos hm, List.getElem?_drop, Nat.mul_comm, Nat.div_add_mod]
        exact List.getElem?_eq_getElem hk
      exact Own.one o _ (List.mem_of_getElem? hg)
  | .mp _ _, _, _, _, none, ⟨_, e⟩, v, hv => by rw [e] at hv; simp at hv; rw [hv]; rfl
  | .mp _ _, _, _, _, some _, ⟨_, _, _, e, _⟩, v, hv => by rw [e] at hv; simp at hv; rw [hv]; rfl
  | .ptr _, _, _, _, none, ⟨_, e⟩, v, hv => by rw [e] at hv; simp at hv; rw [hv]; rfl
  | .ptr _, 0, _, _, some _, ⟨_, _, _, _, _, _, e, _⟩, v, hv => by rw [e] at hv; simp at hv; rw [hv]; rfl
  | .ptr _, _ + 1, _, _, some _, ⟨_, _, _, _, e, _⟩, v, hv => by rw [e] at hv; simp at hv; rw [hv]; rfl
  | .inil, _, _, _, _, ⟨_, e⟩, v, hv => by rw [e] at hv; simp at hv; rw [hv]; rfl
  | .ialt _ _ _, _, _, _, .inl _, ⟨_, e, _⟩, v, hv => by rw [e] at hv; simp at hv; rw [hv]; rfl
  | .ialt _ _ _, _, _, _, .inr _, o, v, hv => by
      rcases o with ⟨_, e, _⟩ | ⟨_, o⟩
      · rw [e] at hv; simp at hv; rw [hv]; rfl
      · exact Own.one o v hv
theorem tyAt_nil (t : Ty) : tyAt t [] = some t := by cases t <;> rfl
theorem offAt_nil (t : Ty) : offAt t [] = 0 := by cases t <;> rfl
theorem offAt_le : ∀ {t : Ty} {p : List Nat} {u : Ty}, tyAt t p = some u → offAt t p + u.sz ≤ t.sz
  | t, [], u, e => by
      simp only [tyAt, Option.some.injEq] at e; subst e
      have : offAt t [] = 0 := by cases t <;> rfl
      omega
  | .pair a b, 0 :: p, u, e => by have := offAt_le (t := a) (p := p) e; simp only [offAt, Ty.sz]; omega
  | .pair a b, (n + 1) :: p, u, e => by have := offAt_le (t := b) (p := n :: p) e; simp only [offAt, Ty.sz]; omega
  | .unit, _ :: _, u, e => by simp [tyAt] at e
  | .int _, _ :: _, u, e => by simp [tyAt] at e
  | .bool, _ :: _, u, e => by simp [tyAt] at e
  | .str, _ :: _, u, e => by simp [tyAt] at e
  | .sl _, _ :: _, u, e => by simp [tyAt] at e
  | .any, _ :: _, u, e => by simp [tyAt] at e
  | .arr _ _, _ :: _, u, e => by simp [tyAt] at e
  | .mp _ _, _ :: _, u, e => by simp [tyAt] at e
  | .ptr _, _ :: _, u, e => by simp [tyAt] at e
  | .inil, _ :: _, u, e => by simp [tyAt] at e
  | .ialt _ _ _, _ :: _, u, e => by simp [tyAt] at e
theorem tyAt_app : ∀ {t : Ty} {p q : List Nat} {u : Ty}, tyAt t p = some u → tyAt t (p ++ q) = tyAt u q ∧ offAt t (p ++ q) = offAt t p + offAt u q
  | t, [], q, u, e => by
      simp only [tyAt, Option.some.injEq] at e; subst e
      have : offAt t [] = 0 := by cases t <;> rfl
      simp [this]
  | .pair a b, 0 :: p, q, u, e => by obtain ⟨h1, h2⟩ := tyAt_app (t := a) (p := p) (q := q) e; exact ⟨h1, h2⟩
  | .pair a b, (n + 1) :: p, q, u, e => by
      obtain ⟨h1, h2⟩ := tyAt_app (t := b) (p := n :: p) (q := q) e
      exact ⟨h1, by simp only [offAt, List.cons_append] at h2 ⊢; omega⟩
  | .unit, _ :: _, q, u, e => by simp [tyAt] at e
  | .int _, _ :: _, q, u, e => by simp [tyAt] at e
  | .bool, _ :: _, q, u, e => by simp [tyAt] at e
  | .str, _ :: _, q, u, e => by simp [tyAt] at e
  | .sl _, _ :: _, q, u, e => by simp [tyAt] at e
  | .any, _ :: _, q, u, e => by simp [tyAt] at e
  | .arr _ _, _ :: _, q, u, e => by simp [tyAt] at e
  | .mp _ _, _ :: _, q, u, e => by simp [tyAt] at e
  | .ptr _, _ :: _, q, u, e => by simp [tyAt] at e
  | .inil, _ :: _, q, u, e => by simp [tyAt] at e
  | .ialt _ _ _, _ :: _, q, u, e => by simp [tyAt] at e
/-- A part. -/
theorem Own.at : ∀ {t : Ty} {n : Nat} {B : List Nat} {cs : List Value} {x : t.den} {p : List Nat} {s : (u : Ty) × u.den}, Own h Z t n B cs x → getAt t x p = some s →
    tyAt t p = some s.1 ∧ ∃ B', (∀ b ∈ B', b ∈ B) ∧ Own h Z s.1 n B' (seg cs (offAt t p) s.1.sz) s.2
  | t, n, B, cs, x, [], s, o, e => by
      have e' : some (⟨t, x⟩ : (u : Ty) × u.den) = some s := by cases t <;> exact e
      simp only [Option.some.injEq] at e'; subst e'
      have : offAt t [] = 0 := by cases t <;> rfl
      exact ⟨tyAt_nil t, B, fun _ m => m, by rw [this, ← o.len, seg_self]; exact o⟩
  | .pair a b, n, B, cs, x, 0 :: p, s, ⟨B1, B2, c1, c2, e1, e2, o1, o2⟩, e => by
      obtain ⟨h1, B', h2, h3⟩ := o1.at (p := p) e
      have hl := offAt_le h1
      rw [← o1.len] at hl
      exact ⟨h1, B', fun k m => by rw [e1]; exact List.mem_append_left _ (h2 k m), by rw [e2]; simp only [offAt]; rw [seg_left hl]; exact h3⟩
  | .pair a b, n, B, cs, x, (m + 1) :: p, s, ⟨B1, B2, c1, c2, e1, e2, o1, o2⟩, e => by
      obtain ⟨h1, B', h2, h3⟩ := o2.at (p := m :: p) e
      exact ⟨h1, B', fun k m => by rw [e1]; exact List.mem_append_right _ (h2 k m), by rw [e2]; simp only [offAt]; rw [← o1.len, seg_right]; exact h3⟩
  | .unit, _, _, _, _, _ :: _, _, _, e => by simp [getAt] at e
  | .int _, _, _, _, _, _ :: _, _, _, e => by simp [getAt] at e
  | .bool, _, _, _, _, _ :: _, _, _, e => by simp [getAt] at e
  | .str, _, _, _, _, _ :: _, _, _, e => by simp [getAt] at e
  | .sl _, _, _, _, _, _ :: _, _, _, e => by simp [getAt] at e
  | .any, _, _, _, _, _ :: _, _, _, e => by simp [getAt] at e
  | .arr _ _, _, _, _, _, _ :: _, _, _, e => by simp [getAt] at e
  | .mp _ _, _, _, _, _, _ :: _, _, _, e => by simp [getAt] at e
  | .ptr _, _, _, _, _, _ :: _, _, _, e => by simp [getAt] at e
  | .inil, _, _, _, _, _ :: _, _, _, e => by simp [getAt] at e
  | .ialt _ _ _, _, _, _, _, _ :: _, _, _, e => by simp [getAt] at e
theorem as_some {t : Ty} {s : (u : Ty) × u.den} {y : t.den} (e : as t s = some y) : s = ⟨t, y⟩ := by
  unfold as at e; split at e
  · rename_i h; obtain ⟨u, z⟩ := s; simp only at h; subst h; simp only [Option.some.injEq] at e; subst e; rfl
  · cases e
theorem Own.flat : ∀ {t : Ty} {n m : Nat} {B : List Nat} {cs : List Value} {x : t.den}, t.hasSl = false → Own h Z t n B cs x → B = [] ∧ ∀ (h' : Hp) (Z' : Nat → Prop), Own h' Z' t m [] cs x
  | .unit, _, _, _, _, _, _, ⟨e, o⟩ => ⟨e, fun _ _ => ⟨rfl, o⟩⟩
  | .int k, _, _, _, _, _, _, ⟨e, o⟩ => ⟨e, fun _ _ => ⟨rfl, o⟩⟩
  | .bool, _, _, _, _, _, _, ⟨e, o⟩ => ⟨e, fun _ _ => ⟨rfl, o⟩⟩
  | .str, _, _, _, _, _, _, ⟨e, o⟩ => ⟨e, fun _ _ => ⟨rfl, o⟩⟩
  | .pair a b, n, m, _, _, _, hs, ⟨B1, B2, c1, c2, e1, e2, o1, o2⟩ => by
      simp only [Ty.hasSl, Bool.or_eq_false_iff] at hs
      obtain ⟨q1, r1⟩ := o1.flat (m := m) hs.1
      obtain ⟨q2, r2⟩ := o2.flat (m := m) hs.2
      exact ⟨by rw [e1, q1, q2]; rfl, fun h' Z' => ⟨[], [], c1, c2, rfl, e2, r1 h' Z', r2 h' Z'⟩⟩
  | .sl e, _, _, _, _, _, hs, _ => by cases hs
  | .mp _ _, _, _, _, _, _, hs, _ => by cases hs
  | .ptr _, _, _, _, _, _, hs, _ => by cases hs
  | .any, _, _, _, _, _, _, ⟨e, o⟩ => ⟨e, fun _ _ => ⟨rfl, o⟩⟩
  | .inil, _, _, _, _, _, _, ⟨e, o⟩ => ⟨e, fun _ _ => ⟨rfl, o⟩⟩
  | .arr n e, _, _, _, _, _, hs, ⟨e0, e1, e2, r⟩ => ⟨e0, fun h' Z' => ⟨rfl, e1, e2, fun i x hi => ((r i x hi).flat (m := 0) (show e.hasSl = false from hs)).2 h' Z'⟩⟩
  | .ialt _ a r, n, m, _, _, .inl _, hs, ⟨cs', e, o⟩ => by
      simp only [Ty.hasSl, Bool.or_eq_false_iff] at hs
      obtain ⟨q, k⟩ := o.flat (m := m) hs.1
      exact ⟨q, fun h' Z' => ⟨cs', e, k h' Z'⟩⟩
  | .ialt _ a r, n, m, _, _, .inr _, hs, o => by
      simp only [Ty.hasSl, Bool.or_eq_false_iff] at hs
      rcases o with ⟨e, o⟩ | ⟨e, o⟩
      · exact ⟨e, fun _ _ => .inl ⟨rfl, o⟩⟩
      · obtain ⟨q, k⟩ := o.flat (m := m) hs.2
        exact ⟨q, fun h' Z' => .inr ⟨e, k h' Z'⟩⟩
/-- A part is put: a flat one, or where nothing is one's own. -/
theorem Own.put : ∀ {t : Ty} {n : Nat} {B : List Nat} {cs : List Value} {x x' : t.den} {p : List Nat} {s : (u : Ty) × u.den} {vs : List Value}, Own h Z t n B cs x → setAt t x p s = some x' →
    (s.1.hasSl = false ∨ n = 0) → Own h Z s.1 n [] vs s.2 → tyAt t p = some s.1 → Own h Z t n B (splice cs (offAt t p) vs) x'
  | t, n, B, cs, x, x', [], s, vs, o, e, hs, o', ht => by
      have e' : as t s = some x' := by cases t <;> exact e
      have e'' := as_some e'; subst e''
      have : offAt t [] = 0 := by cases t <;> rfl
      have hl : vs.length = cs.length := by rw [o'.len, o.len]
      have hsp : splice cs (offAt t []) vs = vs := by rw [this]; unfold splice; simp [hl]
      rw [hsp]
      have hB : B = [] := by
        rcases hs with hs | rfl
        · exact (o.flat (m := 0) hs).1
        · exact o.b0
      rw [hB]; exact o'
  | .pair a b, n, B, cs, x, x', 0 :: p, s, vs, ⟨B1, B2, c1, c2, e1, e2, o1, o2⟩, e, hs, o', ht => by
      simp only [setAt, Option.map_eq_some_iff] at e
      obtain ⟨y, e, rfl⟩ := e
      have hl : offAt a p + s.1.sz ≤ a.sz := offAt_le (t := a) ht
      rw [← o'.len, ← o1.len] at hl
      refine ⟨B1, B2, splice c1 (offAt a p) vs, c2, e1, ?_, o1.put e hs o' ht, o2⟩
      rw [e2]; simp only [offAt]; rw [splice_left hl]
  | .pair a b, n, B, cs, x, x', (m + 1) :: p, s, vs, ⟨B1, B2, c1, c2, e1, e2, o1, o2⟩, e, hs, o', ht => by
      simp only [setAt, Option.map_eq_some_iff] at e
      obtain ⟨y, e, rfl⟩ := e
      refine ⟨B1, B2, c1, splice c2 (offAt b (m :: p)) vs, e1, ?_, o1, o2.put e hs o' ht⟩
      rw [e2]; simp only [offAt]; rw [← o1.len, splice_right]
  | .unit, _, _, _, _, _, _ :: _, _, _, _, e, _, _, _ => by simp [setAt] at e
  | .int _, _, _, _, _, _, _ :: _, _, _, _, e, _, _, _ => by simp [setAt] at e
  | .bool, _, _, _, _, _, _ :: _, _, _, _, e, _, _, _ => by simp [setAt] at e
  | .str, _, _, _, _, _, _ :: _, _, _, _, e, _, _, _ => by simp [setAt] at e
  | .sl _, _, _, _, _, _, _ :: _, _, _, _, e, _, _, _ => by simp [setAt] at e
  | .any, _, _, _, _, _, _ :: _, _, _, _, e, _, _, _ => by simp [setAt] at e
  | .arr _ _, _, _, _, _, _, _ :: _, _, _, _, e, _, _, _ => by simp [setAt] at e
  | .mp _ _, _, _, _, _, _, _ :: _, _, _, _, e, _, _, _ => by simp [setAt] at e
  | .ptr _, _, _, _, _, _, _ :: _, _, _, _, e, _, _, _ => by simp [setAt] at e
  | .inil, _, _, _, _, _, _ :: _, _, _, _, e, _, _, _ => by simp [setAt] at e
  | .ialt _ _ _, _, _, _, _, _, _ :: _, _, _, _, e, _, _, _ => by simp [setAt] at e
section
variable {Zd : List Nat → Nat → Prop} {β : Nat → Value}
theorem fits_sz : ∀ {v : SV} {e : Ty}, fits v e = true → v.sz = e.sz
  | .consA a b, e, f => by
      cases e <;> first | (cases f; done) | skip
      simp only [fits, Bool.and_eq_true] at f; simp only [SV.sz, Ty.sz]; rw [fits_sz f.1, fits_sz f.2]
  | .pv _ t _, e, f => by
      have : t = e := by cases e <;> simpa [fits] using f
      subst this; rfl
  | .hole n, e, f => by cases e <;> simpa [fits, SV.sz] using f
  | .nilA, e, f => by cases e <;> first | rfl | cases f
  | .nils, e, f => by cases e <;> first | rfl | cases f
  | .ref _, e, f => by cases e <;> first | rfl | cases f
  | .ad _ _ _ _, e, f => by cases e <;> first | rfl | cases f
  | .fad _ _ _ _ _, e, f => by cases e <;> first | rfl | cases f
  | .nilT, e, f => by cases e <;> cases f
  | .consT _ _, e, f => by cases e <;> cases f
  | .nilI, e, f => by cases e <;> first | rfl | cases f
  | .nilP, e, f => by cases e <;> first | rfl | cases f
  | .nilM, e, f => by cases e <;> first | rfl | cases f
  | .arp _ _ _, e, f => by cases e <;> first | rfl | cases f
  | .vw _ _ _ _, e, f => by cases e <;> first | rfl | cases f
  | .ifs _ _ _, e, f => by cases e <;> first | rfl | cases f
  | .gl _, e, f => by cases e <;> first | rfl | cases f
  | .fn _, e, f => by cases e <;> first | rfl | cases f
theorem svAt_nil (v : SV) : svAt v [] = some v := by cases v <;> rfl
theorem fits_pv {d : List Nat} {t e : Ty} {x : t.den} (f : fits (.pv d t x) e = true) : t = e := by cases e <;> simpa [fits] using f
/-- What lies at the path of a state. -/
theorem SVc.at : ∀ {v : SV} {e : Ty} {cs : List Value} {p : List Nat} {u : SV}, SVc h Zd β v cs → fits v e = true → svAt v p = some u → (p = [] ∨ ∃ τ, tyAt e p = some τ) →
    ∃ τ, tyAt e p = some τ ∧ SVc h Zd β u (seg cs (offAt e p) τ.sz)
  | v, e, cs, [], u, o, f, ea, _ => by
      rw [svAt_nil, Option.some.injEq] at ea; subst ea
      exact ⟨e, tyAt_nil e, by rw [offAt_nil, ← fits_sz f, ← o.len, seg_self]; exact o⟩
  | .consA a b, .pair x y, cs, 0 :: p, u, ⟨c1, c2, ec, o1, o2⟩, f, ea, ht => by
      simp only [fits, Bool.and_eq_true] at f
      obtain ⟨τ, h1, h2⟩ := SVc.at (p := p) o1 f.1 ea (.inr (ht.resolve_left (by simp)))
      have hl := offAt_le h1
      rw [← fits_sz f.1, ← o1.len] at hl
      exact ⟨τ, h1, by rw [ec]; simp only [offAt]; rw [seg_left hl]; exact h2⟩
  | .consA a b, .pair x y, cs, (n + 1) :: p, u, ⟨c1, c2, ec, o1, o2⟩, f, ea, ht => by
      simp only [fits, Bool.and_eq_true] at f
      obtain ⟨τ, h1, h2⟩ := SVc.at (p := n :: p) o2 f.2 ea (.inr (ht.resolve_left (by simp)))
      exact ⟨τ, h1, by rw [ec]; simp only [offAt]; rw [← fits_sz f.1, ← o1.len, seg_right]; exact h2⟩
  | .pv d t x, e, cs, k :: p, u, o, f, ea, _ => by
      have := fits_pv f; subst this
      have ea' : (getAt t x (k :: p)).map (fun s => SV.pv d s.1 s.2) = some u := by cases k <;> exact ea
      simp only [Option.map_eq_some_iff] at ea'
      obtain ⟨s, hs, rfl⟩ := ea'
      obtain ⟨h1, B', h2, h3⟩ := Own.at (show Own h (Zd d) t 0 [] cs x from o) hs
      refine ⟨s.1, h1, ?_⟩
      show Own h (Zd d) s.1 0 [] _ _
      have hB : B' = [] := h3.b0
      rw [hB] at h3; exact h3
  | .hole n, e, cs, k :: p, u, o, f, ea, _ => by cases k <;> simp [svAt] at ea
  | .nils, e, cs, k :: p, u, o, f, ea, _ => by cases k <;> simp [svAt] at ea
  | .ref _, e, cs, k :: p, u, o, f, ea, _ => by cases k <;> simp [svAt] at ea
  | .ad _ _ _ _, e, cs, k :: p, u, o, f, ea, _ => by cases k <;> simp [svAt] at ea
  | .fad _ _ _ _ _, e, cs, k :: p, u, o, f, ea, _ => by cases k <;> simp [svAt] at ea
  | .nilA, e, cs, k :: p, u, o, f, ea, _ => by cases k <;> simp [svAt] at ea
  | .nilI, e, cs, k :: p, u, o, f, ea, _ => by cases k <;> simp [svAt] at ea
  | .nilP, e, cs, k :: p, u, o, f, ea, _ => by cases k <;> simp [svAt] at ea
  | .nilM, e, cs, k :: p, u, o, f, ea, _ => by cases k <;> simp [svAt] at ea
  | .arp _ _ _, e, cs, k :: p, u, o, f, ea, _ => by cases k <;> simp [svAt] at ea
  | .vw _ _ _ _, e, cs, k :: p, u, o, f, ea, _ => by cases k <;> simp [svAt] at ea
  | .ifs _ _ _, e, cs, k :: p, u, o, f, ea, _ => by cases k <;> simp [svAt] at ea
  | .gl _, e, cs, k :: p, u, o, f, ea, _ => by cases k <;> simp [svAt] at ea
  | .fn _, e, cs, k :: p, u, o, f, ea, _ => by cases k <;> simp [svAt] at ea
  | .nilT, e, cs, k :: p, u, o, f, ea, _ => o.elim
  | .consT _ _, e, cs, k :: p, u, o, f, ea, _ => o.elim
  | .consA _ _, .unit, cs, k :: p, u, o, f, ea, _ => by cases f
  | .consA _ _, .int _, cs, k :: p, u, o, f, ea, _ => by cases f
  | .consA _ _, .bool, cs, k :: p, u, o, f, ea, _ => by cases f
  | .consA _ _, .str, cs, k :: p, u, o, f, ea, _ => by cases f
  | .consA _ _, .sl _, cs, k :: p, u, o, f, ea, _ => by cases f
  | .consA _ _, .any, cs, k :: p, u, o, f, ea, _ => by cases f
  | .consA _ _, .arr _ _, cs, k :: p, u, o, f, ea, _ => by cases f
  | .consA _ _, .mp _ _, cs, k :: p, u, o, f, ea, _ => by cases f
  | .consA _ _, .ptr _, cs, k :: p, u, o, f, ea, _ => by cases f
  | .consA _ _, .inil, cs, k :: p, u, o, f, ea, _ => by cases f
  | .consA _ _, .ialt _ _ _, cs, k :: p, u, o, f, ea, _ => by cases f
/-- A part of a state is put. -/
theorem SVc.put : ∀ {v : SV} {e : Ty} {cs : List Value} {p : List Nat} {u v' : SV} {vs : List Value} {τ : Ty}, SVc h Zd β v cs → fits v e = true → svSet v p u = some v' → SVc h Zd β u vs → tyAt e p = some τ →
    SVc h Zd β v' (splice cs (offAt e p) vs) ∧ vs.length = τ.sz
  | v, e, cs, [], u, v', vs, τ, o, f, es, o', ht => by
      have es' : (if u.sz = v.sz ∧ u.isAgg = v.isAgg then some u else none) = some v' := by cases v <;> exact es
      split at es'
      · rename_i hc
        simp only [Option.some.injEq] at es'; subst es'
        rw [tyAt_nil, Option.some.injEq] at ht; subst ht
        have hl : vs.length = cs.length := by rw [o'.len, o.len, hc.1]
        have hsp : splice cs (offAt e []) vs = vs := by rw [offAt_nil]; unfold splice; simp [hl]
        exact ⟨by rw [hsp]; exact o', by rw [hl, o.len, fits_sz f]⟩
      · cases es'
  | .consA a b, .pair x y, cs, 0 :: p, u, v', vs, τ, ⟨c1, c2, ec, o1, o2⟩, f, es, o', ht => by
      simp only [fits, Bool.and_eq_true] at f
      simp only [svSet, Option.map_eq_some_iff] at es
      obtain ⟨z, es, rfl⟩ := es
      obtain ⟨h1, h2⟩ := SVc.put (p := p) o1 f.1 es o' ht
      have hl : offAt x p + τ.sz ≤ x.sz := offAt_le (t := x) ht
      rw [← fits_sz f.1, ← o1.len, ← h2] at hl
      exact ⟨⟨_, c2, by rw [ec]; simp only [offAt]; rw [splice_left hl], h1, o2⟩, h2⟩
  | .consA a b, .pair x y, cs, (n + 1) :: p, u, v', vs, τ, ⟨c1, c2, ec, o1, o2⟩, f, es, o', ht => by
      simp only [fits, Bool.and_eq_true] at f
      simp only [svSet, Option.map_eq_some_iff] at es
      obtain ⟨z, es, rfl⟩ := es
      obtain ⟨h1, h2⟩ := SVc.put (p := n :: p) o2 f.2 es o' ht
      exact ⟨⟨c1, _, by rw [ec]; simp only [offAt]; rw [← fits_sz f.1, ← o1.len, splice_right], o1, h1⟩, h2⟩
  | .pv _ _ _, e, cs, k :: p, u, v', vs, τ, o, f, es, o', ht => by cases k <;> simp [svSet] at es
  | .hole n, e, cs, k :: p, u, v', vs, τ, o, f, es, o', ht => by cases k <;> simp [svSet] at es
  | .nils, e, cs, k :: p, u, v', vs, τ, o, f, es, o', ht => by cases k <;> simp [svSet] at es
  | .ref _, e, cs, k :: p, u, v', vs, τ, o, f, es, o', ht => by cases k <;> simp [svSet] at es
  | .ad _ _ _ _, e, cs, k :: p, u, v', vs, τ, o, f, es, o', ht => by cases k <;> simp [svSet] at es
  | .fad _ _ _ _ _, e, cs, k :: p, u, v', vs, τ, o, f, es, o', ht => by cases k <;> simp [svSet] at es
  | .nilA, e, cs, k :: p, u, v', vs, τ, o, f, es, o', ht => by cases k <;> simp [svSet] at es
  | .nilI, e, cs, k :: p, u, v', vs, τ, o, f, es, o', ht => by cases k <;> simp [svSet] at es
  | .nilP, e, cs, k :: p, u, v', vs, τ, o, f, es, o', ht => by cases k <;> simp [svSet] at es
  | .nilM, e, cs, k :: p, u, v', vs, τ, o, f, es, o', ht => by cases k <;> simp [svSet] at es
  | .arp _ _ _, e, cs, k :: p, u, v', vs, τ, o, f, es, o', ht => by cases k <;> simp [svSet] at es
  | .vw _ _ _ _, e, cs, k :: p, u, v', vs, τ, o, f, es, o', ht => by cases k <;> simp [svSet] at es
  | .ifs _ _ _, e, cs, k :: p, u, v', vs, τ, o, f, es, o', ht => by cases k <;> simp [svSet] at es
  | .gl _, e, cs, k :: p, u, v', vs, τ, o, f, es, o', ht => by cases k <;> simp [svSet] at es
  | .fn _, e, cs, k :: p, u, v', vs, τ, o, f, es, o', ht => by cases k <;> simp [svSet] at es
  | .nilT, e, cs, k :: p, u, v', vs, τ, o, f, es, o', ht => o.elim
  | .consT _ _, e, cs, k :: p, u, v', vs, τ, o, f, es, o', ht => o.elim
  | .consA _ _, .unit, cs, k :: p, u, v', vs, τ, o, f, es, o', ht => by cases f
  | .consA _ _, .int _, cs, k :: p, u, v', vs, τ, o, f, es, o', ht => by cases f
  | .consA _ _, .bool, cs, k :: p, u, v', vs, τ, o, f, es, o', ht => by cases f
  | .consA _ _, .str, cs, k :: p, u, v', vs, τ, o, f, es, o', ht => by cases f
  | .consA _ _, .sl _, cs, k :: p, u, v', vs, τ, o, f, es, o', ht => by cases f
  | .consA _ _, .any, cs, k :: p, u, v', vs, τ, o, f, es, o', ht => by cases f
  | .consA _ _, .arr _ _, cs, k :: p, u, v', vs, τ, o, f, es, o', ht => by cases f
  | .consA _ _, .mp _ _, cs, k :: p, u, v', vs, τ, o, f, es, o', ht => by cases f
  | .consA _ _, .ptr _, cs, k :: p, u, v', vs, τ, o, f, es, o', ht => by cases f
  | .consA _ _, .inil, cs, k :: p, u, v', vs, τ, o, f, es, o', ht => by cases f
  | .consA _ _, .ialt _ _ _, cs, k :: p, u, v', vs, τ, o, f, es, o', ht => by cases f
theorem SVc.one : ∀ {v : SV} {cs : List Value}, (∀ q, Eng.one (β q) = true) → noHole v = true → SVc h Zd β v cs → ∀ x ∈ cs, Eng.one x = true
  | .pv d t x, cs, hb, _, o, v, hv => Own.one (show Own h (Zd d) t 0 [] cs x from o) v hv
  | .nils, cs, hb, _, o, v, hv => by rw [show cs = _ from o] at hv; simp at hv; rw [hv]; rfl
  | .ref r, cs, hb, _, o, v, hv => by rw [show cs = [β r] from o] at hv; simp at hv; rw [hv]; exact hb r
  | .ad r e i p, cs, hb, _, ⟨_, _, _, o⟩, v, hv => by rw [o] at hv; simp at hv; rw [hv]; rfl
  | .fad d e xs i p, cs, hb, _, ⟨_, _, _, _, _, _, _, _, _, _, _, o⟩, v, hv => by rw [o] at hv; simp at hv; rw [hv]; rfl
  | .nilA, cs, hb, _, o, v, hv => by rw [show cs = [] from o] at hv; cases hv
  | .consA a b, cs, hb, hn, ⟨c1, c2, e, o1, o2⟩, v, hv => by
      simp only [noHole, Bool.and_eq_true] at hn
      rw [e] at hv
      rcases List.mem_append.1 hv with hv | hv
      · exact SVc.one hb hn.1 o1 v hv
      · exact SVc.one hb hn.2 o2 v hv
  | .hole n, cs, hb, hn, o, v, hv => by cases hn
  | .nilI, cs, hb, _, o, v, hv => by rw [show cs = _ from o] at hv; simp at hv; rw [hv]; rfl
  | .nilP, cs, hb, _, o, v, hv => by rw [show cs = _ from o] at hv; simp at hv; rw [hv]; rfl
  | .nilM, cs, hb, _, o, v, hv => by rw [show cs = _ from o] at hv; simp at hv; rw [hv]; rfl
  | .arp _ _ _, cs, hb, _, ⟨_, _, o⟩, v, hv => by rw [o] at hv; simp at hv; rw [hv]; rfl
  | .vw _ _ _ _, cs, hb, _, ⟨_, _, _, _, _, _, _, _, _, o⟩, v, hv => by rw [o] at hv; simp at hv; rw [hv]; rfl
  | .ifs _ _ _, cs, hb, _, ⟨_, o, _⟩, v, hv => by rw [o] at hv; simp at hv; rw [hv]; rfl
  | .gl _, cs, hb, _, o, v, hv => by rw [show cs = _ from o] at hv; simp at hv; rw [hv]; rfl
  | .fn _, cs, hb, _, o, v, hv => by rw [show cs = _ from o] at hv; simp at hv; rw [hv]; rfl
  | .nilT, cs, hb, hn, o, v, hv => o.elim
  | .consT _ _, cs, hb, hn, o, v, hv => o.elim
end
end
end Go.Proofs.YtjpeblicfhfniaaDoor.Eng
