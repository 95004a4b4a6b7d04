/- impl.EncodeNode. -/
import Derived.Test.YtmjeghlfmhbjdaaDoorI4
import Derived.Test.YtmjeghlfmhbjdaaDoorT3
import Derived.Test.YtmjeghlfmhbjdaaDoorNP
namespace Go.Proofs.YtmjeghlfmhbjdaaDoor.EngTab
open Go.Proofs.YtmjeghlfmhbjdaaDoor.Eng
set_option maxRecDepth 100000
set_option linter.unusedVariables false
set_option linter.unusedSimpArgs false
def formN (kind : Int) (es : List EntD) : Form4 := if kind = 1 then .inr (.inr (.inl (((1, (es.length : Int), ()), es, ()), ()))) else if kind = 2 then .inr (.inr (.inr (.inl (((2, (es.length : Int), ()), es, ()), ())))) else .inr (.inr (.inr (.inr ())))
def c28 : Con := Con.of ⟨[(false, 0, tyNode)], [(0, tyF4)], fun x => x.1.2.1.length ≤ 1048576, fun x y _ => y.1 = formN x.1.1 x.1.2.1⟩
theorem ok28 : FnOK Tryd.prog 28 c28 := by
 refine FnOK.of_vc mixed tabM4Ok .nil Tryd.func28 rfl (by decide) lv28 hd28 ?_
 rintro ⟨⟨(kind : Int), (es : List EntD), ⟨⟩⟩, ⟨⟩⟩ (hl : es.length ≤ 1048576) hwf
 generalize hM : real = M
 cbv
 refine splM (fun h => ?_) (fun h => ?_) <;> cbv
 ·rintro -
  (try subst hM); (try simp only [jqn] at *); (try simp only [jqi] at *); (try simp only [real, jq1, jq2, jq3, jq4, jq5, jq6, sEq_dec, Bool.not_true, Bool.not_false, gt_iff_lt, ge_iff_le] at *)
  subst h
  show _ = formN 1 es
  unfold formN
  rw [if_pos rfl]
 ·refine splM (fun h => ?_) (fun h => ?_) <;> cbv
  ·rintro -
   (try subst hM); (try simp only [jqn] at *); (try simp only [jqi] at *); (try simp only [real, jq1, jq2, jq3, jq4, jq5, jq6, sEq_dec, Bool.not_true, Bool.not_false, gt_iff_lt, ge_iff_le] at *)
   subst h
   show _ = formN 2 es
   unfold formN
   rw [if_neg (by omega), if_pos rfl]
  ·rintro -
   (try subst hM); (try simp only [jqn] at *); (try simp only [jqi] at *); (try simp only [real, jq1, jq2, jq3, jq4, jq5, jq6, sEq_dec, Bool.not_true, Bool.not_false, gt_iff_lt, ge_iff_le] at *)
   show _ = formN kind es
   unfold formN
   rw [if_neg (by omega), if_neg (by omega)]
def c6 (g : Sen) : Con := { ps := [(false, 0, tyNode)], rs := [(1, tyB), (0, .int .i64)], pre := fun x => x.1.2.1.length ≤ 1048576, post := fun x y _ => y.1 = encN x.1.1 x.1.2.1 ∧ y.2.1 = encC (nodeOK x.1.1 x.1.2.1), gl := g.gl4 }
set_option maxHeartbeats 8000000 in
theorem ok6 (g : Sen) : FnOK Tryd.prog 6 (c6 g) := by
 refine FnOK.of_vc mixed tabM4Ok (.cons en28 ok28 (.cons en29 (ok29b g) (.cons (by exact .mk Tryd.func30 (by rfl) rfl) (ok30 g) .nil))) Tryd.func6 rfl (by show 1 ≤ Tryd.f6.ntmps; decide) lv6 hd6 ?_
 rintro ⟨⟨(kind : Int), (es : List EntD), ⟨⟩⟩, ⟨⟩⟩ hl hwf
 have hl : es.length ≤ 1048576 := hl
 generalize hM : real = M
 cbv
 refine ⟨fun _ => hl, ?_⟩
 rintro ⟨(f : Form4), ⟨⟩⟩ x' (hf : f = formN kind es) - -
 unfold formN at hf
 obtain ⟨n, hn⟩ : ∃ n : Int, (es.length : Int) = n := ⟨_, rfl⟩
 rw [hn] at hf
 have hnn : ∀ P : Int → Prop, P (es.length : Int) → P n := fun P h => hn ▸ h
 clear hn
 by_cases h1 : kind = 1
 ·rw [if_pos h1] at hf
  subst hf; subst h1
  cbv
  refine ⟨fun _ => hl, ?_⟩
  rintro ⟨(b : List Int), (er : ErrD), ⟨⟩⟩ x' ⟨(h1 : leafOK es → b = sumB (layL 1 n es) ∧ er = .inr ()), (h2 : ¬ leafOK es → b = [] ∧ er = .inl (some (-1, g.form, ())))⟩ - -
  have hiff : nodeOK 1 es ↔ leafOK es := ⟨fun h => by rcases h with ⟨_, h⟩ | ⟨h, _⟩; exact h; omega, fun h => .inl ⟨rfl, h⟩⟩
  by_cases hOK : leafOK es
  ·obtain ⟨hb, rfl⟩ := h1 hOK
   cbv
   refine ⟨fun _ => trivial, ?_⟩
   rintro ⟨(y : Int), ⟨⟩⟩ x'' (hy : y = 0) - -
   cbv
   rintro -
   refine ⟨?_, by unfold encC; rw [if_pos (hiff.2 hOK)]; exact hy⟩
   show b = encN 1 es
   rw [hb]; exact hnn (fun n => sumB (layL 1 n es) = encN 1 es) (encN_leaf hOK)
  ·obtain ⟨hb, rfl⟩ := h2 hOK
   cbv
   refine ⟨fun _ => (by show (-1 : Int) < 0; omega), ?_⟩
   rintro ⟨(y : Int), ⟨⟩⟩ x'' (hy : y = 5) - -
   cbv
   rintro -
   refine ⟨?_, by unfold encC; rw [if_neg (fun h => hOK (hiff.1 h))]; exact hy⟩
   show b = encN 1 es
   unfold encN
   rw [if_neg (fun h => hOK (hiff.1 h))]
   exact hb
 rw [if_neg h1] at hf
 by_cases h2 : kind = 2
 ·rw [if_pos h2] at hf
  subst hf; subst h2
  cbv
  refine ⟨fun _ => hl, ?_⟩
  rintro ⟨(b : List Int), (er : ErrD), ⟨⟩⟩ x' ⟨(h1 : innerOK es → b = sumB (layI 2 n es) ∧ er = .inr ()), (h2 : ¬ innerOK es → b = [] ∧ er = .inl (some (-1, g.form, ())))⟩ - -
  have hiff : nodeOK 2 es ↔ innerOK es := ⟨fun h => by rcases h with ⟨h, _⟩ | ⟨_, h⟩; omega; exact h, fun h => .inr ⟨rfl, h⟩⟩
  by_cases hOK : innerOK es
  ·obtain ⟨hb, rfl⟩ := h1 hOK
   cbv
   refine ⟨fun _ => trivial, ?_⟩
   rintro ⟨(y : Int), ⟨⟩⟩ x'' (hy : y = 0) - -
   cbv
   rintro -
   refine ⟨?_, by unfold encC; rw [if_pos (hiff.2 hOK)]; exact hy⟩
   show b = encN 2 es
   rw [hb]; exact hnn (fun n => sumB (layI 2 n es) = encN 2 es) (encN_inner hOK)
  ·obtain ⟨hb, rfl⟩ := h2 hOK
   cbv
   refine ⟨fun _ => (by show (-1 : Int) < 0; omega), ?_⟩
   rintro ⟨(y : Int), ⟨⟩⟩ x'' (hy : y = 5) - -
   cbv
   rintro -
   refine ⟨?_, by unfold encC; rw [if_neg (fun h => hOK (hiff.1 h))]; exact hy⟩
   show b = encN 2 es
   unfold encN
   rw [if_neg (fun h => hOK (hiff.1 h))]
   exact hb
 rw [if_neg h2] at hf
 subst hf
 have hn : ¬ nodeOK kind es := fun h => by rcases h with ⟨h, _⟩ | ⟨h, _⟩ <;> omega
 cbv
 rintro -
 exact ⟨by unfold encN; rw [if_neg hn], by unfold encC; rw [if_neg hn]⟩
end Go.Proofs.YtmjeghlfmhbjdaaDoor.EngTab
