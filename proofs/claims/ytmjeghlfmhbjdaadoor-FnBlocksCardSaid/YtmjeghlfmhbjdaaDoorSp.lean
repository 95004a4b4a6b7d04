/- impl.EncodeSuper. -/
import Derived.Test.YtmjeghlfmhbjdaaDoorI4
import Derived.Test.YtmjeghlfmhbjdaaDoorT3
import Derived.Test.YtmjeghlfmhbjdaaDoorO
namespace Go.Proofs.YtmjeghlfmhbjdaaDoor.EngTab
open Go.Proofs.YtmjeghlfmhbjdaaDoor.Eng
set_option maxRecDepth 100000
set_option linter.unusedVariables false
set_option linter.unusedSimpArgs false
def c16 (g : Sen) : Con := { ps := [(false, 0, tySup)], rs := [(1, tyB), (0, .int .i64)], pre := fun x => x.1.2.2.2.2.1.length ≤ 1048576, post := fun x y _ => y.1 = encS x.1.1 x.1.2.1 x.1.2.2.1 x.1.2.2.2.1 x.1.2.2.2.2.1 ∧ y.2.1 = encC (supOK x.1.1 x.1.2.1 x.1.2.2.1 x.1.2.2.2.1 x.1.2.2.2.2.1), gl := g.gl4 }
set_option maxHeartbeats 8000000 in
theorem ok16 (g : Sen) : FnOK Tryd.prog 16 (c16 g) := by
 refine FnOK.of_vc mixed tabM4Ok (.cons en29 (ok29b g) (.cons (by exact .mk Tryd.func30 (by rfl) rfl) (ok30 g) .nil)) Tryd.func16 rfl (by show 1 ≤ Tryd.f16.ntmps; decide) lv16 hd16 ?_
 rintro ⟨⟨(bl : Int), (ge : Int), (ne : Int), (ta : Int), (rs : List RootD), ⟨⟩⟩, ⟨⟩⟩ hl hwf
 have hl : rs.length ≤ 1048576 := hl
 generalize hM : real = M
 cbv
 refine ⟨fun _ => hl, ?_⟩
 rintro ⟨(b : List Int), (er : ErrD), ⟨⟩⟩ x' ⟨(h1 : supOK bl ge ne ta rs → b = sumB (layS 4 (M.ofN (M.len rs)) bl ge ne ta rs) ∧ er = .inr ()), (h2 : ¬ supOK bl ge ne ta rs → b = [] ∧ er = .inl (some (-1, g.form, ())))⟩ - -
 by_cases hOK : supOK bl ge ne ta rs
 ·obtain ⟨hb, rfl⟩ := h1 hOK
  cbv
  refine ⟨fun _ => trivial, ?_⟩
  rintro ⟨(y : Int), ⟨⟩⟩ x'' (hy : y = 0) - -
  cbv
  rintro -
  refine ⟨?_, by unfold encC; rw [if_pos hOK]; exact hy⟩
  (try subst hM); (try simp only [jqn] at *); (try simp only [jqi] at *); (try simp only [real, jq1, jq2, jq3, jq4, jq5, jq6, sEq_dec, Bool.not_true, Bool.not_false, gt_iff_lt, ge_iff_le] at *)
  show b = encS bl ge ne ta rs
  rw [hb]
  exact encS_sum hOK
 ·obtain ⟨hb, rfl⟩ := h2 hOK
  cbv
  refine ⟨fun _ => (by show (-1 : Int) < 0; omega), ?_⟩
  rintro ⟨(y : Int), ⟨⟩⟩ x'' (hy : y = 5) - -
  cbv
  rintro -
  refine ⟨?_, by unfold encC; rw [if_neg hOK]; exact hy⟩
  show b = encS bl ge ne ta rs
  unfold encS
  rw [if_neg hOK]
  exact hb
end Go.Proofs.YtmjeghlfmhbjdaaDoor.EngTab
