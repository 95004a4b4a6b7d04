/- Contracts: the specification's EncodeNode, and the plain law of nodes. -/
import Derived.Test.YtmjeghlfmhbjdaaDoorNS
namespace Go.Proofs.YtmjeghlfmhbjdaaDoor.EngTab
open Go.Proofs.YtmjeghlfmhbjdaaDoor.Eng
set_option maxRecDepth 100000
set_option linter.unusedVariables false
set_option linter.unusedSimpArgs false
def c22 : Con := Con.of ⟨[(false, 0, tyNode)], [(1, tyB), (0, .int .i64)], fun x => x.1.2.1.length ≤ 1048576, fun x y _ => y.1 = encN x.1.1 x.1.2.1 ∧ y.2.1 = encC (nodeOK x.1.1 x.1.2.1)⟩
set_option maxHeartbeats 8000000 in
theorem ok22 : FnOK Tryd.prog 22 c22 := by
  refine FnOK.of_vc mixed tabOk (.cons en37 ok37 (.cons en38 ok38 (.cons en39 ok39 (.cons en40 ok40 .nil)))) Tryd.func22 rfl (by decide) lv22 hd22 ?_
  rintro ⟨⟨(kind : Int), (es : List EntD), ⟨⟩⟩, ⟨⟩⟩ (hl : es.length ≤ 1048576) hwf
  generalize hM : real = M
  cbv
  refine ⟨fun _ => hl, ?_⟩
  rintro ⟨(y : Bool), ⟨⟩⟩ x' (hy : y = true ↔ nodeOK kind es) - -
  cbv
  refine splM (fun h5 => ?_) (fun h5 => ?_) <;> cbv
  · rintro -
    have hn : ¬ nodeOK kind es := fun ho => by have := hy.2 ho; subst this; subst hM; cases h5
    exact ⟨by unfold encN; rw [if_neg hn], by unfold encC; rw [if_neg hn]⟩
  have hyt : y = true := by cases y <;> first | rfl | (subst hM; cases h5)
  have hOK := hy.1 hyt
  have hl5 : es.length ≤ 5 := (nodeOK_iff.1 hOK).2.1
  refine ⟨fun m Γ => ∃ (i : Nat) (j : Int) (r : Nat) (xs : List Int), (r = 1 ∨ r = 2) ∧ j = i ∧ i ≤ es.length ∧ xs = [kind % 256, (es.length : Int) % 256, 0, 0] ++ entsB kind es i ∧ m = es.length - i ∧ Γ = ⟨51, [(1, .ad 0 tyNode 0 []), (4, .ref r), (5, .pv [] (.int .i64) j)], [(0, .box (.consA (.pv [] (.int .i64) kind) (.consA (.pv [] (.sl tyEnt) es) .nilA))), (r, .row 0 (.int .u8) xs)], [.hole 0]⟩, ⟨_, 0, 0, 1, _, .inl rfl, rfl, Nat.zero_le _, ?_, rfl, rfl⟩, ?_⟩
  · (try subst hM); (try simp only [jqn] at *); (try simp only [jqi] at *); (try simp only [real, jq1, jq2, jq3, jq4, jq5, jq6, sEq_dec, Bool.not_true, Bool.not_false, gt_iff_lt, ge_iff_le] at *)
    simp only [wrap8_mod]; rfl
  rintro m _ ⟨i, j, r, xs, hr, hj, hi, hx, rfl, rfl⟩ -
  have hxl : xs.length = 4 + 24 * i := by rw [hx, List.length_append, entsB_len]; rfl
  rcases hr with rfl | rfl <;> cbv
  all_goals
    refine splM (fun h6 => ?_) (fun h6 => ?_) <;> cbv
    · have hin : i < es.length := by
        (try subst hM); (try simp only [jqn] at *); (try simp only [jqi] at *); (try simp only [real, jq1, jq2, jq3, jq4, jq5, jq6, sEq_dec, Bool.not_true, Bool.not_false, gt_iff_lt, ge_iff_le] at *)
        omega
      (try simp only [jqn] at hi hj hxl); (try simp only [jqi] at hi hj hxl)
      have hji : j.toNat = i := by rw [hj]; simp
      have e0 : es.getD j.toNat (⟨#[]⟩, ⟨#[]⟩, 0, PUnit.unit) = entAt es i := by rw [hji]; rfl
      refine ⟨by (try subst hM); (try simp only [jqn] at *); (try simp only [jqi] at *); (try simp only [real, jq1, jq2, jq3, jq4, jq5, jq6, sEq_dec, Bool.not_true, Bool.not_false, gt_iff_lt, ge_iff_le] at *); omega, by (try subst hM); (try simp only [jqn] at *); (try simp only [jqi] at *); (try simp only [real, jq1, jq2, jq3, jq4, jq5, jq6, sEq_dec, Bool.not_true, Bool.not_false, gt_iff_lt, ge_iff_le] at *); omega, fun _ => ⟨(by show (0 : Int) ≤ 12; omega), (by show (12 : Int) ≤ 12; omega), (by show xs.length ≤ 1000; omega)⟩, ?_⟩
      rintro ⟨(z1 : List Int), ⟨⟩⟩ q1 hz1 - -
      have hz1 : z1 = xs ++ textB (entAt es i).1 12 := by rw [← e0]; subst hM; exact hz1
      have hl1 : z1.length = xs.length + 13 := by rw [hz1]; simp [textB_len, numB_len]
      cbv
      refine splM (fun h7 => ?_) (fun h7 => ?_) <;> cbv
      · refine ⟨fun _ => ⟨(by show (0 : Int) ≤ 10; omega), (by show (10 : Int) ≤ 12; omega), (by show z1.length ≤ 1000; omega)⟩, ?_⟩
        rintro ⟨(z2 : List Int), ⟨⟩⟩ q2 hz2 - -
        have hz2 : z2 = z1 ++ textB (entAt es i).2.1 10 := by rw [← e0]; subst hM; exact hz2
        have hl2 : z2.length = z1.length + 11 := by rw [hz2]; simp [textB_len, numB_len]
        cbv
        have hk1 : kind = 1 := by
          (try subst hM); (try simp only [jqn] at *); (try simp only [jqi] at *); (try simp only [real, jq1, jq2, jq3, jq4, jq5, jq6, sEq_dec, Bool.not_true, Bool.not_false, gt_iff_lt, ge_iff_le] at *)
          omega
        have hfin : z2 = [kind % 256, (es.length : Int) % 256, 0, 0] ++ entsB kind es (i + 1) := by
          rw [hz2, hz1, hx]
          show _ = _ ++ (entsB kind es i ++ entB kind (entAt es i))
          unfold entB
          rw [if_pos hk1]
          unfold entL
          simp only [List.append_assoc]
        first
          | (refine ⟨es.length - (i + 1), by omega, i + 1, _, 1, _, .inl rfl, ?_, hin, hfin, rfl, rfl⟩
             (try subst hM); (try simp only [jqn] at *); (try simp only [jqi] at *); (try simp only [real, jq1, jq2, jq3, jq4, jq5, jq6, sEq_dec, Bool.not_true, Bool.not_false, gt_iff_lt, ge_iff_le] at *)
             rw [hj, w64 (by omega)]; omega)
          | (refine ⟨es.length - (i + 1), by omega, i + 1, _, 2, _, .inr rfl, ?_, hin, hfin, rfl, rfl⟩
             (try subst hM); (try simp only [jqn] at *); (try simp only [jqi] at *); (try simp only [real, jq1, jq2, jq3, jq4, jq5, jq6, sEq_dec, Bool.not_true, Bool.not_false, gt_iff_lt, ge_iff_le] at *)
             rw [hj, w64 (by omega)]; omega)
      · refine ⟨fun _ => ⟨(by show (0 : Int) ≤ 2; omega), (by show (2 : Int) ≤ 8; omega), (by show z1.length ≤ 1000; omega)⟩, ?_⟩
        rintro ⟨(z2 : List Int), ⟨⟩⟩ q2 hz2 - -
        have hz2 : z2 = z1 ++ numB (entAt es i).2.2.1 2 := by rw [← e0]; subst hM; exact hz2
        have hl2 : z2.length = z1.length + 2 := by rw [hz2]; simp [textB_len, numB_len]
        cbv
        refine ⟨fun _ => ⟨(by show (0 : Int) ≤ 7; omega), (by show (7 : Int) ≤ 8; omega), (by show z2.length ≤ 1000; omega)⟩, ?_⟩
        rintro ⟨(z3 : List Int), ⟨⟩⟩ q3 hz3 - -
        have hz3 : z3 = z2 ++ numB 0 7 := by exact hz3
        have hl3 : z3.length = z2.length + 7 := by rw [hz3]; simp [textB_len, numB_len]
        cbv
        refine ⟨fun _ => ⟨(by show (0 : Int) ≤ 2; omega), (by show (2 : Int) ≤ 8; omega), (by show z3.length ≤ 1000; omega)⟩, ?_⟩
        rintro ⟨(z4 : List Int), ⟨⟩⟩ q4 hz4 - -
        have hz4 : z4 = z3 ++ numB 0 2 := by exact hz4
        have hl4 : z4.length = z3.length + 2 := by rw [hz4]; simp [textB_len, numB_len]
        cbv
        have hk1 : ¬ kind = 1 := by
          (try subst hM); (try simp only [jqn] at *); (try simp only [jqi] at *); (try simp only [real, jq1, jq2, jq3, jq4, jq5, jq6, sEq_dec, Bool.not_true, Bool.not_false, gt_iff_lt, ge_iff_le] at *)
          omega
        have hfin : z4 = [kind % 256, (es.length : Int) % 256, 0, 0] ++ entsB kind es (i + 1) := by
          rw [hz4, hz3, hz2, hz1, hx]
          show _ = _ ++ (entsB kind es i ++ entB kind (entAt es i))
          unfold entB
          rw [if_neg hk1]
          unfold entI
          simp only [List.append_assoc]
        first
          | (refine ⟨es.length - (i + 1), by omega, i + 1, _, 1, _, .inl rfl, ?_, hin, hfin, rfl, rfl⟩
             (try subst hM); (try simp only [jqn] at *); (try simp only [jqi] at *); (try simp only [real, jq1, jq2, jq3, jq4, jq5, jq6, sEq_dec, Bool.not_true, Bool.not_false, gt_iff_lt, ge_iff_le] at *)
             rw [hj, w64 (by omega)]; omega)
          | (refine ⟨es.length - (i + 1), by omega, i + 1, _, 2, _, .inr rfl, ?_, hin, hfin, rfl, rfl⟩
             (try subst hM); (try simp only [jqn] at *); (try simp only [jqi] at *); (try simp only [real, jq1, jq2, jq3, jq4, jq5, jq6, sEq_dec, Bool.not_true, Bool.not_false, gt_iff_lt, ge_iff_le] at *)
             rw [hj, w64 (by omega)]; omega)
    · have hie : i = es.length := by
        (try subst hM); (try simp only [jqn] at *); (try simp only [jqi] at *); (try simp only [real, jq1, jq2, jq3, jq4, jq5, jq6, sEq_dec, Bool.not_true, Bool.not_false, gt_iff_lt, ge_iff_le] at *)
        omega
      subst hie
      refine ⟨fun _ => (by show xs.length ≤ 124; omega), ?_⟩
      rintro ⟨(y : List Int), ⟨⟩⟩ q (hyy : y = sealB xs) - -
      cbv
      rintro -
      refine ⟨?_, by unfold encC; rw [if_pos hOK]⟩
      show y = encN kind es
      unfold encN
      rw [if_pos hOK, hyy, hx]; rfl
end Go.Proofs.YtmjeghlfmhbjdaaDoor.EngTab
