/- The law FnExactDecodeNode. -/
import Derived.Test.YtegbadccjidfjaaDoorD5
import Derived.Test.YtegbadccjidfjaaDoorR9
import Derived.Test.YtegbadccjidfjaaDoorDN
namespace Go.Proofs.YtegbadccjidfjaaDoor.EngTab
open Go.Proofs.YtegbadccjidfjaaDoor.Eng
set_option maxRecDepth 100000
set_option linter.unusedVariables false
set_option linter.unusedSimpArgs false
theorem decN_len {b : List Int} : (decN b).1.2.1.length ≤ 1048576 := by
  unfold decN
  split
  · simp
  split
  · rename_i h
    have := (nodeOK_iff.1 h.1).2.1
    show (readCuts b (cnt b 5)).length ≤ 1048576
    omega
  · simp
def c8 (g : Sen) : Con := { ps := [(false, 0, tyB)], rs := [(0, .bool)], pre := fun _ => True, post := fun x y _ => y.1 = true, gl := g.gl4 }
set_option maxHeartbeats 4000000 in
theorem ok8 (g : Sen) (hgood : g.good) : FnOK Tryd.prog 8 (c8 g) := by
  refine FnOK.of_vc mixed tabM4Ok (.cons en15 ok15 (.cons en18 ok18 (.cons en27 ok27 (.cons en37 ok37 (.cons en38 ok38 (.cons en39 ok39 (.cons en40 (ok40 g hgood) (.cons en41 ok41 .nil)))))))) Tryd.func8 rfl (by show 1 ≤ Tryd.f8.ntmps; decide) lv8 hd8 ?_
  rintro ⟨(b : List Int), ⟨⟩⟩ - hwf
  have hL : (decN b).1.2.1.length ≤ 1048576 := decN_len
  generalize hM : real = M
  cbv
  refine splM (fun h => ?_) (fun h => ?_) <;> cbv
  · exact fun _ => rfl
  have hl : b.length ≤ 1048576 := by
    (try subst hM); (try simp only [Eng.ncast] at *); (try simp only [Eng.nI_eq] at *); (try simp only [Eng.real, decide_eq_true_eq, decide_eq_false_iff_not, Bool.not_eq_true', Bool.not_eq_false', Bool.and_eq_true, Bool.or_eq_true, Eng.sEq_dec, Bool.not_true, Bool.not_false, gt_iff_lt, ge_iff_le] at *)
    omega
  clear h
  refine ⟨fun _ => hl, ?_⟩
  rintro ⟨(b1 : List Int), ⟨⟩⟩ x0 (h_b1 : b1 = b) - -
  subst h_b1
  cbv
  refine ⟨fun _ => hl, ?_⟩
  rintro ⟨⟨(wk : Int), (wr : List EntD), ⟨⟩⟩, (w1 : Int), ⟨⟩⟩ x2 (hy : ((wk, wr, PUnit.unit), w1) = decN b1) - -
  have hw := hy
  clear hy
  have hwl : wr.length ≤ 1048576 := by rw [← hw] at hL; exact hL
  cbv
  refine ⟨fun _ => hl, ?_⟩
  rintro ⟨(b2 : List Int), ⟨⟩⟩ x3 (h_b2 : b2 = b1) - -
  obtain rfl : b1 = b2 := h_b2.symm
  clear h_b2
  cbv
  refine ⟨fun _ => hl, ?_⟩
  rintro ⟨⟨(gk : Int), (gr : List EntD), ⟨⟩⟩, (g1 : Int), ⟨⟩⟩ x4 (hy : ((gk, gr, PUnit.unit), g1) = decN b1) - -
  have e := hy.trans hw.symm
  have e0 : wk = gk := (congrArg (·.1.1) e).symm
  have e1 : wr = gr := (congrArg (·.1.2.1) e).symm
  have ec : w1 = g1 := (congrArg (·.2) e).symm
  subst e0
  subst e1
  subst ec
  clear e hy
  cbv
  refine ⟨fun _ => hwl, ?_⟩
  rintro ⟨(q1 : Bool), ⟨⟩⟩ x5 (h_q1 : (wk, wr, PUnit.unit) = (wk, wr, PUnit.unit) → q1 = true) - -
  have h2_q1 : q1 = true := h_q1 rfl
  subst h2_q1
  clear h_q1
  cbv
  refine splM (fun h => ?_) (fun h => ?_) <;> cbv
  · exfalso; subst hM; rw [nT] at h; cases h
  clear h
  refine splM (fun h => ?_) (fun h => ?_) <;> cbv
  · exfalso; subst hM; rw [nE] at h; cases h
  clear h
  refine ⟨fun _ => hl, ?_⟩
  rintro ⟨(b3 : List Int), ⟨⟩⟩ x6 (h_b3 : b3 = b1) - -
  obtain rfl : b1 = b3 := h_b3.symm
  clear h_b3
  cbv
  refine ⟨fun _ => hl, ?_⟩
  rintro ⟨(q2 : Bool), ⟨⟩⟩ x7 (h_q2 : b1 = b1 → q2 = true) - -
  obtain rfl : q2 = true := h_q2 rfl
  clear h_q2
  cbv
  refine splM (fun h => ?_) (fun h => ?_) <;> cbv
  · exfalso; subst hM; rw [nT] at h; cases h
  clear h
  refine ⟨fun _ => ⟨hl, (by show (0 : Int) ≤ 1; omega), (by show (1 : Int) ≤ 1048576; omega)⟩, ?_⟩
  rintro ⟨(k1 : Int), ⟨⟩⟩ ⟨(bm : List Int), xk, ⟨⟩⟩ ⟨(hk1 : k1 = 1 + (b1.length : Int)), (hbm : bm = markB 1 b1.length)⟩ - -
  cbv
  refine splM (fun h => ?_) (fun h => ?_) <;> cbv
  · exfalso; (try subst hM); (try simp only [Eng.ncast] at *); (try simp only [Eng.nI_eq] at *); (try simp only [Eng.real, decide_eq_true_eq, decide_eq_false_iff_not, Bool.not_eq_true', Bool.not_eq_false', Bool.and_eq_true, Bool.or_eq_true, Eng.sEq_dec, Bool.not_true, Bool.not_false, gt_iff_lt, ge_iff_le] at *); omega
  clear h
  refine ⟨fun _ => hwl, ?_⟩
  rintro ⟨(q3 : Bool), ⟨⟩⟩ x8 (h_q3 : (wk, wr, PUnit.unit) = (wk, wr, PUnit.unit) → q3 = true) - -
  have h2_q3 : q3 = true := h_q3 rfl
  subst h2_q3
  clear h_q3
  cbv
  refine splM (fun h => ?_) (fun h => ?_) <;> cbv
  · exfalso; subst hM; rw [nT] at h; cases h
  clear h
  refine splM (fun h => ?_) (fun h => ?_) <;> cbv
  · exfalso; subst hM; rw [nE] at h; cases h
  clear h
  refine ⟨fun _ => ⟨hwl, (by show (1 : Int) ≤ 1; omega), (by show (1 : Int) ≤ 1048576; omega)⟩, ?_⟩
  rintro ⟨(m1 : Int), ⟨⟩⟩ ⟨⟨(vk : Int), (vr : List EntD), ⟨⟩⟩, xm, ⟨⟩⟩ ⟨(hm1 : m1 = 1 + 3 * (wr.length : Int)), (hvm : vr = markE 1 wr.length), -⟩ - -
  have hvl : vr.length = wr.length := by rw [hvm, markE_len]
  cbv
  refine ⟨fun _ => ⟨(by show vr.length ≤ 1048576; rw [hvl]; exact hwl), (by show (1 : Int) ≤ 1; omega), (by show (1 : Int) ≤ 1048576; omega)⟩, ?_⟩
  rintro ⟨(qq : Int), ⟨⟩⟩ x9 (hqq : vr = markE 1 vr.length → qq = 1 + 3 * (vr.length : Int)) - -
  have hqv : qq = m1 := by rw [hqq (by rw [hvl]; exact hvm), hm1, hvl]
  subst hqv
  clear hqq
  cbv
  refine splM (fun h => ?_) (fun h => ?_) <;> cbv
  · exfalso; (try subst hM); (try simp only [Eng.ncast] at *); (try simp only [Eng.nI_eq] at *); (try simp only [Eng.real, decide_eq_true_eq, decide_eq_false_iff_not, Bool.not_eq_true', Bool.not_eq_false', Bool.and_eq_true, Bool.or_eq_true, Eng.sEq_dec, Bool.not_true, Bool.not_false, gt_iff_lt, ge_iff_le] at *); omega
  clear h
  refine splM (fun h => ?_) (fun h => ?_) <;> cbv
  · exfalso; subst hM; rw [nE] at h; cases h
  clear h
  refine ⟨fun _ => hl, ?_⟩
  rintro ⟨(b4 : List Int), ⟨⟩⟩ x10 (h_b4 : b4 = b1) - -
  obtain rfl : b1 = b4 := h_b4.symm
  clear h_b4
  cbv
  refine ⟨fun _ => hl, ?_⟩
  rintro ⟨⟨(hk : Int), (hr : List EntD), ⟨⟩⟩, (h1 : Int), ⟨⟩⟩ x11 (hy : ((hk, hr, PUnit.unit), h1) = decN b1) - -
  have e := hy.trans hw.symm
  have e0 : wk = hk := (congrArg (·.1.1) e).symm
  have e1 : wr = hr := (congrArg (·.1.2.1) e).symm
  have ec : w1 = h1 := (congrArg (·.2) e).symm
  subst e0
  subst e1
  subst ec
  clear e hy
  cbv
  refine ⟨fun _ => hwl, ?_⟩
  rintro ⟨(q4 : Bool), ⟨⟩⟩ x12 (h_q4 : (wk, wr, PUnit.unit) = (wk, wr, PUnit.unit) → q4 = true) - -
  have h2_q4 : q4 = true := h_q4 rfl
  subst h2_q4
  clear h_q4
  cbv
  refine splM (fun h => ?_) (fun h => ?_) <;> cbv
  · exfalso; subst hM; rw [nT] at h; cases h
  clear h
  refine splM (fun h => ?_) (fun h => ?_) <;> cbv
  · exfalso; subst hM; rw [nE] at h; cases h
  clear h
  exact fun _ => rfl
end Go.Proofs.YtegbadccjidfjaaDoor.EngTab
