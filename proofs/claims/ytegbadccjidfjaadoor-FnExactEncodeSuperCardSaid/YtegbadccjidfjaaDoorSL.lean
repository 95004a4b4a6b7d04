/- The law FnExactEncodeSuper. -/
import Derived.Test.YtegbadccjidfjaaDoorSp
import Derived.Test.YtegbadccjidfjaaDoorPS
import Derived.Test.YtegbadccjidfjaaDoorT4
namespace Go.Proofs.YtegbadccjidfjaaDoor.EngTab
open Go.Proofs.YtegbadccjidfjaaDoor.Eng
set_option maxRecDepth 100000
set_option linter.unusedVariables false
set_option linter.unusedSimpArgs false
def c4 (g : Sen) : Con := { ps := [(false, 0, tySup)], rs := [(0, .bool)], pre := fun _ => True, post := fun x y _ => y.1 = true, gl := g.gl4 }
set_option maxHeartbeats 8000000 in
theorem ok4 (g : Sen) : FnOK Tryd.prog 4 (c4 g) := by
  refine FnOK.of_vc mixed tabM4Ok (.cons en20 ok20 (.cons en21 ok21 (.cons en22 ok22 (.cons en23 (ok23 g) (.cons en15 ok15 (.cons en24 ok24 (.cons en25 ok25 (.cons en18 ok18 (.cons en19 ok19 .nil))))))))) Tryd.func4 rfl (by show 1 ≤ Tryd.f4.ntmps; decide) lv4 hd4 ?_
  rintro ⟨⟨(bl0 : Int), (ge0 : Int), (ne0 : Int), (ta0 : Int), (rs0 : List RootD), ⟨⟩⟩, ⟨⟩⟩ - hwf
  have hlm : rs0.length ≤ maxL := hwf.1.2.2.2.2.1.1
  generalize hM : real = M
  cbv
  refine ⟨fun _ => ⟨(by show (0 : Int) ≤ 1048576; omega), (by show (1048576 : Int) ≤ 1048576; omega)⟩, ?_⟩
  rintro ⟨(y0 : Int), ⟨⟩⟩ x0 (hy0 : y0 = szV rs0.length 1048576) - -
  cbv
  refine splM (fun h => ?_) (fun h => ?_) <;> cbv
  · exact fun _ => rfl
  have hl : rs0.length ≤ 1048576 := by
    (try subst hM); (try simp only [Eng.ncast] at *); (try simp only [Eng.nI_eq] at *); (try simp only [Eng.real, decide_eq_true_eq, decide_eq_false_iff_not, Bool.not_eq_true', Bool.not_eq_false', Bool.and_eq_true, Bool.or_eq_true, Eng.sEq_dec, Bool.not_true, Bool.not_false, gt_iff_lt, ge_iff_le] at *)
    unfold szV at hy0
    split at hy0 <;> omega
  clear h
  refine ⟨fun _ => hl, ?_⟩
  rintro ⟨⟨(bl1 : Int), (ge1 : Int), (ne1 : Int), (ta1 : Int), (rs1 : List RootD), ⟨⟩⟩, ⟨⟩⟩ x1 (h1 : (bl1, ge1, ne1, ta1, rs1, PUnit.unit) = (bl0, ge0, ne0, ta0, rs0, PUnit.unit)) - -
  have h1bl : bl0 = bl1 := (congrArg (·.1) h1).symm
  have h1ge : ge0 = ge1 := (congrArg (·.2.1) h1).symm
  have h1ne : ne0 = ne1 := (congrArg (·.2.2.1) h1).symm
  have h1ta : ta0 = ta1 := (congrArg (·.2.2.2.1) h1).symm
  have h1rs : rs0 = rs1 := (congrArg (·.2.2.2.2.1) h1).symm
  subst h1bl
  subst h1ge
  subst h1ne
  subst h1ta
  subst h1rs
  clear h1
  cbv
  refine ⟨fun _ => hl, ?_⟩
  rintro ⟨(w0 : List Int), (w1 : Int), ⟨⟩⟩ x2 ⟨(hw0 : w0 = encS bl0 ge0 ne0 ta0 rs0), (hw1 : w1 = encC (supOK bl0 ge0 ne0 ta0 rs0))⟩ - -
  cbv
  refine ⟨fun _ => hl, ?_⟩
  rintro ⟨⟨(bl2 : Int), (ge2 : Int), (ne2 : Int), (ta2 : Int), (rs2 : List RootD), ⟨⟩⟩, ⟨⟩⟩ x3 (h2 : (bl2, ge2, ne2, ta2, rs2, PUnit.unit) = (bl0, ge0, ne0, ta0, rs0, PUnit.unit)) - -
  have h2bl : bl0 = bl2 := (congrArg (·.1) h2).symm
  have h2ge : ge0 = ge2 := (congrArg (·.2.1) h2).symm
  have h2ne : ne0 = ne2 := (congrArg (·.2.2.1) h2).symm
  have h2ta : ta0 = ta2 := (congrArg (·.2.2.2.1) h2).symm
  have h2rs : rs0 = rs2 := (congrArg (·.2.2.2.2.1) h2).symm
  subst h2bl
  subst h2ge
  subst h2ne
  subst h2ta
  subst h2rs
  clear h2
  cbv
  refine ⟨fun _ => hl, ?_⟩
  rintro ⟨(g0 : List Int), (g1 : Int), ⟨⟩⟩ x4 ⟨(hg0 : g0 = encS bl0 ge0 ne0 ta0 rs0), (hg1 : g1 = encC (supOK bl0 ge0 ne0 ta0 rs0))⟩ - -
  have hlen : (encS bl0 ge0 ne0 ta0 rs0).length ≤ 1048576 := Nat.le_trans encS_len (by omega)
  cbv
  refine ⟨fun _ => (by show g0.length ≤ 1048576; rw [hg0]; exact hlen), ?_⟩
  rintro ⟨(e1 : Bool), ⟨⟩⟩ x5 (he1 : g0 = w0 → e1 = true) - -
  have he1' : e1 = true := he1 (hg0.trans hw0.symm)
  subst he1'
  clear he1
  cbv
  have hgw : g1 = w1 := hg1.trans hw1.symm
  subst hgw
  refine splM (fun h => ?_) (fun h => ?_) <;> cbv
  · exfalso; subst hM; rw [notT] at h; cases h
  clear h
  refine splM (fun h => ?_) (fun h => ?_) <;> cbv
  · exfalso; subst hM; rw [eqSelf] at h; cases h
  clear h
  refine ⟨ot4_10, (fun _ => by kernel_rfl), ?_⟩
  cbv
  repeat' (first
    | exact True.intro
    | (refine And.intro ?_ True.intro)
    | (refine And.intro (fun _ => hl) ?_
       rintro ⟨⟨(bl3 : Int), (ge3 : Int), (ne3 : Int), (ta3 : Int), (rs3 : List RootD), ⟨⟩⟩, ⟨⟩⟩ x6 (h3 : (bl3, ge3, ne3, ta3, rs3, PUnit.unit) = (bl0, ge0, ne0, ta0, rs0, PUnit.unit)) - -
       have h3bl : bl0 = bl3 := (congrArg (·.1) h3).symm
       have h3ge : ge0 = ge3 := (congrArg (·.2.1) h3).symm
       have h3ne : ne0 = ne3 := (congrArg (·.2.2.1) h3).symm
       have h3ta : ta0 = ta3 := (congrArg (·.2.2.2.1) h3).symm
       have h3rs : rs0 = rs3 := (congrArg (·.2.2.2.2.1) h3).symm
       subst h3bl
       subst h3ge
       subst h3ne
       subst h3ta
       subst h3rs
       clear h3
       cbv)
    | (refine And.intro (fun _ => hl) ?_
       rintro ⟨(e2 : Bool), ⟨⟩⟩ x7 (he2 : (bl0, ge0, ne0, ta0, rs0, PUnit.unit) = (bl0, ge0, ne0, ta0, rs0, PUnit.unit) → e2 = true) - -
       have he2' : e2 = true := he2 rfl
       subst he2'
       clear he2
       cbv)
    | (refine And.intro (fun _ => hl) ?_
       rintro ⟨(e2 : Bool), ⟨⟩⟩ x7 (he2 : (bl0, ge0, ne0, ta0, rs0, PUnit.unit) = (bl3, ge3, ne3, ta3, rs3, PUnit.unit) → e2 = true) - -
       have he2' : e2 = true := he2 rfl
       subst he2'
       clear he2
       cbv)
    | (refine And.intro ?_ ?_))
  all_goals
    refine splM (fun h => ?_) (fun h => ?_) <;> cbv
    · exfalso; subst hM; rw [notT] at h; cases h
    clear h
    refine ⟨fun _ => ⟨hl, (by show (0 : Int) ≤ 1; omega), (by show (1 : Int) ≤ 1048576; omega)⟩, ?_⟩
    rintro ⟨(k1 : Int), ⟨⟩⟩ ⟨⟨(bl9 : Int), (ge9 : Int), (ne9 : Int), (ta9 : Int), (rs9 : List RootD), ⟨⟩⟩, xk, ⟨⟩⟩ (hk1 : k1 = 1 + 2 * (rs0.length : Int)) - -
    cbv
    refine splM (fun h => ?_) (fun h => ?_) <;> cbv
    · exfalso; (try subst hM); (try simp only [Eng.ncast] at *); (try simp only [Eng.nI_eq] at *); (try simp only [Eng.real, decide_eq_true_eq, decide_eq_false_iff_not, Bool.not_eq_true', Bool.not_eq_false', Bool.and_eq_true, Bool.or_eq_true, Eng.sEq_dec, Bool.not_true, Bool.not_false, gt_iff_lt, ge_iff_le] at *); omega
    clear h
    refine ⟨fun _ => (by show g0.length ≤ 1048576; rw [hg0]; exact hlen), ?_⟩
    rintro ⟨(e3 : Bool), ⟨⟩⟩ x8 (he3 : g0 = w0 → e3 = true) - -
    have he3' : e3 = true := he3 (hg0.trans hw0.symm)
    subst he3'
    clear he3
    cbv
    refine splM (fun h => ?_) (fun h => ?_) <;> cbv
    · exfalso; subst hM; rw [notT] at h; cases h
    clear h
    refine splM (fun h => ?_) (fun h => ?_) <;> cbv
    · exfalso; subst hM; rw [eqSelf] at h; cases h
    clear h
    refine ⟨fun _ => ⟨(by show g0.length ≤ 1048576; rw [hg0]; exact hlen), (by show (0 : Int) ≤ 1; omega), (by show (1 : Int) ≤ 1048576; omega)⟩, ?_⟩
    rintro ⟨(m1 : Int), ⟨⟩⟩ ⟨(gm : List Int), xm, ⟨⟩⟩ ⟨(hm1 : m1 = 1 + (g0.length : Int)), (hgm : gm = markB 1 g0.length)⟩ - -
    cbv
    have hgl : gm.length = g0.length := by rw [hgm, markB_len]
    refine ⟨fun _ => ⟨(by show gm.length ≤ 1048576; rw [hgl, hg0]; exact hlen), (by show (0 : Int) ≤ 1; omega), (by show (1 : Int) ≤ 1048576; omega)⟩, ?_⟩
    rintro ⟨(qq : Int), ⟨⟩⟩ x9 (hqq : gm = markB 1 gm.length → qq = 1 + (gm.length : Int)) - -
    have hqv : qq = m1 := by rw [hqq (by rw [hgl]; exact hgm), hm1, hgl]
    subst hqv
    clear hqq
    cbv
    refine splM (fun h => ?_) (fun h => ?_) <;> cbv
    · exfalso; (try subst hM); (try simp only [Eng.ncast] at *); (try simp only [Eng.nI_eq] at *); (try simp only [Eng.real, decide_eq_true_eq, decide_eq_false_iff_not, Bool.not_eq_true', Bool.not_eq_false', Bool.and_eq_true, Bool.or_eq_true, Eng.sEq_dec, Bool.not_true, Bool.not_false, gt_iff_lt, ge_iff_le] at *); omega
    clear h
    refine splM (fun h => ?_) (fun h => ?_) <;> cbv
    · exfalso; subst hM; rw [eqSelf] at h; cases h
    clear h
    refine ⟨fun _ => hl, ?_⟩
    rintro ⟨⟨(bl4 : Int), (ge4 : Int), (ne4 : Int), (ta4 : Int), (rs4 : List RootD), ⟨⟩⟩, ⟨⟩⟩ x10 (h4 : (bl4, ge4, ne4, ta4, rs4, PUnit.unit) = (bl0, ge0, ne0, ta0, rs0, PUnit.unit)) - -
    have h4bl : bl0 = bl4 := (congrArg (·.1) h4).symm
    have h4ge : ge0 = ge4 := (congrArg (·.2.1) h4).symm
    have h4ne : ne0 = ne4 := (congrArg (·.2.2.1) h4).symm
    have h4ta : ta0 = ta4 := (congrArg (·.2.2.2.1) h4).symm
    have h4rs : rs0 = rs4 := (congrArg (·.2.2.2.2.1) h4).symm
    subst h4bl
    subst h4ge
    subst h4ne
    subst h4ta
    subst h4rs
    clear h4
    cbv
    refine ⟨fun _ => hl, ?_⟩
    rintro ⟨(h0 : List Int), (h1 : Int), ⟨⟩⟩ x11 ⟨(hh0 : h0 = encS bl0 ge0 ne0 ta0 rs0), (hh1 : h1 = encC (supOK bl0 ge0 ne0 ta0 rs0))⟩ - -
    cbv
    refine ⟨fun _ => (by show h0.length ≤ 1048576; rw [hh0]; exact hlen), ?_⟩
    rintro ⟨(e5 : Bool), ⟨⟩⟩ x12 (he5 : h0 = w0 → e5 = true) - -
    have he5' : e5 = true := he5 (hh0.trans hw0.symm)
    subst he5'
    clear he5
    have hhw : h1 = g1 := hh1.trans hw1.symm
    subst hhw
    cbv
    refine splM (fun h => ?_) (fun h => ?_) <;> cbv
    · exfalso; subst hM; rw [notT] at h; cases h
    clear h
    refine splM (fun h => ?_) (fun h => ?_) <;> cbv
    · exfalso; subst hM; rw [eqSelf] at h; cases h
    exact fun _ => rfl
end Go.Proofs.YtegbadccjidfjaaDoor.EngTab
