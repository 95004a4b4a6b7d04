/- The law FnExactEncodeNode. -/
import Derived.Test.YtegbadccjidfjaaDoorNE
import Derived.Test.YtegbadccjidfjaaDoorNM
import Derived.Test.YtegbadccjidfjaaDoorT4
namespace Go.Proofs.YtegbadccjidfjaaDoor.EngTab
open Go.Proofs.YtegbadccjidfjaaDoor.Eng
set_option maxRecDepth 100000
set_option linter.unusedVariables false
set_option linter.unusedSimpArgs false
def c7 (g : Sen) : Con := { ps := [(false, 0, tyNode)], rs := [(0, .bool)], pre := fun _ => True, post := fun x y _ => y.1 = true, gl := g.gl4 }
set_option maxHeartbeats 8000000 in
theorem ok7 (g : Sen) : FnOK Tryd.prog 7 (c7 g) := by
  refine FnOK.of_vc mixed tabM4Ok (.cons en33 ok33 (.cons en34 ok34 (.cons en35 ok35 (.cons en36 (ok36 g) (.cons en15 ok15 (.cons en37 ok37 (.cons en38 ok38 (.cons en18 ok18 (.cons en19 ok19 .nil))))))))) Tryd.func7 rfl (by show 1 ≤ Tryd.f7.ntmps; decide) lv7 hd7 ?_
  rintro ⟨⟨(kind0 : Int), (es0 : List EntD), ⟨⟩⟩, ⟨⟩⟩ - hwf
  have hlm : es0.length ≤ maxL := hwf.1.2.1.1
  generalize hM : real = M
  cbv
  refine ⟨fun _ => ⟨(by show (0 : Int) ≤ 1048576; omega), (by show (1048576 : Int) ≤ 1048576; omega)⟩, ?_⟩
  rintro ⟨(y0 : Int), ⟨⟩⟩ x0 (hy0 : y0 < 0 ∨ es0.length ≤ 1048576) - -
  cbv
  refine splM (fun h => ?_) (fun h => ?_) <;> cbv
  · exact fun _ => rfl
  have hl : es0.length ≤ 1048576 := by
    (try subst hM); (try simp only [Eng.ncast] at *); (try simp only [Eng.nI_eq] at *); (try simp only [Eng.real, decide_eq_true_eq, decide_eq_false_iff_not, Bool.not_eq_true', Bool.not_eq_false', Bool.and_eq_true, Bool.or_eq_true, Eng.sEq_dec, Bool.not_true, Bool.not_false, gt_iff_lt, ge_iff_le] at *)
    omega
  clear h
  refine ⟨fun _ => hl, ?_⟩
  rintro ⟨⟨(kind1 : Int), (es1 : List EntD), ⟨⟩⟩, ⟨⟩⟩ x1 (h1 : (kind1, es1, PUnit.unit) = (kind0, es0, PUnit.unit)) - -
  have h1kind : kind0 = kind1 := (congrArg (·.1) h1).symm
  have h1es : es0 = es1 := (congrArg (·.2.1) h1).symm
  subst h1kind
  subst h1es
  clear h1
  cbv
  refine ⟨fun _ => hl, ?_⟩
  rintro ⟨(w0 : List Int), (w1 : Int), ⟨⟩⟩ x2 ⟨(hw0 : w0 = encN kind0 es0), (hw1 : w1 = encC (nodeOK kind0 es0))⟩ - -
  cbv
  refine ⟨fun _ => hl, ?_⟩
  rintro ⟨⟨(kind2 : Int), (es2 : List EntD), ⟨⟩⟩, ⟨⟩⟩ x3 (h2 : (kind2, es2, PUnit.unit) = (kind0, es0, PUnit.unit)) - -
  have h2kind : kind0 = kind2 := (congrArg (·.1) h2).symm
  have h2es : es0 = es2 := (congrArg (·.2.1) h2).symm
  subst h2kind
  subst h2es
  clear h2
  cbv
  refine ⟨fun _ => hl, ?_⟩
  rintro ⟨(g0 : List Int), (g1 : Int), ⟨⟩⟩ x4 ⟨(hg0 : g0 = encN kind0 es0), (hg1 : g1 = encC (nodeOK kind0 es0))⟩ - -
  have hlen : (encN kind0 es0).length ≤ 1048576 := Nat.le_trans encN_len (by omega)
  cbv
  refine ⟨fun _ => (by show g0.length ≤ 1048576; rw [hg0]; exact hlen), ?_⟩
  rintro ⟨(e1 : Bool), ⟨⟩⟩ x5 (he1 : g0 = w0 → e1 = true) - -
  have he1' : e1 = true := he1 (hg0.trans hw0.symm)
  subst he1'
  clear he1
  cbv
  have hgw : g1 = w1 := hg1.trans hw1.symm
  subst hgw
  refine splM (fun h => ?_) (fun h => ?_) <;> cbv
  · exfalso; subst hM; rw [notT] at h; cases h
  clear h
  refine splM (fun h => ?_) (fun h => ?_) <;> cbv
  · exfalso; subst hM; rw [eqSelf] at h; cases h
  clear h
  refine ⟨ot7_10, (fun _ => by kernel_rfl), ?_⟩
  cbv
  repeat' (first
    | exact True.intro
    | (refine And.intro ?_ True.intro)
    | (refine And.intro (fun _ => hl) ?_
       rintro ⟨⟨(kind3 : Int), (es3 : List EntD), ⟨⟩⟩, ⟨⟩⟩ x6 (h3 : (kind3, es3, PUnit.unit) = (kind0, es0, PUnit.unit)) - -
       have h3kind : kind0 = kind3 := (congrArg (·.1) h3).symm
       have h3es : es0 = es3 := (congrArg (·.2.1) h3).symm
       subst h3kind
       subst h3es
       clear h3
       cbv)
    | (refine And.intro (fun _ => hl) ?_
       rintro ⟨(e2 : Bool), ⟨⟩⟩ x7 (he2 : (kind0, es0, PUnit.unit) = (kind0, es0, PUnit.unit) → e2 = true) - -
       have he2' : e2 = true := he2 rfl
       subst he2'
       clear he2
       cbv)
    | (refine And.intro (fun _ => hl) ?_
       rintro ⟨(e2 : Bool), ⟨⟩⟩ x7 (he2 : (kind0, es0, PUnit.unit) = (kind3, es3, PUnit.unit) → e2 = true) - -
       have he2' : e2 = true := he2 rfl
       subst he2'
       clear he2
       cbv)
    | (refine And.intro ?_ ?_))
  all_goals
    refine splM (fun h => ?_) (fun h => ?_) <;> cbv
    · exfalso; subst hM; rw [notT] at h; cases h
    clear h
    refine ⟨fun _ => ⟨hl, (by first | (show (0 : Int) ≤ 1; omega) | (show (1 : Int) ≤ 1; omega)), (by show (1 : Int) ≤ 1048576; omega)⟩, ?_⟩
    rintro ⟨(k1 : Int), ⟨⟩⟩ ⟨⟨(kind9 : Int), (es9 : List EntD), ⟨⟩⟩, xk, ⟨⟩⟩ ⟨(hk1 : k1 = 1 + 3 * (es0.length : Int)), -, -⟩ - -
    cbv
    refine splM (fun h => ?_) (fun h => ?_) <;> cbv
    · exfalso; (try subst hM); (try simp only [Eng.ncast] at *); (try simp only [Eng.nI_eq] at *); (try simp only [Eng.real, decide_eq_true_eq, decide_eq_false_iff_not, Bool.not_eq_true', Bool.not_eq_false', Bool.and_eq_true, Bool.or_eq_true, Eng.sEq_dec, Bool.not_true, Bool.not_false, gt_iff_lt, ge_iff_le] at *); omega
    clear h
    refine ⟨fun _ => (by show g0.length ≤ 1048576; rw [hg0]; exact hlen), ?_⟩
    rintro ⟨(e3 : Bool), ⟨⟩⟩ x8 (he3 : g0 = w0 → e3 = true) - -
    have he3' : e3 = true := he3 (hg0.trans hw0.symm)
    subst he3'
    clear he3
    cbv
    refine splM (fun h => ?_) (fun h => ?_) <;> cbv
    · exfalso; subst hM; rw [notT] at h; cases h
    clear h
    refine splM (fun h => ?_) (fun h => ?_) <;> cbv
    · exfalso; subst hM; rw [eqSelf] at h; cases h
    clear h
    refine ⟨fun _ => ⟨(by show g0.length ≤ 1048576; rw [hg0]; exact hlen), (by show (0 : Int) ≤ 1; omega), (by show (1 : Int) ≤ 1048576; omega)⟩, ?_⟩
    rintro ⟨(m1 : Int), ⟨⟩⟩ ⟨(gm : List Int), xm, ⟨⟩⟩ ⟨(hm1 : m1 = 1 + (g0.length : Int)), (hgm : gm = markB 1 g0.length)⟩ - -
    cbv
    have hgl : gm.length = g0.length := by rw [hgm, markB_len]
    refine ⟨fun _ => ⟨(by show gm.length ≤ 1048576; rw [hgl, hg0]; exact hlen), (by show (0 : Int) ≤ 1; omega), (by show (1 : Int) ≤ 1048576; omega)⟩, ?_⟩
    rintro ⟨(qq : Int), ⟨⟩⟩ x9 (hqq : gm = markB 1 gm.length → qq = 1 + (gm.length : Int)) - -
    have hqv : qq = m1 := by rw [hqq (by rw [hgl]; exact hgm), hm1, hgl]
    subst hqv
    clear hqq
    cbv
    refine splM (fun h => ?_) (fun h => ?_) <;> cbv
    · exfalso; (try subst hM); (try simp only [Eng.ncast] at *); (try simp only [Eng.nI_eq] at *); (try simp only [Eng.real, decide_eq_true_eq, decide_eq_false_iff_not, Bool.not_eq_true', Bool.not_eq_false', Bool.and_eq_true, Bool.or_eq_true, Eng.sEq_dec, Bool.not_true, Bool.not_false, gt_iff_lt, ge_iff_le] at *); omega
    clear h
    refine splM (fun h => ?_) (fun h => ?_) <;> cbv
    · exfalso; subst hM; rw [eqSelf] at h; cases h
    clear h
    refine ⟨fun _ => hl, ?_⟩
    rintro ⟨⟨(kind4 : Int), (es4 : List EntD), ⟨⟩⟩, ⟨⟩⟩ x10 (h4 : (kind4, es4, PUnit.unit) = (kind0, es0, PUnit.unit)) - -
    have h4kind : kind0 = kind4 := (congrArg (·.1) h4).symm
    have h4es : es0 = es4 := (congrArg (·.2.1) h4).symm
    subst h4kind
    subst h4es
    clear h4
    cbv
    refine ⟨fun _ => hl, ?_⟩
    rintro ⟨(h0 : List Int), (h1 : Int), ⟨⟩⟩ x11 ⟨(hh0 : h0 = encN kind0 es0), (hh1 : h1 = encC (nodeOK kind0 es0))⟩ - -
    cbv
    refine ⟨fun _ => (by show h0.length ≤ 1048576; rw [hh0]; exact hlen), ?_⟩
    rintro ⟨(e5 : Bool), ⟨⟩⟩ x12 (he5 : h0 = w0 → e5 = true) - -
    have he5' : e5 = true := he5 (hh0.trans hw0.symm)
    subst he5'
    clear he5
    have hhw : h1 = g1 := hh1.trans hw1.symm
    subst hhw
    cbv
    refine splM (fun h => ?_) (fun h => ?_) <;> cbv
    · exfalso; subst hM; rw [notT] at h; cases h
    clear h
    refine splM (fun h => ?_) (fun h => ?_) <;> cbv
    · exfalso; subst hM; rw [eqSelf] at h; cases h
    exact fun _ => rfl
end Go.Proofs.YtegbadccjidfjaaDoor.EngTab
