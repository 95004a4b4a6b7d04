/- The law FnBlocks: tables. No condition. -/
import Derived.Test.YtmjeghlfmhbjdaaDoorL0
namespace Go.Proofs.YtmjeghlfmhbjdaaDoor.EngTab
open Go.Proofs.YtmjeghlfmhbjdaaDoor.Eng
set_option maxRecDepth 100000
set_option linter.unusedVariables false
set_option linter.unusedSimpArgs false
set_option maxHeartbeats 16000000 in
theorem law_2 (g : Sen) (code more : List Int) (Γ : Ctx) (hI : I1 g code more Γ) (hwf : CtxWF Γ) : vcS real tabE (C3 g) lv3 hd3 4 (rst 5 code3) (I2 g code more) (Q3 g code more) Γ := by
  obtain ⟨nb, c, ex, hcl, hml, hnl, hnz, rfl⟩ := hI
  clear hwf
  generalize hM : real = M
  have kE : ∀ x : Int, M.not (M.dec (M.eq x x)) = false := fun x => by subst hM; exact nE x
  have kT : M.not true = false := by subst hM; rfl
  have kS : ∀ x : List Int, M.not (M.sEq (M.ofB x) (M.ofB x)) = false := fun x => by subst hM; exact nS _
  cbv
  refine ⟨fun _ => hcl, ?_⟩
  rintro ⟨(DT : List Int), ⟨⟩⟩ y0 ⟨(hDT : DT = drawT code), hTok⟩ - -
  have hTl : DT.length ≤ 1048576 := by rw [hDT]; exact drawT_len hTok
  cbv
  refine ⟨fun _ => hTl, ?_⟩
  rintro ⟨⟨(tn : Int), (tr : List RunD), ⟨⟩⟩, (c3 : Int), ⟨⟩⟩ y1 (hT : ((tn, tr, PUnit.unit), c3) = decT DT) - -
  have htl : tr.length ≤ 1048576 := by
    have := decT_lenB (b := DT)
    rw [← hT] at this
    exact this
  cbv
  refine ⟨fun _ => htl, ?_⟩
  rintro ⟨(tb : List Int), (tc : Int), ⟨⟩⟩ y2 ⟨(htb : tb = encT tn tr), (htc : tc = encC (tabOK tn tr))⟩ - -
  cbv
  have hTB := tb_facts hT htb htc
  obtain ⟨t1, t2, t3, t4⟩ := hTB
  obtain rfl : tc = 0 := t1
  have htbl : tb.length = 128 := sum0_len t2
  have htbl2 : tb.length ≤ 1048576 := by omega
  have kL : M.not (M.dec (M.eq (M.ofN (M.len tb)) 128)) = false := by subst hM; exact nL htbl
  have c30 : M.dec (M.eq c3 0) = true → tb = DT := fun h => t4 (by subst hM; exact eD h)
  refine ⟨fun _ => htbl2, ?_⟩
  rintro ⟨⟨(tn2 : Int), (tr2 : List RunD), ⟨⟩⟩, (c4 : Int), ⟨⟩⟩ y3 (hA4 : ((tn2, tr2, PUnit.unit), c4) = decT tb) - -
  cbv
  have eA4 := hA4.trans t3
  obtain rfl : tn = tn2 := (congrArg (·.1.1) eA4).symm
  obtain rfl : tr = tr2 := (congrArg (·.1.2.1) eA4).symm
  obtain rfl : c4 = 0 := congrArg (·.2) eA4
  · refine ⟨ox3_14, (fun _ => by kernel_rfl), ?_⟩
    cbv
    repeat' (first
      | exact True.intro
      | (refine And.intro ?_ True.intro)
      | (refine splM (fun h => (ff kL h).elim) (fun _ => ?_) <;> cbv)
      | (refine splM (fun h => (ff (kE _) h).elim) (fun _ => ?_) <;> cbv)
      | (refine splM (fun h => (ff kT h).elim) (fun _ => ?_) <;> cbv)
      | (refine splM (fun h => (ff (kS _) h).elim) (fun _ => ?_) <;> cbv)
      | (fail_if_success have := hc3
         fail_if_success have := hc3f
         refine splM (fun hc3 => ?_) (fun hc3f => ?_) <;> cbv)
      | (fail_if_success have := hY13
         refine And.intro (fun _ => htl) ?_
         rintro ⟨(y13 : Bool), ⟨⟩⟩ x13 (hY13 : tr = tr → y13 = true) - -
         obtain rfl : y13 = true := hY13 rfl
         cbv)
      | (fail_if_success have := hD10
         have := hc3
         refine And.intro (fun _ => hcl) ?_
         rintro ⟨(D10 : List Int), ⟨⟩⟩ x10 ⟨(hD10 : D10 = drawT code), -⟩ - -
         obtain rfl : tb = D10 := ((c30 hc3).trans hDT).trans hD10.symm
         cbv)
      | (have := hc3f; exact ⟨nb, tb, c, _, hcl, hml, hnl, hnz, t2, rfl⟩)
      | (have := hD10; exact ⟨nb, tb, c, _, hcl, hml, hnl, hnz, t2, rfl⟩)
      | (with_reducible refine and_same ?_)
      | (refine And.intro ?_ ?_))
end Go.Proofs.YtmjeghlfmhbjdaaDoor.EngTab
