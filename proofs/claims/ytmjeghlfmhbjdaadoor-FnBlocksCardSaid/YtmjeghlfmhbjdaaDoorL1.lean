/- The law FnBlocks: nodes. No condition. -/
import Derived.Test.YtmjeghlfmhbjdaaDoorL0
namespace Go.Proofs.YtmjeghlfmhbjdaaDoor.EngTab
open Go.Proofs.YtmjeghlfmhbjdaaDoor.Eng
set_option maxRecDepth 100000
set_option linter.unusedVariables false
set_option linter.unusedSimpArgs false
set_option maxHeartbeats 16000000 in
theorem law_1 (g : Sen) (code more : List Int) (hwf : WFp (c3 g).ps (code, more, ())) : vcS real tabE (C3 g) lv3 hd3 5 code3 (I1 g code more) (Q3 g code more) (entryG 318 (c3 g).ps (code, more, ()) (c3 g).gl) := by
  have hMo : ∀ x ∈ more, 0 ≤ x ∧ x ≤ 255 := inB hwf.2.1
  generalize hM : real = M
  cbv
  refine splM (fun h => ?_) (fun h => ?_) <;> cbv
  · exact fun _ => rfl
  have hcl : code.length ≤ 1048576 := by
    (try subst hM); (try simp only [jqn] at *); (try simp only [jqi] at *); (try simp only [real, jq1, jq2, jq3, jq4, jq5, jq6, sEq_dec, Bool.not_true, Bool.not_false, gt_iff_lt, ge_iff_le] at *)
    omega
  clear h
  refine splM (fun h => ?_) (fun h => ?_) <;> cbv
  · exact fun _ => rfl
  have hml : more.length ≤ 1048576 := by
    (try subst hM); (try simp only [jqn] at *); (try simp only [jqi] at *); (try simp only [real, jq1, jq2, jq3, jq4, jq5, jq6, sEq_dec, Bool.not_true, Bool.not_false, gt_iff_lt, ge_iff_le] at *)
    omega
  clear h
  refine ⟨fun _ => hcl, ?_⟩
  rintro ⟨(D : List Int), ⟨⟩⟩ x0 ⟨(hD : D = drawN code), hDok⟩ - -
  have hDl : D.length ≤ 1048576 := by rw [hD]; exact drawN_len hDok
  clear hDok
  cbv
  refine ⟨fun _ => hDl, ?_⟩
  rintro ⟨⟨(k : Int), (es : List EntD), ⟨⟩⟩, (c : Int), ⟨⟩⟩ x1 (hN : ((k, es, PUnit.unit), c) = decN D) hDw -
  have hel : es.length ≤ 1048576 := by
    have := decN_len (b := D)
    rw [← hN] at this
    exact this
  cbv
  refine ⟨fun _ => hel, ?_⟩
  rintro ⟨(nb : List Int), (nc : Int), ⟨⟩⟩ x2 ⟨(hnb : nb = encN k es), (hnc : nc = encC (nodeOK k es))⟩ hnw -
  cbv
  have hNB : c = 0 → nb = D ∧ nc = 0 ∧ sumC nb = 0 ∧ decN nb = ((k, es, ()), 0) ∧ nb.length = 128 := fun h0 => by
    subst h0
    obtain ⟨q1, q2, q3⟩ := decN_zero hN.symm
    have e : nb = D := hnb.trans q3
    subst e
    exact ⟨rfl, by rw [hnc]; unfold encC; rw [if_pos q2], q1, hN.symm, sum0_len q1⟩
  have hN5 : c ≠ 0 → nc = 5 := fun h0 => by
    have e := decN_bad hN.symm h0
    have e1 : k = 0 := congrArg (·.1) e
    subst e1
    rw [hnc]
    unfold encC
    rw [if_neg (fun h => by rcases (nodeOK_iff.1 h).1 with h | h <;> omega)]
  have kN5 : c ≠ 0 → M.not (M.dec (M.eq nc 5)) = false := fun h0 => by subst hM; rw [hN5 h0]; exact nE 5
  have kN1 : c = 0 → M.not (M.dec (M.eq nc 0)) = false := fun h0 => by subst hM; rw [(hNB h0).2.1]; exact nE 0
  have kN2 : c = 0 → M.not (M.dec (M.eq (M.ofN (M.len nb)) 128)) = false := fun h0 => by subst hM; exact nL (hNB h0).2.2.2.2
  have kE : ∀ x : Int, M.not (M.dec (M.eq x x)) = false := fun x => by subst hM; exact nE x
  have kT : M.not true = false := by subst hM; rfl
  have kS : ∀ x : List Int, M.not (M.sEq (M.ofB x) (M.ofB x)) = false := fun x => by subst hM; exact nS _
  have hnl : nb.length ≤ 1048576 := by rw [hnb]; exact Nat.le_trans encN_len (by omega)
  have c0 : M.dec (M.eq c 0) = true → c = 0 := fun h => by subst hM; exact eD h
  have c1 : M.dec (M.eq c 0) = false → c ≠ 0 := fun h => by subst hM; exact eN h
  refine splM (fun h => ?_) (fun h => ?_) <;> cbv
  · have h0 := c0 h
    obtain ⟨e1, e2, e3, e4, e5⟩ := hNB h0
    have k1 := kN1 h0
    have k2 := kN2 h0
    refine ⟨fun _ => hnl, ?_⟩
    rintro ⟨⟨(k2' : Int), (es2 : List EntD), ⟨⟩⟩, (c2 : Int), ⟨⟩⟩ x3 (hA : ((k2', es2, PUnit.unit), c2) = decN nb) - -
    have eA := hA.trans e4
    obtain rfl : k = k2' := (congrArg (·.1.1) eA).symm
    obtain rfl : es = es2 := (congrArg (·.1.2.1) eA).symm
    obtain rfl : c2 = 0 := congrArg (·.2) eA
    cbv
    refine ⟨ox3_7, (fun _ => by kernel_rfl), ?_⟩
    cbv
    repeat' (first
      | exact True.intro
      | (refine And.intro ?_ True.intro)
      | (refine splM (fun h => (ff k1 h).elim) (fun _ => ?_) <;> cbv)
      | (refine splM (fun h => (ff k2 h).elim) (fun _ => ?_) <;> cbv)
      | (refine splM (fun h => (ff (kE _) h).elim) (fun _ => ?_) <;> cbv)
      | (refine splM (fun h => (ff kT h).elim) (fun _ => ?_) <;> cbv)
      | (refine splM (fun h => (ff (kS _) h).elim) (fun _ => ?_) <;> cbv)
      | (fail_if_success have := hY8
         refine And.intro (fun _ => hel) ?_
         rintro ⟨(y8 : Bool), ⟨⟩⟩ x8 (hY8 : (k, es, PUnit.unit) = (k, es, PUnit.unit) → y8 = true) - -
         obtain rfl : y8 = true := hY8 rfl
         cbv)
      | (fail_if_success have := hD5
         refine And.intro (fun _ => hcl) ?_
         rintro ⟨(D5 : List Int), ⟨⟩⟩ x9 ⟨(hD5 : D5 = drawN code), -⟩ - -
         obtain rfl : nb = D5 := (e1.trans hD).trans hD5.symm
         cbv)
      | (have := hD5; exact ⟨nb, _, _, hcl, hml, hnl, fun _ => e3, rfl⟩)
      | (with_reducible refine and_same ?_)
      | (refine And.intro ?_ ?_))
  · have h0 := c1 h
    have k5 := kN5 h0
    refine splM (fun h => (ff k5 h).elim) (fun _ => ?_) <;> cbv
    exact ⟨nb, c, _, hcl, hml, hnl, fun h => absurd h h0, rfl⟩
end Go.Proofs.YtmjeghlfmhbjdaaDoor.EngTab
