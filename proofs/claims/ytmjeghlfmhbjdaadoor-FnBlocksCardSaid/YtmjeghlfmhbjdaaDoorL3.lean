/- The law FnBlocks: superblocks. No condition. -/
import Derived.Test.YtmjeghlfmhbjdaaDoorL0
namespace Go.Proofs.YtmjeghlfmhbjdaaDoor.EngTab
open Go.Proofs.YtmjeghlfmhbjdaaDoor.Eng
set_option maxRecDepth 100000
set_option linter.unusedVariables false
set_option linter.unusedSimpArgs false
set_option maxHeartbeats 16000000 in
theorem law_3 (g : Sen) (code more : List Int) (Γ : Ctx) (hI : I2 g code more Γ) (hwf : CtxWF Γ) : vcS real tabE (C3 g) lv3 hd3 3 (rst 9 code3) (I3 g code more) (Q3 g code more) Γ := by
  obtain ⟨nb, tb, c, ex, hcl, hml, hnl, hnz, htz, rfl⟩ := hI
  clear hwf
  generalize hM : real = M
  have kE : ∀ x : Int, M.not (M.dec (M.eq x x)) = false := fun x => by subst hM; exact nE x
  have kT : M.not true = false := by subst hM; rfl
  have kS : ∀ x : List Int, M.not (M.sEq (M.ofB x) (M.ofB x)) = false := fun x => by subst hM; exact nS _
  have kR : ∀ x : RootD, M.not (M.dec (M.same2 [x] [x])) = false := fun x => by subst hM; exact nR x
  cbv
  refine ⟨fun _ => hcl, ?_⟩
  rintro ⟨(DS : List Int), ⟨⟩⟩ u0 ⟨(hDS : DS = drawS code), hSok⟩ - -
  cbv
  have hSl : DS.length ≤ 1048576 := by rw [hDS]; exact drawS_len hSok
  refine ⟨fun _ => hSl, ?_⟩
  rintro ⟨⟨(s1 : Int), (s2 : Int), (s3 : Int), (s4 : Int), (sr : List RootD), ⟨⟩⟩, (c5 : Int), ⟨⟩⟩ u1 (hS : ((s1, s2, s3, s4, sr, PUnit.unit), c5) = decS DS) - -
  cbv
  have hsl : sr.length ≤ 1048576 := by
    have := decS_lenB (b := DS)
    rw [← hS] at this
    exact this
  refine ⟨fun _ => hsl, ?_⟩
  rintro ⟨(sb : List Int), (sc : Int), ⟨⟩⟩ u2 ⟨(hsb : sb = encS s1 s2 s3 s4 sr), (hsc : sc = encC (supOK s1 s2 s3 s4 sr))⟩ - -
  cbv
  have hSB : c5 = 0 → sb = DS ∧ sc = 0 ∧ sumC sb = 0 ∧ decS sb = ((s1, s2, s3, s4, sr, ()), 0) ∧ sb.length = 128 := fun h0 => by
    subst h0
    obtain ⟨q1, q2, q3⟩ := decS_zero hS.symm
    have e : sb = DS := hsb.trans q3
    subst e
    exact ⟨rfl, by rw [hsc]; unfold encC; rw [if_pos q2], q1, hS.symm, sum0_len q1⟩
  have hS5 : c5 ≠ 0 → sc = 5 := fun h0 => by
    have e := decS_bad hS.symm h0
    have e1 : s1 = 0 := congrArg (·.1) e
    subst e1
    rw [hsc]
    unfold encC
    rw [if_neg (fun h => by have := h.1.1; omega)]
  have kS5 : c5 ≠ 0 → M.not (M.dec (M.eq sc 5)) = false := fun h0 => by subst hM; rw [hS5 h0]; exact nE 5
  have kS1 : c5 = 0 → M.not (M.dec (M.eq sc 0)) = false := fun h0 => by subst hM; rw [(hSB h0).2.1]; exact nE 0
  have kS2 : c5 = 0 → M.not (M.dec (M.eq (M.ofN (M.len sb)) 128)) = false := fun h0 => by subst hM; exact nL (hSB h0).2.2.2.2
  have hsbl : sb.length ≤ 1048576 := by rw [hsb]; exact Nat.le_trans encS_len (by omega)
  have c50 : M.dec (M.eq c5 0) = true → c5 = 0 := fun h => by subst hM; exact eD h
  have c51 : M.dec (M.eq c5 0) = false → c5 ≠ 0 := fun h => by subst hM; exact eN h
  · refine splM (fun h => ?_) (fun h => ?_) <;> cbv
    · have h0 := c50 h
      obtain ⟨e1, e2, e3, e4, e5⟩ := hSB h0
      have k1 := kS1 h0
      have k2 := kS2 h0
      refine ⟨fun _ => hsbl, ?_⟩
      rintro ⟨⟨(r1 : Int), (r2 : Int), (r3 : Int), (r4 : Int), (rr : List RootD), ⟨⟩⟩, (c6 : Int), ⟨⟩⟩ x3 (hA : ((r1, r2, r3, r4, rr, PUnit.unit), c6) = decS sb) - -
      cbv
      have eA := hA.trans e4
      obtain rfl : s1 = r1 := (congrArg (·.1.1) eA).symm
      obtain rfl : s2 = r2 := (congrArg (·.1.2.1) eA).symm
      obtain rfl : s3 = r3 := (congrArg (·.1.2.2.1) eA).symm
      obtain rfl : s4 = r4 := (congrArg (·.1.2.2.2.1) eA).symm
      obtain rfl : sr = rr := (congrArg (·.1.2.2.2.2.1) eA).symm
      obtain rfl : c6 = 0 := congrArg (·.2) eA
      apply cut0
      · intro key
        refine ⟨od3_20.ot, fun _ => okD_ok (by kernel_rfl), ?_⟩
        cbv
        repeat' (first
          | exact True.intro
          | (refine And.intro ?_ True.intro)
          | (refine splM (fun h => (ff k1 h).elim) (fun _ => ?_) <;> cbv)
          | (refine splM (fun h => (ff k2 h).elim) (fun _ => ?_) <;> cbv)
          | (refine splM (fun h => (ff (kE _) h).elim) (fun _ => ?_) <;> cbv)
          | (refine splM (fun h => (ff kT h).elim) (fun _ => ?_) <;> cbv)
          | (refine splM (fun h => (ff (kS _) h).elim) (fun _ => ?_) <;> cbv)
          | (fail_if_success have := hD5
             refine And.intro (fun _ => hcl) ?_
             rintro ⟨(D5 : List Int), ⟨⟩⟩ x9 ⟨(hD5 : D5 = drawS code), -⟩ - -
             cbv
             obtain rfl : sb = D5 := (e1.trans hDS).trans hD5.symm)
          | (have := hD5; exact key)
          | (with_reducible refine and_same ?_)
          | (refine And.intro ?_ ?_))
      refine ⟨fun m Γ => ∃ (j : Int) (i : Nat) (ex : List (Nat × SV)), j = i ∧ m = sr.length - i ∧ i ≤ sr.length ∧ Γ = ⟨318, (1, .pv [] (.sl (.int .u8)) more) :: (6, .pv [] (.int .i64) c) :: (7, .ref 0) :: (13, .ref 1) :: (17, .ad 4 tySup 0 []) :: (18, .pv [] (.int .i64) c5) :: (19, .ref 2) :: (21, .ad 6 tySup 0 []) :: (23, .pv [] (.int .i64) j) :: ex,
        [(0, .row 0 (.int .u8) nb), (1, .row 0 (.int .u8) tb), (2, .row 0 (.int .u8) sb), (3, .row 0 tyRoot sr), (4, .box (.consA (.pv [] (.int .i64) s1) (.consA (.pv [] (.int .i64) s2) (.consA (.pv [] (.int .i64) s3) (.consA (.pv [] (.int .i64) s4) (.consA (.ref 3) .nilA)))))), (5, .row 0 tyRoot sr), (6, .box (.consA (.pv [] (.int .i64) s1) (.consA (.pv [] (.int .i64) s2) (.consA (.pv [] (.int .i64) s3) (.consA (.pv [] (.int .i64) s4) (.consA (.ref 5) .nilA)))))), (1000000, .glob g.gl4)], [.hole 0, .hole 0]⟩,
        ⟨_, 0, 0, [], rfl, rfl, Nat.zero_le _, rfl⟩, ?_⟩
      rintro m _ ⟨j, i, ex2, hj, rfl, hi, rfl⟩ -
      cbv
      refine splM (fun h2 => ?_) (fun h2 => ?_) <;> cbv
      · have hin : i < sr.length := by
          subst hM
          have h3 : j < (sr.length : Int) := dec_iff.1 h2
          rw [hj] at h3
          exact Int.ofNat_lt.1 h3
        (try simp only [jqn] at hj); (try simp only [jqi] at hj)
        have hb0 : 0 ≤ j := by rw [hj]; exact Int.natCast_nonneg _
        have hb1 : j < (sr.length : Int) := by rw [hj]; exact Int.ofNat_lt.2 hin
        have hlt : sr.length - (i + 1) < sr.length - i := by omega
        have hj1 : IntKind.wrap .i64 (j + 1) = ((i + 1 : Nat) : Int) := by rw [hj, w64 (by omega)]; omega
        repeat' (first | (refine And.intro (fun _ => by first | exact drawRd rfl (by decide +kernel) | exact drawTail (by decide +kernel)) ?_; cbv) | (refine And.intro (by subst hM; first | exact hb0 | exact hb1) ?_))
        refine splM (fun h => (ff (kR _) h).elim) (fun _ => ?_) <;> cbv
        refine ⟨_, hlt, M.wrap .i64 (M.add j 1), i + 1, [], ?_, rfl, hin, ?_⟩
        · subst hM; exact hj1
        · cbv
      · exact ⟨nb, tb, sb, c, c5, hml, hnl, hsbl, hnz, htz, fun _ => e3, .inl ⟨s1, s2, s3, s4, sr, _, _, rfl⟩⟩
    · have h0 := c51 h
      have k5 := kS5 h0
      refine splM (fun h => (ff k5 h).elim) (fun _ => ?_) <;> cbv
      exact ⟨nb, tb, sb, c, c5, hml, hnl, hsbl, hnz, htz, fun h => absurd h h0, .inr ⟨_, rfl⟩⟩
end Go.Proofs.YtmjeghlfmhbjdaaDoor.EngTab
