/- Contract: the specification's DecodeSuper. -/
import Derived.Test.YtmjeghlfmhbjdaaDoorR2
import Derived.Test.YtmjeghlfmhbjdaaDoorR4
namespace Go.Proofs.YtmjeghlfmhbjdaaDoor.EngTab
open Go.Proofs.YtmjeghlfmhbjdaaDoor.Eng
open IntKind (wrap)
set_option maxRecDepth 100000
set_option linter.unusedVariables false
set_option linter.unusedSimpArgs false
def supR (b : List Int) : Int × Int × Int × Int × List RootD × Unit := (nm b 2 2, nm b 4 8, nm b 12 2, nm b 14 2, readRoots b (cnt b 16), ())
abbrev zS : Int × Int × Int × Int × List RootD × Unit := (0, 0, 0, 0, [], ())
open Classical in
noncomputable def decS (b : List Int) : (Int × Int × Int × Int × List RootD × Unit) × Int :=
  if sumC b ≠ 0 then (zS, sumC b) else
  if supOK (nm b 2 2) (nm b 4 8) (nm b 12 2) (nm b 14 2) (readRoots b (cnt b 16)) ∧ encS (nm b 2 2) (nm b 4 8) (nm b 12 2) (nm b 14 2) (readRoots b (cnt b 16)) = b then (supR b, 0) else (zS, 5)
theorem decS_ok {b : List Int} {bl ge ne ta : Int} {rs : List RootD} (hz : sumC b = 0) (h1 : bl = nm b 2 2) (h2 : ge = nm b 4 8) (h3 : ne = nm b 12 2) (h4 : ta = nm b 14 2) (hR : rs = readRoots b (cnt b 16)) (hT : supOK bl ge ne ta rs) (hE : encS bl ge ne ta rs = b) : decS b = ((bl, ge, ne, ta, rs, ()), 0) := by
  unfold decS supR
  rw [if_neg (by omega), ← hR, ← h1, ← h2, ← h3, ← h4, if_pos ⟨hT, hE⟩]
theorem decS_no {b : List Int} {bl ge ne ta : Int} {rs : List RootD} (hz : sumC b = 0) (h1 : bl = nm b 2 2) (h2 : ge = nm b 4 8) (h3 : ne = nm b 12 2) (h4 : ta = nm b 14 2) (hR : rs = readRoots b (cnt b 16)) (h : ¬ (supOK bl ge ne ta rs ∧ encS bl ge ne ta rs = b)) : decS b = (zS, 5) := by
  unfold decS
  rw [if_neg (by omega), ← hR, ← h1, ← h2, ← h3, ← h4, if_neg h]
def c14 : Con := Con.of ⟨[(false, 0, tyB)], [(1, tySup), (0, .int .i64)], fun x => x.1.length ≤ 1048576, fun x y _ => (y.1, y.2.1) = decS x.1⟩
set_option maxHeartbeats 8000000 in
theorem ok14 : FnOK Tryd.prog 14 c14 := by
  refine FnOK.of_vc mixed tabOk (.cons en19 ok19 (.cons en21 ok21 (.cons en34 ok34 (.cons en23 ok23 .nil)))) Tryd.func14 rfl (by decide) lv14 hd14 ?_
  rintro ⟨(b : List Int), ⟨⟩⟩ (hl : b.length ≤ 1048576) hwf
  have hB : ∀ x ∈ b, 0 ≤ x ∧ x ≤ 255 := inB hwf.1
  generalize hM : real = M
  cbv
  refine ⟨fun _ => hl, ?_⟩
  rintro ⟨(c : Int), ⟨⟩⟩ x0 (hc : c = sumC b) - -
  cbv
  refine splM (fun h => ?_) (fun h => ?_) <;> cbv
  · rintro -
    have hne : sumC b ≠ 0 := by
      (try subst hM); (try simp only [jqn] at *); (try simp only [jqi] at *); (try simp only [real, jq1, jq2, jq3, jq4, jq5, jq6, sEq_dec, Bool.not_true, Bool.not_false, gt_iff_lt, ge_iff_le] at *)
      omega
    show (zS, c) = decS b
    unfold decS
    rw [if_pos hne, hc]
  have hz : sumC b = 0 := by
    (try subst hM); (try simp only [jqn] at *); (try simp only [jqi] at *); (try simp only [real, jq1, jq2, jq3, jq4, jq5, jq6, sEq_dec, Bool.not_true, Bool.not_false, gt_iff_lt, ge_iff_le] at *)
    omega
  have h128 : b.length = 128 := by
    unfold sumC at hz
    by_cases hh : b.length ≠ 128
    · rw [if_pos hh] at hz; omega
    · omega
  clear h
  refine And.intro (fun _ => ⟨hl, (by show (0 : Int) ≤ 2; omega), (by show (0 : Int) ≤ 2; omega), (by show (2 : Int) ≤ 8; omega), (by show (2 : Int) + 2 ≤ (b.length : Int); omega)⟩) ?_
  rintro ⟨(bl : Int), ⟨⟩⟩ x_bl (hbl : bl = nm b 2 2) - -
  cbv
  refine And.intro (fun _ => ⟨hl, (by show (0 : Int) ≤ 4; omega), (by show (0 : Int) ≤ 8; omega), (by show (8 : Int) ≤ 8; omega), (by show (4 : Int) + 8 ≤ (b.length : Int); omega)⟩) ?_
  rintro ⟨(ge : Int), ⟨⟩⟩ x_ge (hge : ge = nm b 4 8) - -
  cbv
  refine And.intro (fun _ => ⟨hl, (by show (0 : Int) ≤ 12; omega), (by show (0 : Int) ≤ 2; omega), (by show (2 : Int) ≤ 8; omega), (by show (12 : Int) + 2 ≤ (b.length : Int); omega)⟩) ?_
  rintro ⟨(ne : Int), ⟨⟩⟩ x_ne (hne : ne = nm b 12 2) - -
  cbv
  refine And.intro (fun _ => ⟨hl, (by show (0 : Int) ≤ 14; omega), (by show (0 : Int) ≤ 2; omega), (by show (2 : Int) ≤ 8; omega), (by show (14 : Int) + 2 ≤ (b.length : Int); omega)⟩) ?_
  rintro ⟨(ta : Int), ⟨⟩⟩ x_ta (hta : ta = nm b 14 2) - -
  cbv
  have hby := byte_of hB 1
  refine ⟨fun m Γ => ∃ (i : Nat) (j : Int), (j = i ∧ i ≤ cnt b 16) ∧ m = cnt b 16 - i ∧ ((i = 0 ∧ Γ = ⟨67, [(0, .pv [] tyB b), (2, .ad 0 tySup 0 []), (5, .ad 1 tySup 0 []), (6, .pv [] (.int .i64) j)], [(0, .box (.consA (.pv [] (.int .i64) 0) (.consA (.pv [] (.int .i64) 0) (.consA (.pv [] (.int .i64) 0) (.consA (.pv [] (.int .i64) 0) (.consA .nils .nilA)))))), (1, .box (.consA (.pv [] (.int .i64) bl) (.consA (.pv [] (.int .i64) ge) (.consA (.pv [] (.int .i64) ne) (.consA (.pv [] (.int .i64) ta) (.consA .nils .nilA))))))], [.hole 0]⟩) ∨
    ∃ xs, xs = readRoots b i ∧ Γ = ⟨67, [(0, .pv [] tyB b), (2, .ad 0 tySup 0 []), (5, .ad 1 tySup 0 []), (6, .pv [] (.int .i64) j)], [(0, .box (.consA (.pv [] (.int .i64) 0) (.consA (.pv [] (.int .i64) 0) (.consA (.pv [] (.int .i64) 0) (.consA (.pv [] (.int .i64) 0) (.consA .nils .nilA)))))), (1, .box (.consA (.pv [] (.int .i64) bl) (.consA (.pv [] (.int .i64) ge) (.consA (.pv [] (.int .i64) ne) (.consA (.pv [] (.int .i64) ta) (.consA (.ref 3) .nilA)))))), (3, .row 0 tyRoot xs)], [.hole 0]⟩), ⟨_, 0, 0, ⟨rfl, Nat.zero_le _⟩, rfl, .inl ⟨rfl, rfl⟩⟩, ?_⟩
  rintro m _ ⟨i, j, ⟨hj, hi⟩, rfl, (⟨hi0, rfl⟩ | ⟨xs, hx, rfl⟩)⟩ -
  · cbv
    refine ⟨by (try subst hM); (try simp only [jqn] at *); (try simp only [jqi] at *); (try simp only [real, jq1, jq2, jq3, jq4, jq5, jq6, sEq_dec, Bool.not_true, Bool.not_false, gt_iff_lt, ge_iff_le] at *); omega, by (try subst hM); (try simp only [jqn] at *); (try simp only [jqi] at *); (try simp only [real, jq1, jq2, jq3, jq4, jq5, jq6, sEq_dec, Bool.not_true, Bool.not_false, gt_iff_lt, ge_iff_le] at *); omega, ?_⟩
    refine splM (fun h1 => ?_) (fun h1 => ?_) <;> cbv
    · refine splM (fun h2 => ?_) (fun h2 => ?_) <;> cbv
      · refine ⟨ot14_8, (fun _ => by kernel_rfl), ?_⟩
        cbv
        (try simp only [jqn] at hj); (try simp only [jqi] at hj)
        have hin : i < cnt b 16 := by
          have e1 : wrap .i64 (b.getD 1 0) = b.getD 1 0 := w64 (by omega)
          have h1' : j < wrap .i64 (b.getD 1 0) := by subst hM; exact dec_iff.1 h1
          have h2' : j < 16 := by subst hM; exact dec_iff.1 h2
          rw [e1] at h1'
          unfold cnt
          omega
        have hlt : cnt b 16 - (i + 1) < cnt b 16 - i := by omega
        have hc20 : cnt b 16 ≤ 16 := by unfold cnt; omega
        have hj1 : wrap .i64 (j + 1) = ((i + 1 : Nat) : Int) := by rw [hj, w64 (by omega)]; omega
        have e4 : wrap .i64 (16 + wrap .i64 (4 * j)) = 16 + 4 * (i : Int) := by
          (try subst hM); (try simp only [jqn] at *); (try simp only [jqi] at *); (try simp only [real, jq1, jq2, jq3, jq4, jq5, jq6, sEq_dec, Bool.not_true, Bool.not_false, gt_iff_lt, ge_iff_le] at *)
          rw [hj, w64 (x := 4 * (i : Int)) (by omega), w64 (by omega)]
        have e6 : wrap .i64 (18 + wrap .i64 (4 * j)) = 18 + 4 * (i : Int) := by
          (try subst hM); (try simp only [jqn] at *); (try simp only [jqi] at *); (try simp only [real, jq1, jq2, jq3, jq4, jq5, jq6, sEq_dec, Bool.not_true, Bool.not_false, gt_iff_lt, ge_iff_le] at *)
          rw [hj, w64 (x := 4 * (i : Int)) (by omega), w64 (by omega)]
        repeat' (first
          | exact True.intro
          | (refine And.intro ?_ True.intro)
          | (fail_if_success have := hv1
             refine And.intro (fun _ => ⟨hl, (by (try subst hM); (try simp only [jqn] at *); (try simp only [jqi] at *); (try simp only [real, jq1, jq2, jq3, jq4, jq5, jq6, sEq_dec, Bool.not_true, Bool.not_false, gt_iff_lt, ge_iff_le] at *); (try simp only [e4, e6]); omega), (by show (0 : Int) ≤ 2; omega), (by show (2 : Int) ≤ 8; omega), (by (try subst hM); (try simp only [jqn] at *); (try simp only [jqi] at *); (try simp only [real, jq1, jq2, jq3, jq4, jq5, jq6, sEq_dec, Bool.not_true, Bool.not_false, gt_iff_lt, ge_iff_le] at *); (try simp only [e4, e6]); omega)⟩) ?_
             rintro ⟨(v1 : Int), ⟨⟩⟩ q1 hv1 - -
             cbv)
          | (fail_if_success have := hv2
             refine And.intro (fun _ => ⟨hl, (by (try subst hM); (try simp only [jqn] at *); (try simp only [jqi] at *); (try simp only [real, jq1, jq2, jq3, jq4, jq5, jq6, sEq_dec, Bool.not_true, Bool.not_false, gt_iff_lt, ge_iff_le] at *); (try simp only [e4, e6]); omega), (by show (0 : Int) ≤ 2; omega), (by show (2 : Int) ≤ 8; omega), (by (try subst hM); (try simp only [jqn] at *); (try simp only [jqi] at *); (try simp only [real, jq1, jq2, jq3, jq4, jq5, jq6, sEq_dec, Bool.not_true, Bool.not_false, gt_iff_lt, ge_iff_le] at *); (try simp only [e4, e6]); omega)⟩) ?_
             rintro ⟨(v2 : Int), ⟨⟩⟩ q2 hv2 - -
             cbv)
          | (refine And.intro ?_ ?_))
        all_goals first
          | (subst hM; show (([] : List RootD) : List RootD).length + 1 ≤ 2 ^ 36; simp; done)
          | skip
        all_goals
          have hrun : (v1, v2, PUnit.unit) = readRoot b i := by
            subst hM
            have g1 : v1 = nm b (wrap .i64 (16 + wrap .i64 (4 * j))).toNat 2 := hv1
            have g2 : v2 = nm b (wrap .i64 (18 + wrap .i64 (4 * j))).toNat 2 := hv2
            rw [e4] at g1
            rw [e6] at g2
            rw [g1, g2, show (16 + 4 * (i : Int)).toNat = 16 + 4 * i by omega, show (18 + 4 * (i : Int)).toNat = 18 + 4 * i by omega]
            rfl
          refine ⟨cnt b 16 - (i + 1), hlt, i + 1, _, ⟨?_, hin⟩, rfl, .inr ⟨_, ?_, rfl⟩⟩
          · subst hM; exact hj1
          · subst hM
            show ([] : List RootD) ++ [(v1, v2, PUnit.unit)] = _
            rw [readRoots_succ, hrun, hi0]; rfl
      · have hcn : i = cnt b 16 := by
          (try simp only [jqn] at hj); (try simp only [jqi] at hj)
          have h2' : ¬ j < 16 := by
            subst hM
            intro hh
            have : real.dec (real.lt j 16) = true := dec_iff.2 hh
            exact absurd (this.symm.trans h2) (by decide)
          unfold cnt at hi ⊢
          omega
        have hRS : ([] : List RootD) = readRoots b (cnt b 16) := by rw [← hcn, hi0]; rfl
        refine ⟨fun _ => (by show (([] : List RootD) : List RootD).length ≤ 1048576; simp), ?_⟩
        rintro ⟨(w0 : List Int), (w1 : Int), ⟨⟩⟩ x2 ⟨(hw0 : w0 = encS bl ge ne ta ([] : List RootD)), (hw1 : w1 = encC (supOK bl ge ne ta ([] : List RootD)))⟩ - -
        cbv
        refine splM (fun h3 => ?_) (fun h3 => ?_) <;> cbv
        · rintro -
          have hT : ¬ supOK bl ge ne ta ([] : List RootD) := fun hT => by
            have hw : w1 = 0 := by rw [hw1]; unfold encC; rw [if_pos hT]
            subst hM
            rw [hw, eqSelf'] at h3
            cases h3
          show (zS, (5 : Int)) = decS b
          exact (decS_no hz hbl hge hne hta hRS (fun h => hT h.1)).symm
        have hT : supOK bl ge ne ta ([] : List RootD) := by
          by_cases hT : supOK bl ge ne ta ([] : List RootD)
          · exact hT
          · exfalso
            have hw : w1 = 5 := by rw [hw1]; unfold encC; rw [if_neg hT]
            have : real.dec (real.eq w1 0) = false := by
              cases hd : real.dec (real.eq w1 0) with
              | true =>
                have hd' : w1 = 0 := dec_iff.1 hd
                omega
              | false => rfl
            subst hM
            rw [this] at h3
            cases h3
        clear h3
        refine ⟨fun _ => True.intro, ?_⟩
        rintro ⟨(y : Bool), ⟨⟩⟩ x3 (hy : y = true ↔ w0 = b) - -
        cbv
        refine splM (fun h3 => ?_) (fun h3 => ?_) <;> cbv
        · rintro -
          have hE : ¬ encS bl ge ne ta ([] : List RootD) = b := fun hE => by
            have hyt : y = true := hy.2 (hw0.trans hE)
            subst hyt; subst hM
            cases h3
          show (zS, (5 : Int)) = decS b
          exact (decS_no hz hbl hge hne hta hRS (fun h => hE h.2)).symm
        · rintro -
          have hE : encS bl ge ne ta ([] : List RootD) = b := by
            have hyt : y = true := by cases y <;> first | rfl | (subst hM; cases h3)
            exact hw0.symm.trans (hy.1 hyt)
          show ((bl, ge, ne, ta, (([] : List RootD) : List RootD), PUnit.unit), (0 : Int)) = decS b
          exact (decS_ok hz hbl hge hne hta hRS hT hE).symm
    · have hcn : i = cnt b 16 := by
        (try simp only [jqn] at hj); (try simp only [jqi] at hj)
        have e1 : wrap .i64 (b.getD 1 0) = b.getD 1 0 := w64 (by omega)
        have h1' : ¬ j < wrap .i64 (b.getD 1 0) := by
          subst hM
          intro hh
          have : real.dec (real.lt j (wrap .i64 (b.getD 1 0))) = true := dec_iff.2 hh
          exact absurd (this.symm.trans h1) (by decide)
        rw [e1] at h1'
        unfold cnt at hi ⊢
        omega
      have hRS : ([] : List RootD) = readRoots b (cnt b 16) := by rw [← hcn, hi0]; rfl
      refine ⟨fun _ => (by show (([] : List RootD) : List RootD).length ≤ 1048576; simp), ?_⟩
      rintro ⟨(w0 : List Int), (w1 : Int), ⟨⟩⟩ x2 ⟨(hw0 : w0 = encS bl ge ne ta ([] : List RootD)), (hw1 : w1 = encC (supOK bl ge ne ta ([] : List RootD)))⟩ - -
      cbv
      refine splM (fun h3 => ?_) (fun h3 => ?_) <;> cbv
      · rintro -
        have hT : ¬ supOK bl ge ne ta ([] : List RootD) := fun hT => by
          have hw : w1 = 0 := by rw [hw1]; unfold encC; rw [if_pos hT]
          subst hM
          rw [hw, eqSelf'] at h3
          cases h3
        show (zS, (5 : Int)) = decS b
        exact (decS_no hz hbl hge hne hta hRS (fun h => hT h.1)).symm
      have hT : supOK bl ge ne ta ([] : List RootD) := by
        by_cases hT : supOK bl ge ne ta ([] : List RootD)
        · exact hT
        · exfalso
          have hw : w1 = 5 := by rw [hw1]; unfold encC; rw [if_neg hT]
          have : real.dec (real.eq w1 0) = false := by
            cases hd : real.dec (real.eq w1 0) with
            | true =>
              have hd' : w1 = 0 := dec_iff.1 hd
              omega
            | false => rfl
          subst hM
          rw [this] at h3
          cases h3
      clear h3
      refine ⟨fun _ => True.intro, ?_⟩
      rintro ⟨(y : Bool), ⟨⟩⟩ x3 (hy : y = true ↔ w0 = b) - -
      cbv
      refine splM (fun h3 => ?_) (fun h3 => ?_) <;> cbv
      · rintro -
        have hE : ¬ encS bl ge ne ta ([] : List RootD) = b := fun hE => by
          have hyt : y = true := hy.2 (hw0.trans hE)
          subst hyt; subst hM
          cases h3
        show (zS, (5 : Int)) = decS b
        exact (decS_no hz hbl hge hne hta hRS (fun h => hE h.2)).symm
      · rintro -
        have hE : encS bl ge ne ta ([] : List RootD) = b := by
          have hyt : y = true := by cases y <;> first | rfl | (subst hM; cases h3)
          exact hw0.symm.trans (hy.1 hyt)
        show ((bl, ge, ne, ta, (([] : List RootD) : List RootD), PUnit.unit), (0 : Int)) = decS b
        exact (decS_ok hz hbl hge hne hta hRS hT hE).symm
  · cbv
    refine ⟨by (try subst hM); (try simp only [jqn] at *); (try simp only [jqi] at *); (try simp only [real, jq1, jq2, jq3, jq4, jq5, jq6, sEq_dec, Bool.not_true, Bool.not_false, gt_iff_lt, ge_iff_le] at *); omega, by (try subst hM); (try simp only [jqn] at *); (try simp only [jqi] at *); (try simp only [real, jq1, jq2, jq3, jq4, jq5, jq6, sEq_dec, Bool.not_true, Bool.not_false, gt_iff_lt, ge_iff_le] at *); omega, ?_⟩
    refine splM (fun h1 => ?_) (fun h1 => ?_) <;> cbv
    · refine splM (fun h2 => ?_) (fun h2 => ?_) <;> cbv
      · refine ⟨ot14_8, (fun _ => by kernel_rfl), ?_⟩
        cbv
        (try simp only [jqn] at hj); (try simp only [jqi] at hj)
        have hin : i < cnt b 16 := by
          have e1 : wrap .i64 (b.getD 1 0) = b.getD 1 0 := w64 (by omega)
          have h1' : j < wrap .i64 (b.getD 1 0) := by subst hM; exact dec_iff.1 h1
          have h2' : j < 16 := by subst hM; exact dec_iff.1 h2
          rw [e1] at h1'
          unfold cnt
          omega
        have hlt : cnt b 16 - (i + 1) < cnt b 16 - i := by omega
        have hc20 : cnt b 16 ≤ 16 := by unfold cnt; omega
        have hj1 : wrap .i64 (j + 1) = ((i + 1 : Nat) : Int) := by rw [hj, w64 (by omega)]; omega
        have e4 : wrap .i64 (16 + wrap .i64 (4 * j)) = 16 + 4 * (i : Int) := by
          (try subst hM); (try simp only [jqn] at *); (try simp only [jqi] at *); (try simp only [real, jq1, jq2, jq3, jq4, jq5, jq6, sEq_dec, Bool.not_true, Bool.not_false, gt_iff_lt, ge_iff_le] at *)
          rw [hj, w64 (x := 4 * (i : Int)) (by omega), w64 (by omega)]
        have e6 : wrap .i64 (18 + wrap .i64 (4 * j)) = 18 + 4 * (i : Int) := by
          (try subst hM); (try simp only [jqn] at *); (try simp only [jqi] at *); (try simp only [real, jq1, jq2, jq3, jq4, jq5, jq6, sEq_dec, Bool.not_true, Bool.not_false, gt_iff_lt, ge_iff_le] at *)
          rw [hj, w64 (x := 4 * (i : Int)) (by omega), w64 (by omega)]
        repeat' (first
          | exact True.intro
          | (refine And.intro ?_ True.intro)
          | (fail_if_success have := hv1
             refine And.intro (fun _ => ⟨hl, (by (try subst hM); (try simp only [jqn] at *); (try simp only [jqi] at *); (try simp only [real, jq1, jq2, jq3, jq4, jq5, jq6, sEq_dec, Bool.not_true, Bool.not_false, gt_iff_lt, ge_iff_le] at *); (try simp only [e4, e6]); omega), (by show (0 : Int) ≤ 2; omega), (by show (2 : Int) ≤ 8; omega), (by (try subst hM); (try simp only [jqn] at *); (try simp only [jqi] at *); (try simp only [real, jq1, jq2, jq3, jq4, jq5, jq6, sEq_dec, Bool.not_true, Bool.not_false, gt_iff_lt, ge_iff_le] at *); (try simp only [e4, e6]); omega)⟩) ?_
             rintro ⟨(v1 : Int), ⟨⟩⟩ q1 hv1 - -
             cbv)
          | (fail_if_success have := hv2
             refine And.intro (fun _ => ⟨hl, (by (try subst hM); (try simp only [jqn] at *); (try simp only [jqi] at *); (try simp only [real, jq1, jq2, jq3, jq4, jq5, jq6, sEq_dec, Bool.not_true, Bool.not_false, gt_iff_lt, ge_iff_le] at *); (try simp only [e4, e6]); omega), (by show (0 : Int) ≤ 2; omega), (by show (2 : Int) ≤ 8; omega), (by (try subst hM); (try simp only [jqn] at *); (try simp only [jqi] at *); (try simp only [real, jq1, jq2, jq3, jq4, jq5, jq6, sEq_dec, Bool.not_true, Bool.not_false, gt_iff_lt, ge_iff_le] at *); (try simp only [e4, e6]); omega)⟩) ?_
             rintro ⟨(v2 : Int), ⟨⟩⟩ q2 hv2 - -
             cbv)
          | (refine And.intro ?_ ?_))
        all_goals first
          | (subst hM; show (xs : List RootD).length + 1 ≤ 2 ^ 36; rw [show xs.length = i from by rw [hx, readRoots_len]]; omega; done)
          | skip
        all_goals
          have hrun : (v1, v2, PUnit.unit) = readRoot b i := by
            subst hM
            have g1 : v1 = nm b (wrap .i64 (16 + wrap .i64 (4 * j))).toNat 2 := hv1
            have g2 : v2 = nm b (wrap .i64 (18 + wrap .i64 (4 * j))).toNat 2 := hv2
            rw [e4] at g1
            rw [e6] at g2
            rw [g1, g2, show (16 + 4 * (i : Int)).toNat = 16 + 4 * i by omega, show (18 + 4 * (i : Int)).toNat = 18 + 4 * i by omega]
            rfl
          refine ⟨cnt b 16 - (i + 1), hlt, i + 1, _, ⟨?_, hin⟩, rfl, .inr ⟨_, ?_, rfl⟩⟩
          · subst hM; exact hj1
          · subst hM
            show xs ++ [(v1, v2, PUnit.unit)] = _
            rw [readRoots_succ, hrun, hx]
      · have hcn : i = cnt b 16 := by
          (try simp only [jqn] at hj); (try simp only [jqi] at hj)
          have h2' : ¬ j < 16 := by
            subst hM
            intro hh
            have : real.dec (real.lt j 16) = true := dec_iff.2 hh
            exact absurd (this.symm.trans h2) (by decide)
          unfold cnt at hi ⊢
          omega
        have hRS : xs = readRoots b (cnt b 16) := by rw [← hcn]; exact hx
        refine ⟨fun _ => (by show (xs : List RootD).length ≤ 1048576; rw [show xs.length = i from by rw [hx, readRoots_len]]; unfold cnt at hi; omega), ?_⟩
        rintro ⟨(w0 : List Int), (w1 : Int), ⟨⟩⟩ x2 ⟨(hw0 : w0 = encS bl ge ne ta xs), (hw1 : w1 = encC (supOK bl ge ne ta xs))⟩ - -
        cbv
        refine splM (fun h3 => ?_) (fun h3 => ?_) <;> cbv
        · rintro -
          have hT : ¬ supOK bl ge ne ta xs := fun hT => by
            have hw : w1 = 0 := by rw [hw1]; unfold encC; rw [if_pos hT]
            subst hM
            rw [hw, eqSelf'] at h3
            cases h3
          show (zS, (5 : Int)) = decS b
          exact (decS_no hz hbl hge hne hta hRS (fun h => hT h.1)).symm
        have hT : supOK bl ge ne ta xs := by
          by_cases hT : supOK bl ge ne ta xs
          · exact hT
          · exfalso
            have hw : w1 = 5 := by rw [hw1]; unfold encC; rw [if_neg hT]
            have : real.dec (real.eq w1 0) = false := by
              cases hd : real.dec (real.eq w1 0) with
              | true =>
                have hd' : w1 = 0 := dec_iff.1 hd
                omega
              | false => rfl
            subst hM
            rw [this] at h3
            cases h3
        clear h3
        refine ⟨fun _ => True.intro, ?_⟩
        rintro ⟨(y : Bool), ⟨⟩⟩ x3 (hy : y = true ↔ w0 = b) - -
        cbv
        refine splM (fun h3 => ?_) (fun h3 => ?_) <;> cbv
        · rintro -
          have hE : ¬ encS bl ge ne ta xs = b := fun hE => by
            have hyt : y = true := hy.2 (hw0.trans hE)
            subst hyt; subst hM
            cases h3
          show (zS, (5 : Int)) = decS b
          exact (decS_no hz hbl hge hne hta hRS (fun h => hE h.2)).symm
        · rintro -
          have hE : encS bl ge ne ta xs = b := by
            have hyt : y = true := by cases y <;> first | rfl | (subst hM; cases h3)
            exact hw0.symm.trans (hy.1 hyt)
          show ((bl, ge, ne, ta, (xs : List RootD), PUnit.unit), (0 : Int)) = decS b
          exact (decS_ok hz hbl hge hne hta hRS hT hE).symm
    · have hcn : i = cnt b 16 := by
        (try simp only [jqn] at hj); (try simp only [jqi] at hj)
        have e1 : wrap .i64 (b.getD 1 0) = b.getD 1 0 := w64 (by omega)
        have h1' : ¬ j < wrap .i64 (b.getD 1 0) := by
          subst hM
          intro hh
          have : real.dec (real.lt j (wrap .i64 (b.getD 1 0))) = true := dec_iff.2 hh
          exact absurd (this.symm.trans h1) (by decide)
        rw [e1] at h1'
        unfold cnt at hi ⊢
        omega
      have hRS : xs = readRoots b (cnt b 16) := by rw [← hcn]; exact hx
      refine ⟨fun _ => (by show (xs : List RootD).length ≤ 1048576; rw [show xs.length = i from by rw [hx, readRoots_len]]; unfold cnt at hi; omega), ?_⟩
      rintro ⟨(w0 : List Int), (w1 : Int), ⟨⟩⟩ x2 ⟨(hw0 : w0 = encS bl ge ne ta xs), (hw1 : w1 = encC (supOK bl ge ne ta xs))⟩ - -
      cbv
      refine splM (fun h3 => ?_) (fun h3 => ?_) <;> cbv
      · rintro -
        have hT : ¬ supOK bl ge ne ta xs := fun hT => by
          have hw : w1 = 0 := by rw [hw1]; unfold encC; rw [if_pos hT]
          subst hM
          rw [hw, eqSelf'] at h3
          cases h3
        show (zS, (5 : Int)) = decS b
        exact (decS_no hz hbl hge hne hta hRS (fun h => hT h.1)).symm
      have hT : supOK bl ge ne ta xs := by
        by_cases hT : supOK bl ge ne ta xs
        · exact hT
        · exfalso
          have hw : w1 = 5 := by rw [hw1]; unfold encC; rw [if_neg hT]
          have : real.dec (real.eq w1 0) = false := by
            cases hd : real.dec (real.eq w1 0) with
            | true =>
              have hd' : w1 = 0 := dec_iff.1 hd
              omega
            | false => rfl
          subst hM
          rw [this] at h3
          cases h3
      clear h3
      refine ⟨fun _ => True.intro, ?_⟩
      rintro ⟨(y : Bool), ⟨⟩⟩ x3 (hy : y = true ↔ w0 = b) - -
      cbv
      refine splM (fun h3 => ?_) (fun h3 => ?_) <;> cbv
      · rintro -
        have hE : ¬ encS bl ge ne ta xs = b := fun hE => by
          have hyt : y = true := hy.2 (hw0.trans hE)
          subst hyt; subst hM
          cases h3
        show (zS, (5 : Int)) = decS b
        exact (decS_no hz hbl hge hne hta hRS (fun h => hE h.2)).symm
      · rintro -
        have hE : encS bl ge ne ta xs = b := by
          have hyt : y = true := by cases y <;> first | rfl | (subst hM; cases h3)
          exact hw0.symm.trans (hy.1 hyt)
        show ((bl, ge, ne, ta, (xs : List RootD), PUnit.unit), (0 : Int)) = decS b
        exact (decS_ok hz hbl hge hne hta hRS hT hE).symm
end Go.Proofs.YtmjeghlfmhbjdaaDoor.EngTab
