/- Contracts: the specification's DecodeTable and DecodeSuper. -/
import Derived.Test.YtmjeghlfmhbjdaaDoorQ
import Derived.Test.YtmjeghlfmhbjdaaDoorO
namespace Go.Proofs.YtmjeghlfmhbjdaaDoor.EngTab
open Go.Proofs.YtmjeghlfmhbjdaaDoor.Eng
open PUnit (unit)
open IntKind (wrap)
set_option maxRecDepth 100000
set_option linter.unusedVariables false
set_option linter.unusedSimpArgs false
def readRun (b : List Int) (i : Nat) : RunD := (nm b (4 + 6 * i) 2, nm b (6 + 6 * i) 2, nm b (8 + 6 * i) 2, ())
def readRuns (b : List Int) (n : Nat) : List RunD := (List.range n).map (readRun b)
theorem readRuns_succ (b : List Int) (n : Nat) : readRuns b (n + 1) = readRuns b n ++ [readRun b n] := by simp [readRuns, List.range_succ]
theorem readRuns_len (b : List Int) (n : Nat) : (readRuns b n).length = n := by simp [readRuns]
def cnt (b : List Int) (top : Nat) : Nat := min (b.getD 1 0).toNat top
open Classical in
noncomputable def decT (b : List Int) : (Int × List RunD × Unit) × Int :=
  if sumC b ≠ 0 then ((0, [], ()), sumC b) else
  if tabOK (nm b 2 2) (readRuns b (cnt b 20)) ∧ encT (nm b 2 2) (readRuns b (cnt b 20)) = b then ((nm b 2 2, readRuns b (cnt b 20), ()), 0) else ((0, [], ()), 5)
theorem decT_ok {b : List Int} {nx : Int} {rs : List RunD} (hz : sumC b = 0) (hn : nx = nm b 2 2) (hR : rs = readRuns b (cnt b 20)) (hT : tabOK nx rs) (hE : encT nx rs = b) : decT b = ((nx, rs, ()), 0) := by
  unfold decT
  rw [if_neg (by omega), ← hR, ← hn, if_pos ⟨hT, hE⟩]
theorem decT_no {b : List Int} {nx : Int} {rs : List RunD} (hz : sumC b = 0) (hn : nx = nm b 2 2) (hR : rs = readRuns b (cnt b 20)) (h : ¬ (tabOK nx rs ∧ encT nx rs = b)) : decT b = ((0, [], ()), 5) := by
  unfold decT
  rw [if_neg (by omega), ← hR, ← hn, if_neg h]
def c9 : Con := Con.of ⟨[(false, 0, tyB)], [(1, tyTab), (0, .int .i64)], fun x => x.1.length ≤ 1048576, fun x y _ => (y.1, y.2.1) = decT x.1⟩
set_option maxHeartbeats 8000000 in
theorem ok9 : FnOK Tryd.prog 9 c9 := by
  refine FnOK.of_vc mixed tabOk (.cons en19 ok19 (.cons en21 ok21 (.cons en32 ok32 (.cons en23 ok23 .nil)))) Tryd.func9 rfl (by decide) lv9 hd9 ?_
  rintro ⟨(b : List Int), ⟨⟩⟩ (hl : b.length ≤ 1048576) hwf
  have hB : ∀ x ∈ b, 0 ≤ x ∧ x ≤ 255 := inB hwf.1
  generalize hM : real = M
  cbv
  refine ⟨fun _ => hl, ?_⟩
  rintro ⟨(c : Int), ⟨⟩⟩ x0 (hc : c = sumC b) - -
  cbv
  refine splM (fun h => ?_) (fun h => ?_) <;> cbv
  · rintro -
    have hne : sumC b ≠ 0 := by
      (try subst hM); (try simp only [jqn] at *); (try simp only [jqi] at *); (try simp only [real, jq1, jq2, jq3, jq4, jq5, jq6, sEq_dec, Bool.not_true, Bool.not_false, gt_iff_lt, ge_iff_le] at *)
      omega
    show ((0, [], unit), c) = decT b
    unfold decT
    rw [if_pos hne, hc]
  have hz : sumC b = 0 := by
    (try subst hM); (try simp only [jqn] at *); (try simp only [jqi] at *); (try simp only [real, jq1, jq2, jq3, jq4, jq5, jq6, sEq_dec, Bool.not_true, Bool.not_false, gt_iff_lt, ge_iff_le] at *)
    omega
  have h128 : b.length = 128 := by
    unfold sumC at hz
    by_cases hh : b.length ≠ 128
    · rw [if_pos hh] at hz; omega
    · omega
  clear h
  refine ⟨fun _ => ⟨hl, (by show (0 : Int) ≤ 2; omega), (by show (0 : Int) ≤ 2; omega), (by show (2 : Int) ≤ 8; omega), (by show (2 : Int) + 2 ≤ (b.length : Int); omega)⟩, ?_⟩
  rintro ⟨(nx : Int), ⟨⟩⟩ x1 (hnx : nx = nm b 2 2) - -
  cbv
  have hby := byte_of hB 1
  refine ⟨fun m Γ => ∃ (i : Nat) (j : Int), (j = i ∧ i ≤ cnt b 20) ∧ m = cnt b 20 - i ∧ ((i = 0 ∧ Γ = ⟨66, [(0, .pv [] tyB b), (2, .ad 0 tyTab 0 []), (5, .ad 1 tyTab 0 []), (6, .pv [] (.int .i64) j)], [(0, .box (.consA (.pv [] (.int .i64) 0) (.consA .nils .nilA))), (1, .box (.consA (.pv [] (.int .i64) nx) (.consA .nils .nilA)))], [.hole 0]⟩) ∨
    ∃ xs, xs = readRuns b i ∧ Γ = ⟨66, [(0, .pv [] tyB b), (2, .ad 0 tyTab 0 []), (5, .ad 1 tyTab 0 []), (6, .pv [] (.int .i64) j)], [(0, .box (.consA (.pv [] (.int .i64) 0) (.consA .nils .nilA))), (1, .box (.consA (.pv [] (.int .i64) nx) (.consA (.ref 3) .nilA))), (3, .row 0 tyRun xs)], [.hole 0]⟩), ⟨_, 0, 0, ⟨rfl, Nat.zero_le _⟩, rfl, .inl ⟨rfl, rfl⟩⟩, ?_⟩
  rintro m _ ⟨i, j, ⟨hj, hi⟩, rfl, (⟨hi0, rfl⟩ | ⟨xs, hx, rfl⟩)⟩ -
  · cbv
    refine ⟨by (try subst hM); (try simp only [jqn] at *); (try simp only [jqi] at *); (try simp only [real, jq1, jq2, jq3, jq4, jq5, jq6, sEq_dec, Bool.not_true, Bool.not_false, gt_iff_lt, ge_iff_le] at *); omega, by (try subst hM); (try simp only [jqn] at *); (try simp only [jqi] at *); (try simp only [real, jq1, jq2, jq3, jq4, jq5, jq6, sEq_dec, Bool.not_true, Bool.not_false, gt_iff_lt, ge_iff_le] at *); omega, ?_⟩
    refine splM (fun h1 => ?_) (fun h1 => ?_) <;> cbv
    · refine splM (fun h2 => ?_) (fun h2 => ?_) <;> cbv
      · refine ⟨ot9_9, (fun _ => by kernel_rfl), ?_⟩
        cbv
        (try simp only [jqn] at hj); (try simp only [jqi] at hj)
        have hin : i < cnt b 20 := by
          have e1 : wrap .i64 (b.getD 1 0) = b.getD 1 0 := w64 (by omega)
          have h1' : j < wrap .i64 (b.getD 1 0) := by subst hM; exact dec_iff.1 h1
          have h2' : j < 20 := by subst hM; exact dec_iff.1 h2
          rw [e1] at h1'
          unfold cnt
          omega
        have hlt : cnt b 20 - (i + 1) < cnt b 20 - i := by omega
        have hc20 : cnt b 20 ≤ 20 := by unfold cnt; omega
        have hj1 : wrap .i64 (j + 1) = ((i + 1 : Nat) : Int) := by rw [hj, w64 (by omega)]; omega
        have e4 : wrap .i64 (4 + wrap .i64 (6 * j)) = 4 + 6 * (i : Int) := by
          (try subst hM); (try simp only [jqn] at *); (try simp only [jqi] at *); (try simp only [real, jq1, jq2, jq3, jq4, jq5, jq6, sEq_dec, Bool.not_true, Bool.not_false, gt_iff_lt, ge_iff_le] at *)
          rw [hj, w64 (x := 6 * (i : Int)) (by omega), w64 (by omega)]
        have e6 : wrap .i64 (4 + 6 * (i : Int) + 2) = 6 + 6 * (i : Int) := by
          (try subst hM); (try simp only [jqn] at *); (try simp only [jqi] at *); (try simp only [real, jq1, jq2, jq3, jq4, jq5, jq6, sEq_dec, Bool.not_true, Bool.not_false, gt_iff_lt, ge_iff_le] at *)
          rw [w64 (by omega)]; omega
        have e8 : wrap .i64 (4 + 6 * (i : Int) + 4) = 8 + 6 * (i : Int) := by
          (try subst hM); (try simp only [jqn] at *); (try simp only [jqi] at *); (try simp only [real, jq1, jq2, jq3, jq4, jq5, jq6, sEq_dec, Bool.not_true, Bool.not_false, gt_iff_lt, ge_iff_le] at *)
          rw [w64 (by omega)]; omega
        repeat' (first
          | exact True.intro
          | (refine And.intro ?_ True.intro)
          | (fail_if_success have := hv1
             refine And.intro (fun _ => ⟨hl, (by (try subst hM); (try simp only [jqn] at *); (try simp only [jqi] at *); (try simp only [real, jq1, jq2, jq3, jq4, jq5, jq6, sEq_dec, Bool.not_true, Bool.not_false, gt_iff_lt, ge_iff_le] at *); (try simp only [e4, e6, e8]); omega), (by show (0 : Int) ≤ 2; omega), (by show (2 : Int) ≤ 8; omega), (by (try subst hM); (try simp only [jqn] at *); (try simp only [jqi] at *); (try simp only [real, jq1, jq2, jq3, jq4, jq5, jq6, sEq_dec, Bool.not_true, Bool.not_false, gt_iff_lt, ge_iff_le] at *); (try simp only [e4, e6, e8]); omega)⟩) ?_
             rintro ⟨(v1 : Int), ⟨⟩⟩ q1 hv1 - -
             cbv)
          | (fail_if_success have := hv2
             refine And.intro (fun _ => ⟨hl, (by (try subst hM); (try simp only [jqn] at *); (try simp only [jqi] at *); (try simp only [real, jq1, jq2, jq3, jq4, jq5, jq6, sEq_dec, Bool.not_true, Bool.not_false, gt_iff_lt, ge_iff_le] at *); (try simp only [e4, e6, e8]); omega), (by show (0 : Int) ≤ 2; omega), (by show (2 : Int) ≤ 8; omega), (by (try subst hM); (try simp only [jqn] at *); (try simp only [jqi] at *); (try simp only [real, jq1, jq2, jq3, jq4, jq5, jq6, sEq_dec, Bool.not_true, Bool.not_false, gt_iff_lt, ge_iff_le] at *); (try simp only [e4, e6, e8]); omega)⟩) ?_
             rintro ⟨(v2 : Int), ⟨⟩⟩ q2 hv2 - -
             cbv)
          | (fail_if_success have := hv3
             refine And.intro (fun _ => ⟨hl, (by (try subst hM); (try simp only [jqn] at *); (try simp only [jqi] at *); (try simp only [real, jq1, jq2, jq3, jq4, jq5, jq6, sEq_dec, Bool.not_true, Bool.not_false, gt_iff_lt, ge_iff_le] at *); (try simp only [e4, e6, e8]); omega), (by show (0 : Int) ≤ 2; omega), (by show (2 : Int) ≤ 8; omega), (by (try subst hM); (try simp only [jqn] at *); (try simp only [jqi] at *); (try simp only [real, jq1, jq2, jq3, jq4, jq5, jq6, sEq_dec, Bool.not_true, Bool.not_false, gt_iff_lt, ge_iff_le] at *); (try simp only [e4, e6, e8]); omega)⟩) ?_
             rintro ⟨(v3 : Int), ⟨⟩⟩ q3 hv3 - -
             cbv)
          | (refine And.intro ?_ ?_))
        all_goals first
          | (subst hM; show ([] : List RunD).length + 1 ≤ 2 ^ 36; simp; done)
          | skip
        all_goals
          have hrun : (v1, v2, v3, unit) = readRun b i := by
            subst hM
            have g1 : v1 = nm b (wrap .i64 (4 + wrap .i64 (6 * j))).toNat 2 := hv1
            have g2 : v2 = nm b (wrap .i64 (wrap .i64 (4 + wrap .i64 (6 * j)) + 2)).toNat 2 := hv2
            have g3 : v3 = nm b (wrap .i64 (wrap .i64 (4 + wrap .i64 (6 * j)) + 4)).toNat 2 := hv3
            rw [e4] at g1 g2 g3
            rw [e6] at g2
            rw [e8] at g3
            rw [g1, g2, g3, show (4 + 6 * (i : Int)).toNat = 4 + 6 * i by omega, show (6 + 6 * (i : Int)).toNat = 6 + 6 * i by omega, show (8 + 6 * (i : Int)).toNat = 8 + 6 * i by omega]
            rfl
          refine ⟨cnt b 20 - (i + 1), hlt, i + 1, _, ⟨?_, hin⟩, rfl, .inr ⟨_, ?_, rfl⟩⟩
          · subst hM; exact hj1
          · subst hM
            show [] ++ [(v1, v2, v3, unit)] = _
            rw [readRuns_succ, hrun, hi0]; rfl
      · have hcn : i = cnt b 20 := by
          (try simp only [jqn] at hj); (try simp only [jqi] at hj)
          have h2' : ¬ j < 20 := by
            subst hM
            intro hh
            have : real.dec (real.lt j 20) = true := dec_iff.2 hh
            exact absurd (this.symm.trans h2) (by decide)
          unfold cnt at hi ⊢
          omega
        have hRS : ([] : List RunD) = readRuns b (cnt b 20) := by rw [← hcn, hi0]; rfl
        refine ⟨fun _ => (by show (([] : List RunD) : List RunD).length ≤ 1048576; simp), ?_⟩
        rintro ⟨(w0 : List Int), (w1 : Int), ⟨⟩⟩ x2 ⟨(hw0 : w0 = encT nx ([] : List RunD)), (hw1 : w1 = encC (tabOK nx ([] : List RunD)))⟩ - -
        cbv
        refine splM (fun h3 => ?_) (fun h3 => ?_) <;> cbv
        · rintro -
          have hT : ¬ tabOK nx ([] : List RunD) := fun hT => by
            have hw : w1 = 0 := by rw [hw1]; unfold encC; rw [if_pos hT]
            subst hM
            rw [hw, eqSelf'] at h3
            cases h3
          show ((0, [], unit), (5 : Int)) = decT b
          exact (decT_no hz hnx hRS (fun h => hT h.1)).symm
        have hT : tabOK nx ([] : List RunD) := by
          by_cases hT : tabOK nx ([] : List RunD)
          · exact hT
          · exfalso
            have hw : w1 = 5 := by rw [hw1]; unfold encC; rw [if_neg hT]
            have : real.dec (real.eq w1 0) = false := by
              cases hd : real.dec (real.eq w1 0) with
              | true =>
                have hd' : w1 = 0 := dec_iff.1 hd
                omega
              | false => rfl
            subst hM
            rw [this] at h3
            cases h3
        clear h3
        refine ⟨fun _ => True.intro, ?_⟩
        rintro ⟨(y : Bool), ⟨⟩⟩ x3 (hy : y = true ↔ w0 = b) - -
        cbv
        refine splM (fun h3 => ?_) (fun h3 => ?_) <;> cbv
        · rintro -
          have hE : ¬ encT nx ([] : List RunD) = b := fun hE => by
            have hyt : y = true := hy.2 (hw0.trans hE)
            subst hyt; subst hM
            cases h3
          show ((0, [], unit), (5 : Int)) = decT b
          exact (decT_no hz hnx hRS (fun h => hE h.2)).symm
        · rintro -
          have hE : encT nx ([] : List RunD) = b := by
            have hyt : y = true := by cases y <;> first | rfl | (subst hM; cases h3)
            exact hw0.symm.trans (hy.1 hyt)
          show ((nx, ([] : List RunD), unit), (0 : Int)) = decT b
          exact (decT_ok hz hnx hRS hT hE).symm
    · have hcn : i = cnt b 20 := by
        (try simp only [jqn] at hj); (try simp only [jqi] at hj)
        have e1 : wrap .i64 (b.getD 1 0) = b.getD 1 0 := w64 (by omega)
        have h1' : ¬ j < wrap .i64 (b.getD 1 0) := by
          subst hM
          intro hh
          have : real.dec (real.lt j (wrap .i64 (b.getD 1 0))) = true := dec_iff.2 hh
          exact absurd (this.symm.trans h1) (by decide)
        rw [e1] at h1'
        unfold cnt at hi ⊢
        omega
      have hRS : ([] : List RunD) = readRuns b (cnt b 20) := by rw [← hcn, hi0]; rfl
      refine ⟨fun _ => (by show (([] : List RunD) : List RunD).length ≤ 1048576; simp), ?_⟩
      rintro ⟨(w0 : List Int), (w1 : Int), ⟨⟩⟩ x2 ⟨(hw0 : w0 = encT nx ([] : List RunD)), (hw1 : w1 = encC (tabOK nx ([] : List RunD)))⟩ - -
      cbv
      refine splM (fun h3 => ?_) (fun h3 => ?_) <;> cbv
      · rintro -
        have hT : ¬ tabOK nx ([] : List RunD) := fun hT => by
          have hw : w1 = 0 := by rw [hw1]; unfold encC; rw [if_pos hT]
          subst hM
          rw [hw, eqSelf'] at h3
          cases h3
        show ((0, [], unit), (5 : Int)) = decT b
        exact (decT_no hz hnx hRS (fun h => hT h.1)).symm
      have hT : tabOK nx ([] : List RunD) := by
        by_cases hT : tabOK nx ([] : List RunD)
        · exact hT
        · exfalso
          have hw : w1 = 5 := by rw [hw1]; unfold encC; rw [if_neg hT]
          have : real.dec (real.eq w1 0) = false := by
            cases hd : real.dec (real.eq w1 0) with
            | true =>
              have hd' : w1 = 0 := dec_iff.1 hd
              omega
            | false => rfl
          subst hM
          rw [this] at h3
          cases h3
      clear h3
      refine ⟨fun _ => True.intro, ?_⟩
      rintro ⟨(y : Bool), ⟨⟩⟩ x3 (hy : y = true ↔ w0 = b) - -
      cbv
      refine splM (fun h3 => ?_) (fun h3 => ?_) <;> cbv
      · rintro -
        have hE : ¬ encT nx ([] : List RunD) = b := fun hE => by
          have hyt : y = true := hy.2 (hw0.trans hE)
          subst hyt; subst hM
          cases h3
        show ((0, [], unit), (5 : Int)) = decT b
        exact (decT_no hz hnx hRS (fun h => hE h.2)).symm
      · rintro -
        have hE : encT nx ([] : List RunD) = b := by
          have hyt : y = true := by cases y <;> first | rfl | (subst hM; cases h3)
          exact hw0.symm.trans (hy.1 hyt)
        show ((nx, ([] : List RunD), unit), (0 : Int)) = decT b
        exact (decT_ok hz hnx hRS hT hE).symm
  · cbv
    refine ⟨by (try subst hM); (try simp only [jqn] at *); (try simp only [jqi] at *); (try simp only [real, jq1, jq2, jq3, jq4, jq5, jq6, sEq_dec, Bool.not_true, Bool.not_false, gt_iff_lt, ge_iff_le] at *); omega, by (try subst hM); (try simp only [jqn] at *); (try simp only [jqi] at *); (try simp only [real, jq1, jq2, jq3, jq4, jq5, jq6, sEq_dec, Bool.not_true, Bool.not_false, gt_iff_lt, ge_iff_le] at *); omega, ?_⟩
    refine splM (fun h1 => ?_) (fun h1 => ?_) <;> cbv
    · refine splM (fun h2 => ?_) (fun h2 => ?_) <;> cbv
      · refine ⟨ot9_9, (fun _ => by kernel_rfl), ?_⟩
        cbv
        (try simp only [jqn] at hj); (try simp only [jqi] at hj)
        have hin : i < cnt b 20 := by
          have e1 : wrap .i64 (b.getD 1 0) = b.getD 1 0 := w64 (by omega)
          have h1' : j < wrap .i64 (b.getD 1 0) := by subst hM; exact dec_iff.1 h1
          have h2' : j < 20 := by subst hM; exact dec_iff.1 h2
          rw [e1] at h1'
          unfold cnt
          omega
        have hlt : cnt b 20 - (i + 1) < cnt b 20 - i := by omega
        have hc20 : cnt b 20 ≤ 20 := by unfold cnt; omega
        have hj1 : wrap .i64 (j + 1) = ((i + 1 : Nat) : Int) := by rw [hj, w64 (by omega)]; omega
        have e4 : wrap .i64 (4 + wrap .i64 (6 * j)) = 4 + 6 * (i : Int) := by
          (try subst hM); (try simp only [jqn] at *); (try simp only [jqi] at *); (try simp only [real, jq1, jq2, jq3, jq4, jq5, jq6, sEq_dec, Bool.not_true, Bool.not_false, gt_iff_lt, ge_iff_le] at *)
          rw [hj, w64 (x := 6 * (i : Int)) (by omega), w64 (by omega)]
        have e6 : wrap .i64 (4 + 6 * (i : Int) + 2) = 6 + 6 * (i : Int) := by
          (try subst hM); (try simp only [jqn] at *); (try simp only [jqi] at *); (try simp only [real, jq1, jq2, jq3, jq4, jq5, jq6, sEq_dec, Bool.not_true, Bool.not_false, gt_iff_lt, ge_iff_le] at *)
          rw [w64 (by omega)]; omega
        have e8 : wrap .i64 (4 + 6 * (i : Int) + 4) = 8 + 6 * (i : Int) := by
          (try subst hM); (try simp only [jqn] at *); (try simp only [jqi] at *); (try simp only [real, jq1, jq2, jq3, jq4, jq5, jq6, sEq_dec, Bool.not_true, Bool.not_false, gt_iff_lt, ge_iff_le] at *)
          rw [w64 (by omega)]; omega
        repeat' (first
          | exact True.intro
          | (refine And.intro ?_ True.intro)
          | (fail_if_success have := hv1
             refine And.intro (fun _ => ⟨hl, (by (try subst hM); (try simp only [jqn] at *); (try simp only [jqi] at *); (try simp only [real, jq1, jq2, jq3, jq4, jq5, jq6, sEq_dec, Bool.not_true, Bool.not_false, gt_iff_lt, ge_iff_le] at *); (try simp only [e4, e6, e8]); omega), (by show (0 : Int) ≤ 2; omega), (by show (2 : Int) ≤ 8; omega), (by (try subst hM); (try simp only [jqn] at *); (try simp only [jqi] at *); (try simp only [real, jq1, jq2, jq3, jq4, jq5, jq6, sEq_dec, Bool.not_true, Bool.not_false, gt_iff_lt, ge_iff_le] at *); (try simp only [e4, e6, e8]); omega)⟩) ?_
             rintro ⟨(v1 : Int), ⟨⟩⟩ q1 hv1 - -
             cbv)
          | (fail_if_success have := hv2
             refine And.intro (fun _ => ⟨hl, (by (try subst hM); (try simp only [jqn] at *); (try simp only [jqi] at *); (try simp only [real, jq1, jq2, jq3, jq4, jq5, jq6, sEq_dec, Bool.not_true, Bool.not_false, gt_iff_lt, ge_iff_le] at *); (try simp only [e4, e6, e8]); omega), (by show (0 : Int) ≤ 2; omega), (by show (2 : Int) ≤ 8; omega), (by (try subst hM); (try simp only [jqn] at *); (try simp only [jqi] at *); (try simp only [real, jq1, jq2, jq3, jq4, jq5, jq6, sEq_dec, Bool.not_true, Bool.not_false, gt_iff_lt, ge_iff_le] at *); (try simp only [e4, e6, e8]); omega)⟩) ?_
             rintro ⟨(v2 : Int), ⟨⟩⟩ q2 hv2 - -
             cbv)
          | (fail_if_success have := hv3
             refine And.intro (fun _ => ⟨hl, (by (try subst hM); (try simp only [jqn] at *); (try simp only [jqi] at *); (try simp only [real, jq1, jq2, jq3, jq4, jq5, jq6, sEq_dec, Bool.not_true, Bool.not_false, gt_iff_lt, ge_iff_le] at *); (try simp only [e4, e6, e8]); omega), (by show (0 : Int) ≤ 2; omega), (by show (2 : Int) ≤ 8; omega), (by (try subst hM); (try simp only [jqn] at *); (try simp only [jqi] at *); (try simp only [real, jq1, jq2, jq3, jq4, jq5, jq6, sEq_dec, Bool.not_true, Bool.not_false, gt_iff_lt, ge_iff_le] at *); (try simp only [e4, e6, e8]); omega)⟩) ?_
             rintro ⟨(v3 : Int), ⟨⟩⟩ q3 hv3 - -
             cbv)
          | (refine And.intro ?_ ?_))
        all_goals first
          | (subst hM; show (xs : List RunD).length + 1 ≤ 2 ^ 36; rw [show xs.length = i from by rw [hx, readRuns_len]]; omega; done)
          | skip
        all_goals
          have hrun : (v1, v2, v3, unit) = readRun b i := by
            subst hM
            have g1 : v1 = nm b (wrap .i64 (4 + wrap .i64 (6 * j))).toNat 2 := hv1
            have g2 : v2 = nm b (wrap .i64 (wrap .i64 (4 + wrap .i64 (6 * j)) + 2)).toNat 2 := hv2
            have g3 : v3 = nm b (wrap .i64 (wrap .i64 (4 + wrap .i64 (6 * j)) + 4)).toNat 2 := hv3
            rw [e4] at g1 g2 g3
            rw [e6] at g2
            rw [e8] at g3
            rw [g1, g2, g3, show (4 + 6 * (i : Int)).toNat = 4 + 6 * i by omega, show (6 + 6 * (i : Int)).toNat = 6 + 6 * i by omega, show (8 + 6 * (i : Int)).toNat = 8 + 6 * i by omega]
            rfl
          refine ⟨cnt b 20 - (i + 1), hlt, i + 1, _, ⟨?_, hin⟩, rfl, .inr ⟨_, ?_, rfl⟩⟩
          · subst hM; exact hj1
          · subst hM
            show xs ++ [(v1, v2, v3, unit)] = _
            rw [readRuns_succ, hrun, hx]
      · have hcn : i = cnt b 20 := by
          (try simp only [jqn] at hj); (try simp only [jqi] at hj)
          have h2' : ¬ j < 20 := by
            subst hM
            intro hh
            have : real.dec (real.lt j 20) = true := dec_iff.2 hh
            exact absurd (this.symm.trans h2) (by decide)
          unfold cnt at hi ⊢
          omega
        have hRS : xs = readRuns b (cnt b 20) := by rw [← hcn]; exact hx
        refine ⟨fun _ => (by show (xs : List RunD).length ≤ 1048576; rw [show xs.length = i from by rw [hx, readRuns_len]]; unfold cnt at hi; omega), ?_⟩
        rintro ⟨(w0 : List Int), (w1 : Int), ⟨⟩⟩ x2 ⟨(hw0 : w0 = encT nx xs), (hw1 : w1 = encC (tabOK nx xs))⟩ - -
        cbv
        refine splM (fun h3 => ?_) (fun h3 => ?_) <;> cbv
        · rintro -
          have hT : ¬ tabOK nx xs := fun hT => by
            have hw : w1 = 0 := by rw [hw1]; unfold encC; rw [if_pos hT]
            subst hM
            rw [hw, eqSelf'] at h3
            cases h3
          show ((0, [], unit), (5 : Int)) = decT b
          exact (decT_no hz hnx hRS (fun h => hT h.1)).symm
        have hT : tabOK nx xs := by
          by_cases hT : tabOK nx xs
          · exact hT
          · exfalso
            have hw : w1 = 5 := by rw [hw1]; unfold encC; rw [if_neg hT]
            have : real.dec (real.eq w1 0) = false := by
              cases hd : real.dec (real.eq w1 0) with
              | true =>
                have hd' : w1 = 0 := dec_iff.1 hd
                omega
              | false => rfl
            subst hM
            rw [this] at h3
            cases h3
        clear h3
        refine ⟨fun _ => True.intro, ?_⟩
        rintro ⟨(y : Bool), ⟨⟩⟩ x3 (hy : y = true ↔ w0 = b) - -
        cbv
        refine splM (fun h3 => ?_) (fun h3 => ?_) <;> cbv
        · rintro -
          have hE : ¬ encT nx xs = b := fun hE => by
            have hyt : y = true := hy.2 (hw0.trans hE)
            subst hyt; subst hM
            cases h3
          show ((0, [], unit), (5 : Int)) = decT b
          exact (decT_no hz hnx hRS (fun h => hE h.2)).symm
        · rintro -
          have hE : encT nx xs = b := by
            have hyt : y = true := by cases y <;> first | rfl | (subst hM; cases h3)
            exact hw0.symm.trans (hy.1 hyt)
          show ((nx, xs, unit), (0 : Int)) = decT b
          exact (decT_ok hz hnx hRS hT hE).symm
    · have hcn : i = cnt b 20 := by
        (try simp only [jqn] at hj); (try simp only [jqi] at hj)
        have e1 : wrap .i64 (b.getD 1 0) = b.getD 1 0 := w64 (by omega)
        have h1' : ¬ j < wrap .i64 (b.getD 1 0) := by
          subst hM
          intro hh
          have : real.dec (real.lt j (wrap .i64 (b.getD 1 0))) = true := dec_iff.2 hh
          exact absurd (this.symm.trans h1) (by decide)
        rw [e1] at h1'
        unfold cnt at hi ⊢
        omega
      have hRS : xs = readRuns b (cnt b 20) := by rw [← hcn]; exact hx
      refine ⟨fun _ => (by show (xs : List RunD).length ≤ 1048576; rw [show xs.length = i from by rw [hx, readRuns_len]]; unfold cnt at hi; omega), ?_⟩
      rintro ⟨(w0 : List Int), (w1 : Int), ⟨⟩⟩ x2 ⟨(hw0 : w0 = encT nx xs), (hw1 : w1 = encC (tabOK nx xs))⟩ - -
      cbv
      refine splM (fun h3 => ?_) (fun h3 => ?_) <;> cbv
      · rintro -
        have hT : ¬ tabOK nx xs := fun hT => by
          have hw : w1 = 0 := by rw [hw1]; unfold encC; rw [if_pos hT]
          subst hM
          rw [hw, eqSelf'] at h3
          cases h3
        show ((0, [], unit), (5 : Int)) = decT b
        exact (decT_no hz hnx hRS (fun h => hT h.1)).symm
      have hT : tabOK nx xs := by
        by_cases hT : tabOK nx xs
        · exact hT
        · exfalso
          have hw : w1 = 5 := by rw [hw1]; unfold encC; rw [if_neg hT]
          have : real.dec (real.eq w1 0) = false := by
            cases hd : real.dec (real.eq w1 0) with
            | true =>
              have hd' : w1 = 0 := dec_iff.1 hd
              omega
            | false => rfl
          subst hM
          rw [this] at h3
          cases h3
      clear h3
      refine ⟨fun _ => True.intro, ?_⟩
      rintro ⟨(y : Bool), ⟨⟩⟩ x3 (hy : y = true ↔ w0 = b) - -
      cbv
      refine splM (fun h3 => ?_) (fun h3 => ?_) <;> cbv
      · rintro -
        have hE : ¬ encT nx xs = b := fun hE => by
          have hyt : y = true := hy.2 (hw0.trans hE)
          subst hyt; subst hM
          cases h3
        show ((0, [], unit), (5 : Int)) = decT b
        exact (decT_no hz hnx hRS (fun h => hE h.2)).symm
      · rintro -
        have hE : encT nx xs = b := by
          have hyt : y = true := by cases y <;> first | rfl | (subst hM; cases h3)
          exact hw0.symm.trans (hy.1 hyt)
        show ((nx, xs, unit), (0 : Int)) = decT b
        exact (decT_ok hz hnx hRS hT hE).symm
end Go.Proofs.YtmjeghlfmhbjdaaDoor.EngTab
