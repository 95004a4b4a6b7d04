/- Contracts: impl.readTable and impl.readSuper. -/
import Derived.Test.YtmjeghlfmhbjdaaDoorR2
import Derived.Test.YtmjeghlfmhbjdaaDoorI4
namespace Go.Proofs.YtmjeghlfmhbjdaaDoor.EngTab
open Go.Proofs.YtmjeghlfmhbjdaaDoor.Eng
open PUnit (unit)
open IntKind (wrap)
set_option maxRecDepth 100000
set_option linter.unusedVariables false
set_option linter.unusedSimpArgs false
def nilF : Form4 := .inr (.inr (.inr (.inr ())))
def readTab (b : List Int) : Form4 := if 20 < b.getD 1 0 then nilF else .inl ((3, b.getD 1 0, ()), (nm b 2 2, readRuns b (b.getD 1 0).toNat, ()), ())
theorem nm_drop {b : List Int} {a c n : Nat} : nm (b.drop a) c n = nm b (a + c) n := by unfold nm; rw [List.drop_drop]
theorem cut_all (b : List Int) (lo : Int) : real.cut b lo (real.ofN (real.len b)) = b.drop lo.toNat := by
  show (b.drop lo.toNat).take ((b.length : Int).toNat - lo.toNat) = _
  rw [List.take_of_length_le]
  simp
def c49 : Con := Con.of ⟨[(false, 0, tyB)], [(1, tyF4)], fun x => x.1.length = 128, fun x y _ => y.1 = readTab x.1⟩
set_option maxHeartbeats 8000000 in
theorem ok49 : FnOK Tryd.prog 49 c49 := by
  refine FnOK.of_vc mixed tabM4Ok (.cons en47 ok47 .nil) Tryd.func49 rfl (by decide) lv49 hd49 ?_
  rintro ⟨(b : List Int), ⟨⟩⟩ (hl : b.length = 128) hwf
  have hB : ∀ x ∈ b, 0 ≤ x ∧ x ≤ 255 := inB hwf.1
  have hby := byte_of hB 1
  generalize hM : real = M
  cbv
  refine ⟨by (try subst hM); (try simp only [jqn] at *); (try simp only [jqi] at *); (try simp only [real, jq1, jq2, jq3, jq4, jq5, jq6, sEq_dec, Bool.not_true, Bool.not_false, gt_iff_lt, ge_iff_le] at *); omega, by (try subst hM); (try simp only [jqn] at *); (try simp only [jqi] at *); (try simp only [real, jq1, jq2, jq3, jq4, jq5, jq6, sEq_dec, Bool.not_true, Bool.not_false, gt_iff_lt, ge_iff_le] at *); omega, ?_⟩
  refine splM (fun h => ?_) (fun h => ?_) <;> cbv
  · rintro -
    have h' : 20 < b.getD 1 0 := by
      subst hM
      have : (20 : Int) < wrap .i64 (b.getD 1 0) := dec_iff.1 h
      rw [w64 (by omega)] at this
      exact this
    show nilF = readTab b
    unfold readTab
    rw [if_pos h']
  have h20 : b.getD 1 0 ≤ 20 := by
    subst hM
    have hn : ¬ (20 : Int) < wrap .i64 (b.getD 1 0) := by
      intro hh
      have : real.dec (real.lt 20 (wrap .i64 (b.getD 1 0))) = true := dec_iff.2 hh
      exact absurd (this.symm.trans h) (by decide)
    rw [w64 (by omega)] at hn
    omega
  have hn64 : wrap .i64 (b.getD 1 0) = b.getD 1 0 := w64 (by omega)
  clear h
  refine ⟨by (try subst hM); (try simp only [jqn] at *); (try simp only [jqi] at *); (try simp only [real, jq1, jq2, jq3, jq4, jq5, jq6, sEq_dec, Bool.not_true, Bool.not_false, gt_iff_lt, ge_iff_le] at *); omega, by (try subst hM); (try simp only [jqn] at *); (try simp only [jqi] at *); (try simp only [real, jq1, jq2, jq3, jq4, jq5, jq6, sEq_dec, Bool.not_true, Bool.not_false, gt_iff_lt, ge_iff_le] at *); omega, by (try subst hM); (try simp only [jqn] at *); (try simp only [jqi] at *); (try simp only [real, jq1, jq2, jq3, jq4, jq5, jq6, sEq_dec, Bool.not_true, Bool.not_false, gt_iff_lt, ge_iff_le] at *); omega, fun _ => ?_, ?_⟩
  · subst hM
    show (real.cut b 2 (real.ofN (real.len b))).length ≤ 1048576 ∧ (0 : Int) ≤ 2 ∧ (2 : Int) ≤ 8 ∧ (2 : Int) ≤ ((real.cut b 2 (real.ofN (real.len b))).length : Int)
    rw [cut_all, List.length_drop, hl]; decide
  rintro ⟨(nx : Int), ⟨⟩⟩ x1 hnx' - -
  have hnx : nx = nm b 2 2 := by
    subst hM
    have h : nx = nm (real.cut b 2 (real.ofN (real.len b))) 0 2 := hnx'
    rw [h, cut_all, nm_drop]; rfl
  clear hnx'
  cbv
  refine ⟨fun m Γ => ∃ (i : Nat) (j : Int), (j = i ∧ i ≤ (b.getD 1 0).toNat) ∧ m = (b.getD 1 0).toNat - i ∧ ((i = 0 ∧ Γ = ⟨48, [(0, .pv [] tyB b), (4, .ad 0 tyTF 0 []), (20, .pv [] (.int .i64) (M.wrap .i64 (M.get b 1 0))), (21, .pv [] (.int .i64) j)], [(0, .box (.consA (.consA (.pv [] (.int .i64) 3) (.consA (.pv [] (.int .i64) (M.wrap .i64 (M.get b 1 0))) .nilA)) (.consA (.consA (.pv [] (.int .i64) nx) (.consA .nils .nilA)) .nilA)))], [.hole 0]⟩) ∨
    ∃ xs, xs = readRuns b i ∧ Γ = ⟨48, [(0, .pv [] tyB b), (4, .ad 0 tyTF 0 []), (20, .pv [] (.int .i64) (M.wrap .i64 (M.get b 1 0))), (21, .pv [] (.int .i64) j)], [(0, .box (.consA (.consA (.pv [] (.int .i64) 3) (.consA (.pv [] (.int .i64) (M.wrap .i64 (M.get b 1 0))) .nilA)) (.consA (.consA (.pv [] (.int .i64) nx) (.consA (.ref 2) .nilA)) .nilA))), (2, .row 0 tyRun xs)], [.hole 0]⟩), ⟨_, 0, 0, ⟨rfl, Nat.zero_le _⟩, rfl, .inl ⟨rfl, rfl⟩⟩, ?_⟩
  rintro m _ ⟨i, j, ⟨hj, hi⟩, rfl, (⟨hi0, rfl⟩ | ⟨xs, hx, rfl⟩)⟩ - <;> cbv
  · refine splM (fun h => ?_) (fun h => ?_) <;> cbv
    · have hin : i < (b.getD 1 0).toNat := by
        (try simp only [jqn] at hj); (try simp only [jqi] at hj)
        have h1' : j < wrap .i64 (b.getD 1 0) := by subst hM; exact dec_iff.1 h
        rw [hn64] at h1'
        omega
      (try simp only [jqn] at hj); (try simp only [jqi] at hj)
      have hlt : (b.getD 1 0).toNat - (i + 1) < (b.getD 1 0).toNat - i := by omega
      have hj1 : wrap .i64 (j + 1) = ((i + 1 : Nat) : Int) := by rw [hj, w64 (by omega)]; omega
      have e4 : wrap .i64 (4 + wrap .i64 (6 * j)) = 4 + 6 * (i : Int) := by rw [hj, w64 (x := 6 * (i : Int)) (by omega), w64 (by omega)]
      have hA0 : 0 ≤ 4 + 6 * (i : Int) := by omega
      have hA1 : 4 + 6 * (i : Int) ≤ (b.length : Int) := by omega
      have hAn : (4 + 6 * (i : Int)).toNat = 4 + 6 * i := by omega
      have hX0 : (real.cut b (wrap .i64 (4 + wrap .i64 (6 * j))) (real.ofN (real.len b))) = b.drop (4 + 6 * i) := by rw [cut_all, e4, hAn]
      have hX2 : (real.cut (real.cut b (wrap .i64 (4 + wrap .i64 (6 * j))) (real.ofN (real.len b))) 2 (real.ofN (real.len (real.cut b (wrap .i64 (4 + wrap .i64 (6 * j))) (real.ofN (real.len b)))))) = b.drop (6 + 6 * i) := by
        rw [hX0, cut_all, List.drop_drop, show 4 + 6 * i + (2 : Int).toNat = 6 + 6 * i from by omega]
      have hX4 : (real.cut (real.cut b (wrap .i64 (4 + wrap .i64 (6 * j))) (real.ofN (real.len b))) 4 (real.ofN (real.len (real.cut b (wrap .i64 (4 + wrap .i64 (6 * j))) (real.ofN (real.len b)))))) = b.drop (8 + 6 * i) := by
        rw [hX0, cut_all, List.drop_drop, show 4 + 6 * i + (4 : Int).toNat = 8 + 6 * i from by omega]
      refine ⟨?_, ?_, ?_, ?_⟩
      · subst hM
        show 0 ≤ wrap .i64 (4 + wrap .i64 (6 * j))
        rw [e4]; exact hA0
      · subst hM
        show wrap .i64 (4 + wrap .i64 (6 * j)) ≤ (b.length : Int)
        rw [e4]; exact hA1
      · subst hM; exact Int.le_refl _
      refine ⟨ot49_9, (fun _ => by kernel_rfl), ?_⟩
      cbv
      have hi19 : i ≤ 19 := by omega
      clear hj h
      refine ⟨?_, ?_, ?_, ?_, ?_, ?_, ?_⟩
      · subst hM; show (0 : Int) ≤ 2; decide
      · subst hM
        show (2 : Int) ≤ ((real.cut b (wrap .i64 (4 + wrap .i64 (6 * j))) (real.ofN (real.len b))).length : Int)
        rw [hX0, List.length_drop, hl]; omega
      · subst hM; exact Int.le_refl _
      · subst hM; show (0 : Int) ≤ 4; decide
      · subst hM
        show (4 : Int) ≤ ((real.cut b (wrap .i64 (4 + wrap .i64 (6 * j))) (real.ofN (real.len b))).length : Int)
        rw [hX0, List.length_drop, hl]; omega
      · subst hM; exact Int.le_refl _
      repeat' (first
        | exact True.intro
        | (refine And.intro ?_ True.intro)
        | (fail_if_success have := hv1
           refine And.intro (fun _ => by subst hM; show (real.cut b (wrap .i64 (4 + wrap .i64 (6 * j))) (real.ofN (real.len b))).length ≤ 1048576 ∧ (0 : Int) ≤ 2 ∧ (2 : Int) ≤ 8 ∧ (2 : Int) ≤ ((real.cut b (wrap .i64 (4 + wrap .i64 (6 * j))) (real.ofN (real.len b))).length : Int); rw [hX0, List.length_drop, hl]; omega) ?_
           rintro ⟨(v1 : Int), ⟨⟩⟩ q1 hv1 - -
           cbv)
        | (fail_if_success have := hv2
           refine And.intro (fun _ => by subst hM; show (real.cut (real.cut b (wrap .i64 (4 + wrap .i64 (6 * j))) (real.ofN (real.len b))) 2 (real.ofN (real.len (real.cut b (wrap .i64 (4 + wrap .i64 (6 * j))) (real.ofN (real.len b)))))).length ≤ 1048576 ∧ (0 : Int) ≤ 2 ∧ (2 : Int) ≤ 8 ∧ (2 : Int) ≤ ((real.cut (real.cut b (wrap .i64 (4 + wrap .i64 (6 * j))) (real.ofN (real.len b))) 2 (real.ofN (real.len (real.cut b (wrap .i64 (4 + wrap .i64 (6 * j))) (real.ofN (real.len b)))))).length : Int); rw [hX2, List.length_drop, hl]; omega) ?_
           rintro ⟨(v2 : Int), ⟨⟩⟩ q2 hv2 - -
           cbv)
        | (fail_if_success have := hv3
           refine And.intro (fun _ => by subst hM; show (real.cut (real.cut b (wrap .i64 (4 + wrap .i64 (6 * j))) (real.ofN (real.len b))) 4 (real.ofN (real.len (real.cut b (wrap .i64 (4 + wrap .i64 (6 * j))) (real.ofN (real.len b)))))).length ≤ 1048576 ∧ (0 : Int) ≤ 2 ∧ (2 : Int) ≤ 8 ∧ (2 : Int) ≤ ((real.cut (real.cut b (wrap .i64 (4 + wrap .i64 (6 * j))) (real.ofN (real.len b))) 4 (real.ofN (real.len (real.cut b (wrap .i64 (4 + wrap .i64 (6 * j))) (real.ofN (real.len b)))))).length : Int); rw [hX4, List.length_drop, hl]; omega) ?_
           rintro ⟨(v3 : Int), ⟨⟩⟩ q3 hv3 - -
           cbv)
        | (refine And.intro ?_ ?_))
      all_goals first
        | (subst hM; show ([] : List RunD).length + 1 ≤ 2 ^ 36; simp; done)
        | skip
      all_goals
        have hrun : (v1, v2, v3, unit) = readRun b i := by
          subst hM
          have g1 : v1 = nm ((real.cut b (wrap .i64 (4 + wrap .i64 (6 * j))) (real.ofN (real.len b)))) 0 2 := hv1
          have g2 : v2 = nm ((real.cut ((real.cut b (wrap .i64 (4 + wrap .i64 (6 * j))) (real.ofN (real.len b)))) 2 (real.ofN (real.len ((real.cut b (wrap .i64 (4 + wrap .i64 (6 * j))) (real.ofN (real.len b)))))))) 0 2 := hv2
          have g3 : v3 = nm ((real.cut ((real.cut b (wrap .i64 (4 + wrap .i64 (6 * j))) (real.ofN (real.len b)))) 4 (real.ofN (real.len ((real.cut b (wrap .i64 (4 + wrap .i64 (6 * j))) (real.ofN (real.len b)))))))) 0 2 := hv3
          rw [hX0, nm_drop] at g1
          rw [hX2, nm_drop] at g2
          rw [hX4, nm_drop] at g3
          rw [g1, g2, g3]
          rfl
        refine ⟨(b.getD 1 0).toNat - (i + 1), hlt, i + 1, _, ⟨?_, hin⟩, rfl, .inr ⟨_, ?_, rfl⟩⟩
        · subst hM; exact hj1
        · subst hM
          show [] ++ [(v1, v2, v3, unit)] = _
          rw [readRuns_succ, hrun, hi0]; rfl
    · rintro -
      have hin : i = (b.getD 1 0).toNat := by
        (try simp only [jqn] at hj); (try simp only [jqi] at hj)
        have h1' : ¬ j < wrap .i64 (b.getD 1 0) := by
          subst hM
          intro hh
          have : real.dec (real.lt j (wrap .i64 (b.getD 1 0))) = true := dec_iff.2 hh
          exact absurd (this.symm.trans h) (by decide)
        rw [hn64] at h1'
        omega
      have hRS : ([] : List RunD) = readRuns b (b.getD 1 0).toNat := by rw [← hin, hi0]; rfl
      subst hM
      show (Sum.inl ((3, wrap .i64 (b.getD 1 0), unit), (nx, ([] : List RunD), unit), unit) : Form4) = readTab b
      unfold readTab
      rw [if_neg (by omega), hn64, hRS, hnx]
  · refine splM (fun h => ?_) (fun h => ?_) <;> cbv
    · have hin : i < (b.getD 1 0).toNat := by
        (try simp only [jqn] at hj); (try simp only [jqi] at hj)
        have h1' : j < wrap .i64 (b.getD 1 0) := by subst hM; exact dec_iff.1 h
        rw [hn64] at h1'
        omega
      (try simp only [jqn] at hj); (try simp only [jqi] at hj)
      have hlt : (b.getD 1 0).toNat - (i + 1) < (b.getD 1 0).toNat - i := by omega
      have hj1 : wrap .i64 (j + 1) = ((i + 1 : Nat) : Int) := by rw [hj, w64 (by omega)]; omega
      have e4 : wrap .i64 (4 + wrap .i64 (6 * j)) = 4 + 6 * (i : Int) := by rw [hj, w64 (x := 6 * (i : Int)) (by omega), w64 (by omega)]
      have hA0 : 0 ≤ 4 + 6 * (i : Int) := by omega
      have hA1 : 4 + 6 * (i : Int) ≤ (b.length : Int) := by omega
      have hAn : (4 + 6 * (i : Int)).toNat = 4 + 6 * i := by omega
      have hX0 : (real.cut b (wrap .i64 (4 + wrap .i64 (6 * j))) (real.ofN (real.len b))) = b.drop (4 + 6 * i) := by rw [cut_all, e4, hAn]
      have hX2 : (real.cut (real.cut b (wrap .i64 (4 + wrap .i64 (6 * j))) (real.ofN (real.len b))) 2 (real.ofN (real.len (real.cut b (wrap .i64 (4 + wrap .i64 (6 * j))) (real.ofN (real.len b)))))) = b.drop (6 + 6 * i) := by
        rw [hX0, cut_all, List.drop_drop, show 4 + 6 * i + (2 : Int).toNat = 6 + 6 * i from by omega]
      have hX4 : (real.cut (real.cut b (wrap .i64 (4 + wrap .i64 (6 * j))) (real.ofN (real.len b))) 4 (real.ofN (real.len (real.cut b (wrap .i64 (4 + wrap .i64 (6 * j))) (real.ofN (real.len b)))))) = b.drop (8 + 6 * i) := by
        rw [hX0, cut_all, List.drop_drop, show 4 + 6 * i + (4 : Int).toNat = 8 + 6 * i from by omega]
      refine ⟨?_, ?_, ?_, ?_⟩
      · subst hM
        show 0 ≤ wrap .i64 (4 + wrap .i64 (6 * j))
        rw [e4]; exact hA0
      · subst hM
        show wrap .i64 (4 + wrap .i64 (6 * j)) ≤ (b.length : Int)
        rw [e4]; exact hA1
      · subst hM; exact Int.le_refl _
      refine ⟨ot49_9, (fun _ => by kernel_rfl), ?_⟩
      cbv
      have hi19 : i ≤ 19 := by omega
      clear hj h
      refine ⟨?_, ?_, ?_, ?_, ?_, ?_, ?_⟩
      · subst hM; show (0 : Int) ≤ 2; decide
      · subst hM
        show (2 : Int) ≤ ((real.cut b (wrap .i64 (4 + wrap .i64 (6 * j))) (real.ofN (real.len b))).length : Int)
        rw [hX0, List.length_drop, hl]; omega
      · subst hM; exact Int.le_refl _
      · subst hM; show (0 : Int) ≤ 4; decide
      · subst hM
        show (4 : Int) ≤ ((real.cut b (wrap .i64 (4 + wrap .i64 (6 * j))) (real.ofN (real.len b))).length : Int)
        rw [hX0, List.length_drop, hl]; omega
      · subst hM; exact Int.le_refl _
      repeat' (first
        | exact True.intro
        | (refine And.intro ?_ True.intro)
        | (fail_if_success have := hv1
           refine And.intro (fun _ => by subst hM; show (real.cut b (wrap .i64 (4 + wrap .i64 (6 * j))) (real.ofN (real.len b))).length ≤ 1048576 ∧ (0 : Int) ≤ 2 ∧ (2 : Int) ≤ 8 ∧ (2 : Int) ≤ ((real.cut b (wrap .i64 (4 + wrap .i64 (6 * j))) (real.ofN (real.len b))).length : Int); rw [hX0, List.length_drop, hl]; omega) ?_
           rintro ⟨(v1 : Int), ⟨⟩⟩ q1 hv1 - -
           cbv)
        | (fail_if_success have := hv2
           refine And.intro (fun _ => by subst hM; show (real.cut (real.cut b (wrap .i64 (4 + wrap .i64 (6 * j))) (real.ofN (real.len b))) 2 (real.ofN (real.len (real.cut b (wrap .i64 (4 + wrap .i64 (6 * j))) (real.ofN (real.len b)))))).length ≤ 1048576 ∧ (0 : Int) ≤ 2 ∧ (2 : Int) ≤ 8 ∧ (2 : Int) ≤ ((real.cut (real.cut b (wrap .i64 (4 + wrap .i64 (6 * j))) (real.ofN (real.len b))) 2 (real.ofN (real.len (real.cut b (wrap .i64 (4 + wrap .i64 (6 * j))) (real.ofN (real.len b)))))).length : Int); rw [hX2, List.length_drop, hl]; omega) ?_
           rintro ⟨(v2 : Int), ⟨⟩⟩ q2 hv2 - -
           cbv)
        | (fail_if_success have := hv3
           refine And.intro (fun _ => by subst hM; show (real.cut (real.cut b (wrap .i64 (4 + wrap .i64 (6 * j))) (real.ofN (real.len b))) 4 (real.ofN (real.len (real.cut b (wrap .i64 (4 + wrap .i64 (6 * j))) (real.ofN (real.len b)))))).length ≤ 1048576 ∧ (0 : Int) ≤ 2 ∧ (2 : Int) ≤ 8 ∧ (2 : Int) ≤ ((real.cut (real.cut b (wrap .i64 (4 + wrap .i64 (6 * j))) (real.ofN (real.len b))) 4 (real.ofN (real.len (real.cut b (wrap .i64 (4 + wrap .i64 (6 * j))) (real.ofN (real.len b)))))).length : Int); rw [hX4, List.length_drop, hl]; omega) ?_
           rintro ⟨(v3 : Int), ⟨⟩⟩ q3 hv3 - -
           cbv)
        | (refine And.intro ?_ ?_))
      all_goals first
        | (subst hM; show (xs : List RunD).length + 1 ≤ 2 ^ 36; rw [show xs.length = i from by rw [hx, readRuns_len]]; omega; done)
        | skip
      all_goals
        have hrun : (v1, v2, v3, unit) = readRun b i := by
          subst hM
          have g1 : v1 = nm ((real.cut b (wrap .i64 (4 + wrap .i64 (6 * j))) (real.ofN (real.len b)))) 0 2 := hv1
          have g2 : v2 = nm ((real.cut ((real.cut b (wrap .i64 (4 + wrap .i64 (6 * j))) (real.ofN (real.len b)))) 2 (real.ofN (real.len ((real.cut b (wrap .i64 (4 + wrap .i64 (6 * j))) (real.ofN (real.len b)))))))) 0 2 := hv2
          have g3 : v3 = nm ((real.cut ((real.cut b (wrap .i64 (4 + wrap .i64 (6 * j))) (real.ofN (real.len b)))) 4 (real.ofN (real.len ((real.cut b (wrap .i64 (4 + wrap .i64 (6 * j))) (real.ofN (real.len b)))))))) 0 2 := hv3
          rw [hX0, nm_drop] at g1
          rw [hX2, nm_drop] at g2
          rw [hX4, nm_drop] at g3
          rw [g1, g2, g3]
          rfl
        refine ⟨(b.getD 1 0).toNat - (i + 1), hlt, i + 1, _, ⟨?_, hin⟩, rfl, .inr ⟨_, ?_, rfl⟩⟩
        · subst hM; exact hj1
        · subst hM
          show xs ++ [(v1, v2, v3, unit)] = _
          rw [readRuns_succ, hrun, hx]
    · rintro -
      have hin : i = (b.getD 1 0).toNat := by
        (try simp only [jqn] at hj); (try simp only [jqi] at hj)
        have h1' : ¬ j < wrap .i64 (b.getD 1 0) := by
          subst hM
          intro hh
          have : real.dec (real.lt j (wrap .i64 (b.getD 1 0))) = true := dec_iff.2 hh
          exact absurd (this.symm.trans h) (by decide)
        rw [hn64] at h1'
        omega
      have hRS : xs = readRuns b (b.getD 1 0).toNat := by rw [← hin]; exact hx
      subst hM
      show (Sum.inl ((3, wrap .i64 (b.getD 1 0), unit), (nx, xs, unit), unit) : Form4) = readTab b
      unfold readTab
      rw [if_neg (by omega), hn64, hRS, hnx]
end Go.Proofs.YtmjeghlfmhbjdaaDoor.EngTab
