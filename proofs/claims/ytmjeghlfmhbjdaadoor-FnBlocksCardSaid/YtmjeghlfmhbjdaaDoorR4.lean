/- Contracts: impl.readSuper. -/
import Derived.Test.YtmjeghlfmhbjdaaDoorR3
namespace Go.Proofs.YtmjeghlfmhbjdaaDoor.EngTab
open Go.Proofs.YtmjeghlfmhbjdaaDoor.Eng
open PUnit (unit)
open IntKind (wrap)
set_option maxRecDepth 100000
set_option linter.unusedVariables false
set_option linter.unusedSimpArgs false
def readRoot (b : List Int) (i : Nat) : RootD := (nm b (16 + 4 * i) 2, nm b (18 + 4 * i) 2, ())
def readRoots (b : List Int) (n : Nat) : List RootD := (List.range n).map (readRoot b)
theorem readRoots_succ (b : List Int) (n : Nat) : readRoots b (n + 1) = readRoots b n ++ [readRoot b n] := by simp [readRoots, List.range_succ]
theorem readRoots_len (b : List Int) (n : Nat) : (readRoots b n).length = n := by simp [readRoots]
def readSup (b : List Int) : Form4 := if 16 < b.getD 1 0 then nilF else .inr (.inl ((4, b.getD 1 0, ()), (nm b 2 2, nm b 4 8, nm b 12 2, nm b 14 2, readRoots b (b.getD 1 0).toNat, ()), ()))
def c50 : Con := Con.of ⟨[(false, 0, tyB)], [(1, tyF4)], fun x => x.1.length = 128, fun x y _ => y.1 = readSup x.1⟩
set_option maxHeartbeats 8000000 in
theorem ok50 : FnOK Tryd.prog 50 c50 := by
  refine FnOK.of_vc mixed tabM4Ok (.cons en47 ok47 .nil) Tryd.func50 rfl (by decide) lv50 hd50 ?_
  rintro ⟨(b : List Int), ⟨⟩⟩ (hl : b.length = 128) hwf
  have hB : ∀ x ∈ b, 0 ≤ x ∧ x ≤ 255 := inB hwf.1
  have hby := byte_of hB 1
  generalize hM : real = M
  cbv
  refine ⟨by (try subst hM); (try simp only [jqn] at *); (try simp only [jqi] at *); (try simp only [real, jq1, jq2, jq3, jq4, jq5, jq6, sEq_dec, Bool.not_true, Bool.not_false, gt_iff_lt, ge_iff_le] at *); omega, by (try subst hM); (try simp only [jqn] at *); (try simp only [jqi] at *); (try simp only [real, jq1, jq2, jq3, jq4, jq5, jq6, sEq_dec, Bool.not_true, Bool.not_false, gt_iff_lt, ge_iff_le] at *); omega, ?_⟩
  refine splM (fun h => ?_) (fun h => ?_) <;> cbv
  · rintro -
    have h' : 16 < b.getD 1 0 := by
      subst hM
      have : (16 : Int) < wrap .i64 (b.getD 1 0) := dec_iff.1 h
      rw [w64 (by omega)] at this
      exact this
    show nilF = readSup b
    unfold readSup
    rw [if_pos h']
  have h20 : b.getD 1 0 ≤ 16 := by
    subst hM
    have hn : ¬ (16 : Int) < wrap .i64 (b.getD 1 0) := by
      intro hh
      have : real.dec (real.lt 16 (wrap .i64 (b.getD 1 0))) = true := dec_iff.2 hh
      exact absurd (this.symm.trans h) (by decide)
    rw [w64 (by omega)] at hn
    omega
  have hn64 : wrap .i64 (b.getD 1 0) = b.getD 1 0 := w64 (by omega)
  clear h
  refine ⟨ot50_4, (fun _ => by kernel_rfl), ?_⟩
  cbv
  have hX2 : real.cut b 2 (real.ofN (real.len b)) = b.drop 2 := cut_all b 2
  have hX4 : real.cut b 4 (real.ofN (real.len b)) = b.drop 4 := cut_all b 4
  have hX12 : real.cut b 12 (real.ofN (real.len b)) = b.drop 12 := cut_all b 12
  have hX14 : real.cut b 14 (real.ofN (real.len b)) = b.drop 14 := cut_all b 14
  repeat' (first
    | exact True.intro
    | (refine And.intro ?_ True.intro)
    | (fail_if_success have := hv1
       refine And.intro (fun _ => by subst hM; show (real.cut b 2 (real.ofN (real.len b))).length ≤ 1048576 ∧ (0 : Int) ≤ 2 ∧ (2 : Int) ≤ 8 ∧ (2 : Int) ≤ ((real.cut b 2 (real.ofN (real.len b))).length : Int); rw [hX2, List.length_drop, hl]; omega) ?_
       rintro ⟨(v1 : Int), ⟨⟩⟩ q1 hv1 - -
       cbv)
    | (fail_if_success have := hv2
       refine And.intro (fun _ => by subst hM; show (real.cut b 4 (real.ofN (real.len b))).length ≤ 1048576 ∧ (0 : Int) ≤ 8 ∧ (8 : Int) ≤ 8 ∧ (8 : Int) ≤ ((real.cut b 4 (real.ofN (real.len b))).length : Int); rw [hX4, List.length_drop, hl]; omega) ?_
       rintro ⟨(v2 : Int), ⟨⟩⟩ q2 hv2 - -
       cbv)
    | (fail_if_success have := hv3
       refine And.intro (fun _ => by subst hM; show (real.cut b 12 (real.ofN (real.len b))).length ≤ 1048576 ∧ (0 : Int) ≤ 2 ∧ (2 : Int) ≤ 8 ∧ (2 : Int) ≤ ((real.cut b 12 (real.ofN (real.len b))).length : Int); rw [hX12, List.length_drop, hl]; omega) ?_
       rintro ⟨(v3 : Int), ⟨⟩⟩ q3 hv3 - -
       cbv)
    | (fail_if_success have := hv4
       refine And.intro (fun _ => by subst hM; show (real.cut b 14 (real.ofN (real.len b))).length ≤ 1048576 ∧ (0 : Int) ≤ 2 ∧ (2 : Int) ≤ 8 ∧ (2 : Int) ≤ ((real.cut b 14 (real.ofN (real.len b))).length : Int); rw [hX14, List.length_drop, hl]; omega) ?_
       rintro ⟨(v4 : Int), ⟨⟩⟩ q4 hv4 - -
       cbv)
    | (refine And.intro (by (try subst hM); (try simp only [jqn] at *); (try simp only [jqi] at *); (try simp only [real, jq1, jq2, jq3, jq4, jq5, jq6, sEq_dec, Bool.not_true, Bool.not_false, gt_iff_lt, ge_iff_le] at *); omega) ?_)
    | (refine And.intro ?_ ?_))
  all_goals
    have k1 : v1 = nm b 2 2 := by
      subst hM
      have h : v1 = nm (real.cut b 2 (real.ofN (real.len b))) 0 2 := hv1
      rw [h, hX2, nm_drop]
    have k2 : v2 = nm b 4 8 := by
      subst hM
      have h : v2 = nm (real.cut b 4 (real.ofN (real.len b))) 0 8 := hv2
      rw [h, hX4, nm_drop]
    have k3 : v3 = nm b 12 2 := by
      subst hM
      have h : v3 = nm (real.cut b 12 (real.ofN (real.len b))) 0 2 := hv3
      rw [h, hX12, nm_drop]
    have k4 : v4 = nm b 14 2 := by
      subst hM
      have h : v4 = nm (real.cut b 14 (real.ofN (real.len b))) 0 2 := hv4
      rw [h, hX14, nm_drop]
    clear hv1 hv2 hv3 hv4 hX2 hX4 hX12 hX14
    refine ⟨fun m Γ => ∃ (i : Nat) (j : Int), (j = i ∧ i ≤ (b.getD 1 0).toNat) ∧ m = (b.getD 1 0).toNat - i ∧ ((i = 0 ∧ Γ = ⟨52, [(0, .pv [] tyB b), (3, .pv [] (.int .i64) (M.wrap .i64 (M.get b 1 0))), (4, .ad 0 tySup 0 []), (26, .pv [] (.int .i64) (M.wrap .i64 (M.get b 1 0))), (27, .pv [] (.int .i64) j)], [(0, .box (.consA (.pv [] (.int .i64) v1) (.consA (.pv [] (.int .i64) v2) (.consA (.pv [] (.int .i64) v3) (.consA (.pv [] (.int .i64) v4) (.consA .nils .nilA))))))], [.hole 0]⟩) ∨
      ∃ xs, xs = readRoots b i ∧ Γ = ⟨52, [(0, .pv [] tyB b), (3, .pv [] (.int .i64) (M.wrap .i64 (M.get b 1 0))), (4, .ad 0 tySup 0 []), (26, .pv [] (.int .i64) (M.wrap .i64 (M.get b 1 0))), (27, .pv [] (.int .i64) j)], [(0, .box (.consA (.pv [] (.int .i64) v1) (.consA (.pv [] (.int .i64) v2) (.consA (.pv [] (.int .i64) v3) (.consA (.pv [] (.int .i64) v4) (.consA (.ref 2) .nilA)))))), (2, .row 0 tyRoot xs)], [.hole 0]⟩), ⟨_, 0, 0, ⟨rfl, Nat.zero_le _⟩, rfl, .inl ⟨rfl, rfl⟩⟩, ?_⟩
    rintro m _ ⟨i, j, ⟨hj, hi⟩, rfl, (⟨hi0, rfl⟩ | ⟨xs, hx, rfl⟩)⟩ - <;> cbv
    · refine splM (fun h => ?_) (fun h => ?_) <;> cbv
      · have hin : i < (b.getD 1 0).toNat := by
          (try simp only [jqn] at hj); (try simp only [jqi] at hj)
          have h1' : j < wrap .i64 (b.getD 1 0) := by subst hM; exact dec_iff.1 h
          rw [hn64] at h1'
          omega
        (try simp only [jqn] at hj); (try simp only [jqi] at hj)
        have hlt : (b.getD 1 0).toNat - (i + 1) < (b.getD 1 0).toNat - i := by omega
        have hj1 : wrap .i64 (j + 1) = ((i + 1 : Nat) : Int) := by rw [hj, w64 (by omega)]; omega
        have e4 : wrap .i64 (16 + wrap .i64 (4 * j)) = 16 + 4 * (i : Int) := by rw [hj, w64 (x := 4 * (i : Int)) (by omega), w64 (by omega)]
        have hA0 : 0 ≤ 16 + 4 * (i : Int) := by omega
        have hA1 : 16 + 4 * (i : Int) ≤ (b.length : Int) := by omega
        have hAn : (16 + 4 * (i : Int)).toNat = 16 + 4 * i := by omega
        have hX0 : (real.cut b (wrap .i64 (16 + wrap .i64 (4 * j))) (real.ofN (real.len b))) = b.drop (16 + 4 * i) := by rw [cut_all, e4, hAn]
        have hX2 : (real.cut (real.cut b (wrap .i64 (16 + wrap .i64 (4 * j))) (real.ofN (real.len b))) 2 (real.ofN (real.len (real.cut b (wrap .i64 (16 + wrap .i64 (4 * j))) (real.ofN (real.len b)))))) = b.drop (18 + 4 * i) := by
          rw [hX0, cut_all, List.drop_drop, show 16 + 4 * i + (2 : Int).toNat = 18 + 4 * i from by omega]
        refine ⟨?_, ?_, ?_, ?_⟩
        · subst hM
          show 0 ≤ wrap .i64 (16 + wrap .i64 (4 * j))
          rw [e4]; exact hA0
        · subst hM
          show wrap .i64 (16 + wrap .i64 (4 * j)) ≤ (b.length : Int)
          rw [e4]; exact hA1
        · subst hM; exact Int.le_refl _
        refine ⟨ot50_9, (fun _ => by kernel_rfl), ?_⟩
        cbv
        have hi19 : i ≤ 15 := by omega
        clear hj h
        refine ⟨?_, ?_, ?_, ?_⟩
        · subst hM; show (0 : Int) ≤ 2; decide
        · subst hM
          show (2 : Int) ≤ ((real.cut b (wrap .i64 (16 + wrap .i64 (4 * j))) (real.ofN (real.len b))).length : Int)
          rw [hX0, List.length_drop, hl]; omega
        · subst hM; exact Int.le_refl _
        repeat' (first
          | exact True.intro
          | (refine And.intro ?_ True.intro)
          | (fail_if_success have := hw1
             refine And.intro (fun _ => by subst hM; show (real.cut b (wrap .i64 (16 + wrap .i64 (4 * j))) (real.ofN (real.len b))).length ≤ 1048576 ∧ (0 : Int) ≤ 2 ∧ (2 : Int) ≤ 8 ∧ (2 : Int) ≤ ((real.cut b (wrap .i64 (16 + wrap .i64 (4 * j))) (real.ofN (real.len b))).length : Int); rw [hX0, List.length_drop, hl]; omega) ?_
             rintro ⟨(w1 : Int), ⟨⟩⟩ q1 hw1 - -
             cbv)
          | (fail_if_success have := hw2
             refine And.intro (fun _ => by subst hM; show (real.cut (real.cut b (wrap .i64 (16 + wrap .i64 (4 * j))) (real.ofN (real.len b))) 2 (real.ofN (real.len (real.cut b (wrap .i64 (16 + wrap .i64 (4 * j))) (real.ofN (real.len b)))))).length ≤ 1048576 ∧ (0 : Int) ≤ 2 ∧ (2 : Int) ≤ 8 ∧ (2 : Int) ≤ ((real.cut (real.cut b (wrap .i64 (16 + wrap .i64 (4 * j))) (real.ofN (real.len b))) 2 (real.ofN (real.len (real.cut b (wrap .i64 (16 + wrap .i64 (4 * j))) (real.ofN (real.len b)))))).length : Int); rw [hX2, List.length_drop, hl]; omega) ?_
             rintro ⟨(w2 : Int), ⟨⟩⟩ q2 hw2 - -
             cbv)
          | (refine And.intro ?_ ?_))
        all_goals first
          | (subst hM; show ([] : List RootD).length + 1 ≤ 2 ^ 36; simp; done)
          | skip
        all_goals
          have hrun : (w1, w2, unit) = readRoot b i := by
            subst hM
            have g1 : w1 = nm ((real.cut b (wrap .i64 (16 + wrap .i64 (4 * j))) (real.ofN (real.len b)))) 0 2 := hw1
            have g2 : w2 = nm ((real.cut ((real.cut b (wrap .i64 (16 + wrap .i64 (4 * j))) (real.ofN (real.len b)))) 2 (real.ofN (real.len ((real.cut b (wrap .i64 (16 + wrap .i64 (4 * j))) (real.ofN (real.len b)))))))) 0 2 := hw2
            rw [hX0, nm_drop] at g1
            rw [hX2, nm_drop] at g2
            rw [g1, g2]
            rfl
          refine ⟨(b.getD 1 0).toNat - (i + 1), hlt, i + 1, _, ⟨?_, hin⟩, rfl, .inr ⟨_, ?_, rfl⟩⟩
          · subst hM; exact hj1
          · subst hM
            show [] ++ [(w1, w2, unit)] = _
            rw [readRoots_succ, hrun, hi0]; rfl
      · rintro -
        have hin : i = (b.getD 1 0).toNat := by
          (try simp only [jqn] at hj); (try simp only [jqi] at hj)
          have h1' : ¬ j < wrap .i64 (b.getD 1 0) := by
            subst hM
            intro hh
            have : real.dec (real.lt j (wrap .i64 (b.getD 1 0))) = true := dec_iff.2 hh
            exact absurd (this.symm.trans h) (by decide)
          rw [hn64] at h1'
          omega
        have hRS : ([] : List RootD) = readRoots b (b.getD 1 0).toNat := by rw [← hin, hi0]; rfl
        subst hM
        show (Sum.inr (Sum.inl ((4, wrap .i64 (b.getD 1 0), unit), (v1, v2, v3, v4, ([] : List RootD), unit), unit)) : Form4) = readSup b
        unfold readSup
        rw [if_neg (by omega), hn64, hRS, k1, k2, k3, k4]
    · refine splM (fun h => ?_) (fun h => ?_) <;> cbv
      · have hin : i < (b.getD 1 0).toNat := by
          (try simp only [jqn] at hj); (try simp only [jqi] at hj)
          have h1' : j < wrap .i64 (b.getD 1 0) := by subst hM; exact dec_iff.1 h
          rw [hn64] at h1'
          omega
        (try simp only [jqn] at hj); (try simp only [jqi] at hj)
        have hlt : (b.getD 1 0).toNat - (i + 1) < (b.getD 1 0).toNat - i := by omega
        have hj1 : wrap .i64 (j + 1) = ((i + 1 : Nat) : Int) := by rw [hj, w64 (by omega)]; omega
        have e4 : wrap .i64 (16 + wrap .i64 (4 * j)) = 16 + 4 * (i : Int) := by rw [hj, w64 (x := 4 * (i : Int)) (by omega), w64 (by omega)]
        have hA0 : 0 ≤ 16 + 4 * (i : Int) := by omega
        have hA1 : 16 + 4 * (i : Int) ≤ (b.length : Int) := by omega
        have hAn : (16 + 4 * (i : Int)).toNat = 16 + 4 * i := by omega
        have hX0 : (real.cut b (wrap .i64 (16 + wrap .i64 (4 * j))) (real.ofN (real.len b))) = b.drop (16 + 4 * i) := by rw [cut_all, e4, hAn]
        have hX2 : (real.cut (real.cut b (wrap .i64 (16 + wrap .i64 (4 * j))) (real.ofN (real.len b))) 2 (real.ofN (real.len (real.cut b (wrap .i64 (16 + wrap .i64 (4 * j))) (real.ofN (real.len b)))))) = b.drop (18 + 4 * i) := by
          rw [hX0, cut_all, List.drop_drop, show 16 + 4 * i + (2 : Int).toNat = 18 + 4 * i from by omega]
        refine ⟨?_, ?_, ?_, ?_⟩
        · subst hM
          show 0 ≤ wrap .i64 (16 + wrap .i64 (4 * j))
          rw [e4]; exact hA0
        · subst hM
          show wrap .i64 (16 + wrap .i64 (4 * j)) ≤ (b.length : Int)
          rw [e4]; exact hA1
        · subst hM; exact Int.le_refl _
        refine ⟨ot50_9, (fun _ => by kernel_rfl), ?_⟩
        cbv
        have hi19 : i ≤ 15 := by omega
        clear hj h
        refine ⟨?_, ?_, ?_, ?_⟩
        · subst hM; show (0 : Int) ≤ 2; decide
        · subst hM
          show (2 : Int) ≤ ((real.cut b (wrap .i64 (16 + wrap .i64 (4 * j))) (real.ofN (real.len b))).length : Int)
          rw [hX0, List.length_drop, hl]; omega
        · subst hM; exact Int.le_refl _
        repeat' (first
          | exact True.intro
          | (refine And.intro ?_ True.intro)
          | (fail_if_success have := hw1
             refine And.intro (fun _ => by subst hM; show (real.cut b (wrap .i64 (16 + wrap .i64 (4 * j))) (real.ofN (real.len b))).length ≤ 1048576 ∧ (0 : Int) ≤ 2 ∧ (2 : Int) ≤ 8 ∧ (2 : Int) ≤ ((real.cut b (wrap .i64 (16 + wrap .i64 (4 * j))) (real.ofN (real.len b))).length : Int); rw [hX0, List.length_drop, hl]; omega) ?_
             rintro ⟨(w1 : Int), ⟨⟩⟩ q1 hw1 - -
             cbv)
          | (fail_if_success have := hw2
             refine And.intro (fun _ => by subst hM; show (real.cut (real.cut b (wrap .i64 (16 + wrap .i64 (4 * j))) (real.ofN (real.len b))) 2 (real.ofN (real.len (real.cut b (wrap .i64 (16 + wrap .i64 (4 * j))) (real.ofN (real.len b)))))).length ≤ 1048576 ∧ (0 : Int) ≤ 2 ∧ (2 : Int) ≤ 8 ∧ (2 : Int) ≤ ((real.cut (real.cut b (wrap .i64 (16 + wrap .i64 (4 * j))) (real.ofN (real.len b))) 2 (real.ofN (real.len (real.cut b (wrap .i64 (16 + wrap .i64 (4 * j))) (real.ofN (real.len b)))))).length : Int); rw [hX2, List.length_drop, hl]; omega) ?_
             rintro ⟨(w2 : Int), ⟨⟩⟩ q2 hw2 - -
             cbv)
          | (refine And.intro ?_ ?_))
        all_goals first
          | (subst hM; show (xs : List RootD).length + 1 ≤ 2 ^ 36; rw [show xs.length = i from by rw [hx, readRoots_len]]; omega; done)
          | skip
        all_goals
          have hrun : (w1, w2, unit) = readRoot b i := by
            subst hM
            have g1 : w1 = nm ((real.cut b (wrap .i64 (16 + wrap .i64 (4 * j))) (real.ofN (real.len b)))) 0 2 := hw1
            have g2 : w2 = nm ((real.cut ((real.cut b (wrap .i64 (16 + wrap .i64 (4 * j))) (real.ofN (real.len b)))) 2 (real.ofN (real.len ((real.cut b (wrap .i64 (16 + wrap .i64 (4 * j))) (real.ofN (real.len b)))))))) 0 2 := hw2
            rw [hX0, nm_drop] at g1
            rw [hX2, nm_drop] at g2
            rw [g1, g2]
            rfl
          refine ⟨(b.getD 1 0).toNat - (i + 1), hlt, i + 1, _, ⟨?_, hin⟩, rfl, .inr ⟨_, ?_, rfl⟩⟩
          · subst hM; exact hj1
          · subst hM
            show xs ++ [(w1, w2, unit)] = _
            rw [readRoots_succ, hrun, hx]
      · rintro -
        have hin : i = (b.getD 1 0).toNat := by
          (try simp only [jqn] at hj); (try simp only [jqi] at hj)
          have h1' : ¬ j < wrap .i64 (b.getD 1 0) := by
            subst hM
            intro hh
            have : real.dec (real.lt j (wrap .i64 (b.getD 1 0))) = true := dec_iff.2 hh
            exact absurd (this.symm.trans h) (by decide)
          rw [hn64] at h1'
          omega
        have hRS : xs = readRoots b (b.getD 1 0).toNat := by rw [← hin]; exact hx
        subst hM
        show (Sum.inr (Sum.inl ((4, wrap .i64 (b.getD 1 0), unit), (v1, v2, v3, v4, xs, unit), unit)) : Form4) = readSup b
        unfold readSup
        rw [if_neg (by omega), hn64, hRS, k1, k2, k3, k4]
end Go.Proofs.YtmjeghlfmhbjdaaDoor.EngTab
