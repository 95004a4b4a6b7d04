/- Contracts: the specification's EncodeSuper, and the plain law of superblocks. -/
import Derived.Test.YtmjeghlfmhbjdaaDoorT2
namespace Go.Proofs.YtmjeghlfmhbjdaaDoor.EngTab
open Go.Proofs.YtmjeghlfmhbjdaaDoor.Eng
set_option maxRecDepth 100000
set_option linter.unusedVariables false
set_option linter.unusedSimpArgs false
def c62 : Con := Con.of ⟨[(false, 0, .int .i64)], [(0, .bool)], fun _ => True, fun x y _ => (y.1 = true ↔ 8 ≤ x.1 ∧ x.1 ≤ 512)⟩
theorem ok62 : FnOK Tryd.prog 62 c62 := by
  refine FnOK.of_vc mixed tabOk .nil Tryd.func62 rfl (by decide) lv62 hd62 ?_
  rintro ⟨(n : Int), ⟨⟩⟩ - hwf
  generalize hM : real = M
  cbv
  repeat' (refine splM (fun h => ?_) (fun h => ?_) <;> cbv)
  all_goals
    rintro -
    (try subst hM); (try simp only [jqn] at *); (try simp only [jqi] at *); (try simp only [real, jq1, jq2, jq3, jq4, jq5, jq6, sEq_dec, Bool.not_true, Bool.not_false, gt_iff_lt, ge_iff_le] at *)
    show (_ = true) ↔ (8 ≤ n ∧ n ≤ 512)
    simp_all
    try omega
def c53 : Con := Con.of ⟨[(false, 0, tySup)], [(0, .bool)], fun x => x.1.2.2.2.2.1.length ≤ 1048576, fun x y _ => (y.1 = true ↔ supOK x.1.1 x.1.2.1 x.1.2.2.1 x.1.2.2.2.1 x.1.2.2.2.2.1)⟩
theorem ok53 : FnOK Tryd.prog 53 c53 := by
  refine FnOK.of_vc mixed tabOk (.cons en62 ok62 .nil) Tryd.func53 rfl (by decide) lv53 hd53 ?_
  rintro ⟨⟨(bl : Int), (ge : Int), (ne : Int), (ta : Int), (rs : List RootD), ⟨⟩⟩, ⟨⟩⟩ (hl : rs.length ≤ 1048576) hwf
  generalize hM : real = M
  cbv
  refine ⟨fun _ => trivial, ?_⟩
  rintro ⟨(y : Bool), ⟨⟩⟩ x' (hy : y = true ↔ 8 ≤ bl ∧ bl ≤ 512) - -
  cbv
  repeat' (refine splM (fun h => ?_) (fun h => ?_) <;> cbv)
  all_goals first
    | (rintro -; (try subst hM); (try simp only [jqn] at *); (try simp only [jqi] at *); (try simp only [real, jq1, jq2, jq3, jq4, jq5, jq6, sEq_dec, Bool.not_true, Bool.not_false, gt_iff_lt, ge_iff_le] at *); show (false = true) ↔ supOK bl ge ne ta rs; refine ⟨fun e => (by cases e), fun ho => ?_⟩; obtain ⟨⟨o1, o2, o3, o4⟩, ⟨o5, o6, o7, o8⟩, ⟨o9, o10⟩, _⟩ := ho; have hyt := hy.2 ⟨o1, o2⟩; first | omega | (subst hyt; simp_all; done))
    | skip
  have hA : (8 ≤ bl ∧ bl ≤ 512 ∧ 1 ≤ ge ∧ ge ≤ 1099511627776) ∧ (1 ≤ ne ∧ ne ≤ 65535 ∧ 2 ≤ ta ∧ ta < bl) ∧ (1 ≤ rs.length ∧ rs.length ≤ 16) := by
    (try subst hM); (try simp only [jqn] at *); (try simp only [jqi] at *); (try simp only [real, jq1, jq2, jq3, jq4, jq5, jq6, sEq_dec, Bool.not_true, Bool.not_false, gt_iff_lt, ge_iff_le] at *)
    have hyt := hy.1 (by simp_all)
    omega
  refine ⟨fun m Γ => ∃ (i : Nat) (j : Int), j = i ∧ i ≤ rs.length ∧ (∀ k, k < i → rootOK bl ne rs k) ∧ m = rs.length - i ∧ Γ = ⟨101, [(1, .ad 0 tySup 0 []), (3, .pv [] (.int .i64) j)], [(0, .box (.consA (.pv [] (.int .i64) bl) (.consA (.pv [] (.int .i64) ge) (.consA (.pv [] (.int .i64) ne) (.consA (.pv [] (.int .i64) ta) (.consA (.pv [] (.sl tyRoot) rs) .nilA))))))], [.hole 0]⟩, ⟨_, 0, 0, rfl, Nat.zero_le _, by omega, rfl, rfl⟩, ?_⟩
  rintro m _ ⟨i, j, hj, hi, hx, rfl, rfl⟩ -
  cbv
  refine splM (fun h => ?_) (fun h => ?_) <;> cbv
  · have hin : i < rs.length := by
      (try subst hM); (try simp only [jqn] at *); (try simp only [jqi] at *); (try simp only [real, jq1, jq2, jq3, jq4, jq5, jq6, sEq_dec, Bool.not_true, Bool.not_false, gt_iff_lt, ge_iff_le] at *)
      omega
    (try simp only [jqn] at hi hj); (try simp only [jqi] at hi hj)
    have hji : j.toNat = i := by rw [hj]; simp
    have e0 : rs.getD j.toNat (0, 0, PUnit.unit) = rootAt rs i := by rw [hji]; rfl
    have e1 : 0 < i → IntKind.wrap .i64 (j - 1) = ((i - 1 : Nat) : Int) := fun hi0 => by rw [hj, w64 (by omega)]; omega
    have ep : rs.getD (((i - 1 : Nat) : Int)).toNat (0, 0, PUnit.unit) = rootAt rs (i - 1) := by rw [Int.toNat_natCast]; rfl
    have bad : ¬ rootOK bl ne rs i → ((false = true) ↔ supOK bl ge ne ta rs) := fun hb => ⟨fun e => (by cases e), fun ho => absurd (ho.2.2.2 i hin) hb⟩
    have good : rootOK bl ne rs i → ∀ k, k < i + 1 → rootOK bl ne rs k := fun hs k hk => by
      by_cases hk2 : k < i
      · exact hx k hk2
      · have : k = i := by omega
        subst this
        exact hs
    repeat' (first | (refine splM (fun h => ?_) (fun h => ?_) <;> cbv) | (refine And.intro (fun _ => by first | exact drawRd rfl (by decide +kernel) | exact drawTail (by decide +kernel)) ?_; cbv) | (refine And.intro (by (try subst hM); (try simp only [jqn] at *); (try simp only [jqi] at *); (try simp only [real, jq1, jq2, jq3, jq4, jq5, jq6, sEq_dec, Bool.not_true, Bool.not_false, gt_iff_lt, ge_iff_le] at *); (try rw [e1 (by omega)]); omega) ?_; cbv))
    all_goals first
      | (rintro -; refine bad (fun hs => ?_); obtain ⟨s1, s2, s3, s4, s5⟩ := hs; clear hy; (try subst hM); (try simp only [jqn] at *); (try simp only [jqi] at *); (try simp only [real, jq1, jq2, jq3, jq4, jq5, jq6, sEq_dec, Bool.not_true, Bool.not_false, gt_iff_lt, ge_iff_le] at *); simp only [e0] at *; omega)
      | (rintro -; refine bad (fun hs => ?_); obtain ⟨s1, s2, s3, s4, s5⟩ := hs; clear hy; (try subst hM); (try simp only [jqn] at *); (try simp only [jqi] at *); (try simp only [real, jq1, jq2, jq3, jq4, jq5, jq6, sEq_dec, Bool.not_true, Bool.not_false, gt_iff_lt, ge_iff_le] at *); have hi0 : 0 < i := by omega
         have s6 := s5 hi0; simp only [e0, e1 hi0, ep] at *; omega)
      | (refine ⟨rs.length - (i + 1), by omega, i + 1, _, ?_, hin, good ?_, rfl, rfl⟩
         · (try subst hM); (try simp only [jqn] at *); (try simp only [jqi] at *); (try simp only [real, jq1, jq2, jq3, jq4, jq5, jq6, sEq_dec, Bool.not_true, Bool.not_false, gt_iff_lt, ge_iff_le] at *)
           rw [hj, w64 (by omega)]; omega
         · clear hy
           (try subst hM); (try simp only [jqn] at *); (try simp only [jqi] at *); (try simp only [real, jq1, jq2, jq3, jq4, jq5, jq6, sEq_dec, Bool.not_true, Bool.not_false, gt_iff_lt, ge_iff_le] at *)
           refine ⟨?_, ?_, ?_, ?_, fun hi0 => ?_⟩
           all_goals (first | (simp only [e0] at *; omega) | (simp only [e0, e1 hi0, ep] at *; omega)))
  · rintro -
    (try subst hM); (try simp only [jqn] at *); (try simp only [jqi] at *); (try simp only [real, jq1, jq2, jq3, jq4, jq5, jq6, sEq_dec, Bool.not_true, Bool.not_false, gt_iff_lt, ge_iff_le] at *)
    have : i = rs.length := by omega
    subst this
    exact ⟨fun _ => ⟨hA.1, hA.2.1, hA.2.2, hx⟩, fun _ => rfl⟩
def rootB (r : RootD) : List Int := numB r.1 2 ++ numB r.2.1 2
def rootsB (rs : List RootD) : Nat → List Int
  | 0 => []
  | i + 1 => rootsB rs i ++ rootB (rootAt rs i)
theorem rootsB_len (rs : List RootD) : ∀ i, (rootsB rs i).length = 4 * i
  | 0 => rfl
  | i + 1 => by simp [rootsB, rootB, numB_len, rootsB_len rs i]; omega
def hdS (bl ge ne ta : Int) (n : Nat) : List Int := [4, (n : Int) % 256] ++ numB bl 2 ++ numB ge 8 ++ numB ne 2 ++ numB ta 2
theorem hdS_len (bl ge ne ta : Int) (n : Nat) : (hdS bl ge ne ta n).length = 16 := by simp [hdS, numB_len]
def specS (bl ge ne ta : Int) (rs : List RootD) : List Int := sealB (hdS bl ge ne ta rs.length ++ rootsB rs rs.length)
open Classical in
noncomputable def encS (bl ge ne ta : Int) (rs : List RootD) : List Int := if supOK bl ge ne ta rs then specS bl ge ne ta rs else []
theorem layO_eq {hd : List Int} {rs : List RootD} (hl : hd.length = 16) : ∀ i, i ≤ 16 → layO (hd ++ List.replicate 112 0) rs i = (hd ++ rootsB rs i) ++ List.replicate (112 - 4 * i) 0
  | 0, _ => by simp [layO, rootsB]
  | i + 1, h => by
    unfold layO
    rw [layO_eq hl i (by omega)]
    unfold putRoot
    have e0 : rs.getD i (0, 0, ()) = rootAt rs i := rfl
    rw [e0]
    have l0 : (hd ++ rootsB rs i).length = 16 + 4 * i := by rw [List.length_append, hl, rootsB_len]
    rw [ovr_pad (by rw [l0]; omega) (by rw [numB_len]; omega)]
    rw [ovr_pad (by rw [List.length_append, l0, numB_len]; omega) (by simp only [numB_len]; omega)]
    have er : rootsB rs (i + 1) = rootsB rs i ++ rootB (rootAt rs i) := rfl
    rw [er]
    unfold rootB
    simp only [List.append_assoc, numB_len]
    rw [show 112 - 4 * i - 2 - 2 = 112 - 4 * (i + 1) by omega]
theorem layS_eq (bl ge ne ta : Int) {rs : List RootD} (h : rs.length ≤ 16) : layS 4 rs.length bl ge ne ta rs = (hdS bl ge ne ta rs.length ++ rootsB rs rs.length) ++ List.replicate (128 - (hdS bl ge ne ta rs.length ++ rootsB rs rs.length).length) 0 := by
  unfold layS
  rw [begB_eq, ovr_pad (by rfl) (by rw [numB_len]; omega), numB_len, ovr_pad (by simp [numB_len]) (by rw [numB_len]; omega), numB_len, ovr_pad (by simp [numB_len]) (by rw [numB_len]; omega), numB_len, ovr_pad (by simp [numB_len]) (by rw [numB_len]; omega), numB_len]
  have e : [(4 : Int) % 256, (rs.length : Int) % 256] ++ numB bl 2 ++ numB ge 8 ++ numB ne 2 ++ numB ta 2 = hdS bl ge ne ta rs.length := rfl
  rw [e, layO_eq (hdS_len ..) _ h, List.length_append, hdS_len, rootsB_len]
  congr 2
  omega
theorem encS_sum {bl ge ne ta : Int} {rs : List RootD} (h : supOK bl ge ne ta rs) : sumB (layS 4 rs.length bl ge ne ta rs) = encS bl ge ne ta rs := by
  rw [layS_eq bl ge ne ta h.2.2.1.2]
  unfold encS
  rw [if_pos h]
  exact sum_seal (by rw [List.length_append, hdS_len, rootsB_len]; have := h.2.2.1.2; omega)
theorem encS_len {bl ge ne ta : Int} {rs : List RootD} : (encS bl ge ne ta rs).length ≤ 128 := by
  unfold encS
  split
  · rename_i h
    unfold specS sealB fillB
    have := h.2.2.1.2
    simp [numB_len, rootsB_len, hdS_len]; omega
  · simp
def c34 : Con := Con.of ⟨[(false, 0, tySup)], [(1, tyB), (0, .int .i64)], fun x => x.1.2.2.2.2.1.length ≤ 1048576, fun x y _ => y.1 = encS x.1.1 x.1.2.1 x.1.2.2.1 x.1.2.2.2.1 x.1.2.2.2.2.1 ∧ y.2.1 = encC (supOK x.1.1 x.1.2.1 x.1.2.2.1 x.1.2.2.2.1 x.1.2.2.2.2.1)⟩
theorem ok34 : FnOK Tryd.prog 34 c34 := by
  refine FnOK.of_vc mixed tabOk (.cons en53 ok53 (.cons en39 ok39 (.cons en40 ok40 .nil))) Tryd.func34 rfl (by decide) lv34 hd34 ?_
  rintro ⟨⟨(bl : Int), (ge : Int), (ne : Int), (ta : Int), (rs : List RootD), ⟨⟩⟩, ⟨⟩⟩ (hl : rs.length ≤ 1048576) hwf
  generalize hM : real = M
  cbv
  refine ⟨fun _ => hl, ?_⟩
  rintro ⟨(y : Bool), ⟨⟩⟩ x' (hy : y = true ↔ supOK bl ge ne ta rs) - -
  cbv
  refine splM (fun h5 => ?_) (fun h5 => ?_) <;> cbv
  · rintro -
    have hn : ¬ supOK bl ge ne ta rs := fun ho => by have := hy.2 ho; subst this; subst hM; cases h5
    exact ⟨by unfold encS; rw [if_neg hn], by unfold encC; rw [if_neg hn]⟩
  have hyt : y = true := by cases y <;> first | rfl | (subst hM; cases h5)
  have hOK := hy.1 hyt
  have hl16 : rs.length ≤ 16 := hOK.2.2.1.2
  refine ⟨fun _ => ⟨(by show (0 : Int) ≤ 2; omega), (by show (2 : Int) ≤ 8; omega), (by show 2 ≤ 1000; omega)⟩, ?_⟩
  rintro ⟨(z1 : List Int), ⟨⟩⟩ x1 (hz1 : z1 = [4, M.wrap .u8 (M.ofN (M.len rs))] ++ numB bl 2) - -
  have hl1 : z1.length = 4 := by rw [hz1]; simp [numB_len]
  cbv
  refine ⟨fun _ => ⟨(by show (0 : Int) ≤ 8; omega), (by show (8 : Int) ≤ 8; omega), (by show z1.length ≤ 1000; omega)⟩, ?_⟩
  rintro ⟨(z2 : List Int), ⟨⟩⟩ x2 (hz2 : z2 = z1 ++ numB ge 8) - -
  have hl2 : z2.length = 12 := by rw [hz2]; simp [numB_len, hl1]
  cbv
  refine ⟨fun _ => ⟨(by show (0 : Int) ≤ 2; omega), (by show (2 : Int) ≤ 8; omega), (by show z2.length ≤ 1000; omega)⟩, ?_⟩
  rintro ⟨(z3 : List Int), ⟨⟩⟩ x3 (hz3 : z3 = z2 ++ numB ne 2) - -
  have hl3 : z3.length = 14 := by rw [hz3]; simp [numB_len, hl2]
  cbv
  refine ⟨fun _ => ⟨(by show (0 : Int) ≤ 2; omega), (by show (2 : Int) ≤ 8; omega), (by show z3.length ≤ 1000; omega)⟩, ?_⟩
  rintro ⟨(z : List Int), ⟨⟩⟩ x4 (hz : z = z3 ++ numB ta 2) - -
  have hzl : z.length = 16 := by rw [hz]; simp [numB_len, hl3]
  have hz0 : z = hdS bl ge ne ta rs.length := by
    rw [hz, hz3, hz2, hz1]
    (try subst hM); (try simp only [jqn] at *); (try simp only [jqi] at *); (try simp only [real, jq1, jq2, jq3, jq4, jq5, jq6, sEq_dec, Bool.not_true, Bool.not_false, gt_iff_lt, ge_iff_le] at *)
    rw [wrap8_mod]; rfl
  clear hz hz3 hz2 hz1
  cbv
  refine ⟨fun m Γ => ∃ (i : Nat) (j : Int) (r : Nat) (xs : List Int), (r = 1 ∨ r = 2) ∧ j = i ∧ i ≤ rs.length ∧ xs = z ++ rootsB rs i ∧ m = rs.length - i ∧ Γ = ⟨54, [(1, .ad 0 tySup 0 []), (4, .ref r), (5, .pv [] (.int .i64) j)], [(0, .box (.consA (.pv [] (.int .i64) bl) (.consA (.pv [] (.int .i64) ge) (.consA (.pv [] (.int .i64) ne) (.consA (.pv [] (.int .i64) ta) (.consA (.pv [] (.sl tyRoot) rs) .nilA)))))), (r, .row 0 (.int .u8) xs)], [.hole 0]⟩, ?_, ?_⟩
  · first
      | exact ⟨_, 0, 0, 1, _, .inl rfl, rfl, Nat.zero_le _, by simp [rootsB], rfl, rfl⟩
      | exact ⟨_, 0, 0, 2, _, .inr rfl, rfl, Nat.zero_le _, by simp [rootsB], rfl, rfl⟩
  rintro m _ ⟨i, j, r, xs, hr, hj, hi, hx, rfl, rfl⟩ -
  have hxl : xs.length = 16 + 4 * i := by rw [hx, List.length_append, hzl, rootsB_len]
  rcases hr with rfl | rfl <;> cbv
  all_goals
    refine splM (fun h6 => ?_) (fun h6 => ?_) <;> cbv
    · have hin : i < rs.length := by
        (try subst hM); (try simp only [jqn] at *); (try simp only [jqi] at *); (try simp only [real, jq1, jq2, jq3, jq4, jq5, jq6, sEq_dec, Bool.not_true, Bool.not_false, gt_iff_lt, ge_iff_le] at *)
        omega
      (try simp only [jqn] at hi hj hxl); (try simp only [jqi] at hi hj hxl)
      have hji : j.toNat = i := by rw [hj]; simp
      have e0 : rs.getD j.toNat (0, 0, PUnit.unit) = rootAt rs i := by rw [hji]; rfl
      refine ⟨by (try subst hM); (try simp only [jqn] at *); (try simp only [jqi] at *); (try simp only [real, jq1, jq2, jq3, jq4, jq5, jq6, sEq_dec, Bool.not_true, Bool.not_false, gt_iff_lt, ge_iff_le] at *); omega, by (try subst hM); (try simp only [jqn] at *); (try simp only [jqi] at *); (try simp only [real, jq1, jq2, jq3, jq4, jq5, jq6, sEq_dec, Bool.not_true, Bool.not_false, gt_iff_lt, ge_iff_le] at *); omega, fun _ => ⟨(by show (0 : Int) ≤ 2; omega), (by show (2 : Int) ≤ 8; omega), (by show xs.length ≤ 1000; omega)⟩, ?_⟩
      rintro ⟨(y1 : List Int), ⟨⟩⟩ q1 (hy1 : y1 = xs ++ numB (M.get rs j (0, 0, PUnit.unit)).1 2) - -
      have hl1 : y1.length = xs.length + 2 := by rw [hy1]; simp [numB_len]
      cbv
      refine ⟨by (try subst hM); (try simp only [jqn] at *); (try simp only [jqi] at *); (try simp only [real, jq1, jq2, jq3, jq4, jq5, jq6, sEq_dec, Bool.not_true, Bool.not_false, gt_iff_lt, ge_iff_le] at *); omega, by (try subst hM); (try simp only [jqn] at *); (try simp only [jqi] at *); (try simp only [real, jq1, jq2, jq3, jq4, jq5, jq6, sEq_dec, Bool.not_true, Bool.not_false, gt_iff_lt, ge_iff_le] at *); omega, fun _ => ⟨(by show (0 : Int) ≤ 2; omega), (by show (2 : Int) ≤ 8; omega), (by show y1.length ≤ 1000; omega)⟩, ?_⟩
      rintro ⟨(y2 : List Int), ⟨⟩⟩ q2 (hy2 : y2 = y1 ++ numB (M.get rs j (0, 0, PUnit.unit)).2.1 2) - -
      cbv
      have hfin : y2 = z ++ rootsB rs (i + 1) := by
        subst hM
        rw [hy2, hy1, hx]
        show _ = z ++ (rootsB rs i ++ (numB (rootAt rs i).1 2 ++ numB (rootAt rs i).2.1 2))
        rw [← e0]
        simp only [List.append_assoc]; rfl
      first
        | (refine ⟨rs.length - (i + 1), by omega, i + 1, _, 1, _, .inl rfl, ?_, hin, hfin, rfl, rfl⟩
           (try subst hM); (try simp only [jqn] at *); (try simp only [jqi] at *); (try simp only [real, jq1, jq2, jq3, jq4, jq5, jq6, sEq_dec, Bool.not_true, Bool.not_false, gt_iff_lt, ge_iff_le] at *)
           rw [hj, w64 (by omega)]; omega)
        | (refine ⟨rs.length - (i + 1), by omega, i + 1, _, 2, _, .inr rfl, ?_, hin, hfin, rfl, rfl⟩
           (try subst hM); (try simp only [jqn] at *); (try simp only [jqi] at *); (try simp only [real, jq1, jq2, jq3, jq4, jq5, jq6, sEq_dec, Bool.not_true, Bool.not_false, gt_iff_lt, ge_iff_le] at *)
           rw [hj, w64 (by omega)]; omega)
    · have hie : i = rs.length := by
        (try subst hM); (try simp only [jqn] at *); (try simp only [jqi] at *); (try simp only [real, jq1, jq2, jq3, jq4, jq5, jq6, sEq_dec, Bool.not_true, Bool.not_false, gt_iff_lt, ge_iff_le] at *)
        omega
      subst hie
      refine ⟨fun _ => (by show xs.length ≤ 124; omega), ?_⟩
      rintro ⟨(y : List Int), ⟨⟩⟩ q (hyy : y = sealB xs) - -
      cbv
      rintro -
      refine ⟨?_, by unfold encC; rw [if_pos hOK]⟩
      show y = encS bl ge ne ta rs
      unfold encS
      rw [if_pos hOK, hyy, hx, hz0]; rfl
end Go.Proofs.YtmjeghlfmhbjdaaDoor.EngTab
