/- The draws: copies, texts, blocks. -/
import Derived.Test.YtmjeghlfmhbjdaaDoorDR
import Derived.Test.YtmjeghlfmhbjdaaDoorT2
namespace Go.Proofs.YtmjeghlfmhbjdaaDoor.EngTab
open Go.Proofs.YtmjeghlfmhbjdaaDoor.Eng
open PUnit (unit)
open IntKind (wrap)
set_option maxRecDepth 100000
set_option linter.unusedVariables false
set_option linter.unusedSimpArgs false
def c42 : Con := Con.of ⟨[(false, 0, tyB)], [(1, tyB)], fun x => x.1.length ≤ 1048576, fun x y _ => y.1 = x.1⟩
theorem ok42 : FnOK Tryd.prog 42 c42 := by
 refine FnOK.of_vc mixed tabOk .nil Tryd.func42 rfl (by decide) lv42 hd42 ?_
 rintro ⟨(rs : List Int), ⟨⟩⟩ (hl : rs.length ≤ 1048576) hwf
 generalize hM : real = M
 cbv
 refine ⟨fun m Γ => ∃ (i : Nat) (j : Int) (ys : List Int), j = i ∧ i ≤ rs.length ∧ ys = rs.take i ∧ m = rs.length - i ∧ Γ = ⟨20, [(0, .pv [] tyB rs), (3, .ref 0), (4, .pv [] (.int .i64) j)], [(0, .row 0 (.int .u8) ys)], [.hole 0]⟩, ⟨_, 0, 0, _, rfl, Nat.zero_le _, rfl, rfl, rfl⟩, ?_⟩
 rintro m _ ⟨i, j, ys, hj, hi, hy, rfl, rfl⟩ -
 cbv
 refine splM (fun h => ?_) (fun h => ?_) <;> cbv
 ·have hin : i < rs.length := by
   (try subst hM); (try simp only [jqn] at *); (try simp only [jqi] at *); (try simp only [real, jq1, jq2, jq3, jq4, jq5, jq6, sEq_dec, Bool.not_true, Bool.not_false, gt_iff_lt, ge_iff_le] at *)
   omega
  (try simp only [jqn] at hi hj); (try simp only [jqi] at hi hj)
  have hji : j.toNat = i := by rw [hj]; simp
  have hlt : rs.length - (i + 1) < rs.length - i := by omega
  have hj1 : wrap .i64 (j + 1) = ((i + 1 : Nat) : Int) := by rw [hj, w64 (by omega)]; omega
  have hyl : ys.length ≤ 1048576 := by rw [hy]; simp; omega
  have hj0 : 0 ≤ j := by omega
  have hj2 : j < (rs.length : Int) := by omega
  refine ⟨by subst hM; exact hj0, by subst hM; exact hj2, ?_⟩
  refine ⟨by subst hM; show ys.length + 1 ≤ 2 ^ 36; omega, rs.length - (i + 1), hlt, i + 1, _, _, ?_, hin, ?_, rfl, rfl⟩
  ·subst hM; exact hj1
  ·subst hM
   show ys ++ [rs.getD j.toNat 0] = _
   rw [hji, List.take_add_one, hy]
   simp [hin]
 ·rintro -
  have : i = rs.length := by
   (try subst hM); (try simp only [jqn] at *); (try simp only [jqi] at *); (try simp only [real, jq1, jq2, jq3, jq4, jq5, jq6, sEq_dec, Bool.not_true, Bool.not_false, gt_iff_lt, ge_iff_le] at *)
   omega
  subst this
  show ys = rs
  rw [hy, List.take_length]
def c18 : Con := Con.of ⟨[(false, 0, tyB)], [(1, tyB)], fun x => x.1.length ≤ 1048576, fun x y _ => y.1 = x.1⟩
theorem ok18 : FnOK Tryd.prog 18 c18 := by
 refine FnOK.of_vc mixed tabOk .nil Tryd.func18 rfl (by decide) lv18 hd18 ?_
 rintro ⟨(rs : List Int), ⟨⟩⟩ (hl : rs.length ≤ 1048576) hwf
 generalize hM : real = M
 cbv
 refine ⟨fun m Γ => ∃ (i : Nat) (j : Int) (ys : List Int), j = i ∧ i ≤ rs.length ∧ ys = rs.take i ∧ m = rs.length - i ∧ Γ = ⟨20, [(0, .pv [] tyB rs), (3, .ref 0), (4, .pv [] (.int .i64) j)], [(0, .row 0 (.int .u8) ys)], [.hole 0]⟩, ⟨_, 0, 0, _, rfl, Nat.zero_le _, rfl, rfl, rfl⟩, ?_⟩
 rintro m _ ⟨i, j, ys, hj, hi, hy, rfl, rfl⟩ -
 cbv
 refine splM (fun h => ?_) (fun h => ?_) <;> cbv
 ·have hin : i < rs.length := by
   (try subst hM); (try simp only [jqn] at *); (try simp only [jqi] at *); (try simp only [real, jq1, jq2, jq3, jq4, jq5, jq6, sEq_dec, Bool.not_true, Bool.not_false, gt_iff_lt, ge_iff_le] at *)
   omega
  (try simp only [jqn] at hi hj); (try simp only [jqi] at hi hj)
  have hji : j.toNat = i := by rw [hj]; simp
  have hlt : rs.length - (i + 1) < rs.length - i := by omega
  have hj1 : wrap .i64 (j + 1) = ((i + 1 : Nat) : Int) := by rw [hj, w64 (by omega)]; omega
  have hyl : ys.length ≤ 1048576 := by rw [hy]; simp; omega
  have hj0 : 0 ≤ j := by omega
  have hj2 : j < (rs.length : Int) := by omega
  refine ⟨by subst hM; exact hj0, by subst hM; exact hj2, ?_⟩
  refine ⟨by subst hM; show ys.length + 1 ≤ 2 ^ 36; omega, rs.length - (i + 1), hlt, i + 1, _, _, ?_, hin, ?_, rfl, rfl⟩
  ·subst hM; exact hj1
  ·subst hM
   show ys ++ [rs.getD j.toNat 0] = _
   rw [hji, List.take_add_one, hy]
   simp [hin]
 ·rintro -
  have : i = rs.length := by
   (try subst hM); (try simp only [jqn] at *); (try simp only [jqi] at *); (try simp only [real, jq1, jq2, jq3, jq4, jq5, jq6, sEq_dec, Bool.not_true, Bool.not_false, gt_iff_lt, ge_iff_le] at *)
   omega
  subst this
  show ys = rs
  rw [hy, List.take_length]
noncomputable def blocksV (s : SrcD) : Int × SrcD :=
 let k := nextV s 20
 if k.1 = 0 then (512, k.2) else if k.1 = 1 then (8, k.2) else if k.1 < 5 then (let q := nextV k.2 200; (60 + q.1, q.2)) else (let q := nextV k.2 40; (10 + q.1, q.2))
def c54 : Con := Con.of ⟨[(true, 1, .ptr tySrc)], [(0, .int .i64)], fun x => ∃ s, x.1 = some s ∧ SrcOK s, fun x y x' => ∀ s, x.1 = some s → ∃ s' : SrcD, x'.1 = some s' ∧ blocksV s = (y.1, s') ∧ SrcOK s' ∧ 8 ≤ y.1 ∧ y.1 ≤ 512⟩
theorem ok54 : FnOK Tryd.prog 54 c54 := by
 refine FnOK.of_vc mixed tabOk (.cons en26 ok26 .nil) Tryd.func54 rfl (by decide) lv54 hd54 ?_
 rintro ⟨(_ | ⟨(b0 : List Int), (p0 : Int), (st0 : Int), ⟨⟩⟩), ⟨⟩⟩ hpre hwf
 ·obtain ⟨s, e, _⟩ := hpre
  cases e
 have hs0 : SrcOK (b0, p0, st0, unit) := by
  obtain ⟨s, e, h⟩ := hpre
  cases e
  exact h
 clear hpre
 generalize hM : real = M
 cbv
 refine ⟨fun _ => ⟨_, rfl, hs0⟩, ?_⟩
 rintro ⟨(k : Int), ⟨⟩⟩ ⟨z1, zz1, ⟨⟩⟩ hpost - -
 obtain ⟨⟨b1, p1, st1, ⟨⟩⟩, hz1, E1, hs1, hr1⟩ := hpost _ rfl
 have hz1 : z1 = some (b1, p1, st1, unit) := hz1
 subst hz1
 clear hpost hz1
 have E1 : nextV (b0, p0, st0, unit) 20 = (k, (b1, p1, st1, unit)) := E1
 have hr1 : 0 ≤ k ∧ k < 20 := hr1 (show (0 : Int) < 20 by decide)
 cbv
 refine splM (fun h => ?_) (fun h => ?_) <;> cbv
 ·rintro - s hs
  cases hs
  have hk : k = 0 := by subst hM; exact dec_iff.1 h
  refine ⟨_, rfl, ?_, hs1, (by show (8 : Int) ≤ 512; omega), (by show (512 : Int) ≤ 512; omega)⟩
  show blocksV _ = (512, _)
  unfold blocksV
  rw [E1, if_pos hk]
 have hk0 : ¬ k = 0 := by
  subst hM
  intro hh
  exact absurd ((show real.dec (real.eq k 0) = true from dec_iff.2 hh).symm.trans h) (by decide)
 clear h
 refine splM (fun h => ?_) (fun h => ?_) <;> cbv
 ·rintro - s hs
  cases hs
  have hk : k = 1 := by subst hM; exact dec_iff.1 h
  refine ⟨_, rfl, ?_, hs1, (by show (8 : Int) ≤ 8; omega), (by show (8 : Int) ≤ 512; omega)⟩
  show blocksV _ = (8, _)
  unfold blocksV
  rw [E1, if_neg hk0, if_pos hk]
 have hk1 : ¬ k = 1 := by
  subst hM
  intro hh
  exact absurd ((show real.dec (real.eq k 1) = true from dec_iff.2 hh).symm.trans h) (by decide)
 clear h
 refine splM (fun h => ?_) (fun h => ?_) <;> cbv
 ·have hk : k < 5 := by subst hM; exact dec_iff.1 h
  clear h
  refine ⟨fun _ => ⟨_, rfl, hs1⟩, ?_⟩
  rintro ⟨(q : Int), ⟨⟩⟩ ⟨z2, zz2, ⟨⟩⟩ hpost - -
  obtain ⟨⟨b2, p2, st2, ⟨⟩⟩, hz2, E2, hs2, hr2⟩ := hpost _ rfl
  have hz2 : z2 = some (b2, p2, st2, unit) := hz2
  subst hz2
  clear hpost hz2
  have E2 : nextV (b1, p1, st1, unit) 200 = (q, (b2, p2, st2, unit)) := E2
  have hr2 : 0 ≤ q ∧ q < 200 := hr2 (show (0 : Int) < 200 by decide)
  cbv
  rintro - s hs
  cases hs
  have e : M.wrap .i64 (M.add 60 q) = 60 + q := by subst hM; show wrap .i64 (60 + q) = 60 + q; exact w64 (by omega)
  refine ⟨_, rfl, ?_, hs2, ?_, ?_⟩
  ·show blocksV _ = (M.wrap .i64 (M.add 60 q), _)
   unfold blocksV
   rw [e, E1, if_neg hk0, if_neg hk1, if_pos hk, E2]
  ·show 8 ≤ M.wrap .i64 (M.add 60 q)
   rw [e]; omega
  ·show M.wrap .i64 (M.add 60 q) ≤ 512
   rw [e]; omega
 ·have hk : ¬ k < 5 := by
   subst hM
   intro hh
   exact absurd ((show real.dec (real.lt k 5) = true from dec_iff.2 hh).symm.trans h) (by decide)
  clear h
  refine ⟨fun _ => ⟨_, rfl, hs1⟩, ?_⟩
  rintro ⟨(q : Int), ⟨⟩⟩ ⟨z2, zz2, ⟨⟩⟩ hpost - -
  obtain ⟨⟨b2, p2, st2, ⟨⟩⟩, hz2, E2, hs2, hr2⟩ := hpost _ rfl
  have hz2 : z2 = some (b2, p2, st2, unit) := hz2
  subst hz2
  clear hpost hz2
  have E2 : nextV (b1, p1, st1, unit) 40 = (q, (b2, p2, st2, unit)) := E2
  have hr2 : 0 ≤ q ∧ q < 40 := hr2 (show (0 : Int) < 40 by decide)
  cbv
  rintro - s hs
  cases hs
  have e : M.wrap .i64 (M.add 10 q) = 10 + q := by subst hM; show wrap .i64 (10 + q) = 10 + q; exact w64 (by omega)
  refine ⟨_, rfl, ?_, hs2, ?_, ?_⟩
  ·show blocksV _ = (M.wrap .i64 (M.add 10 q), _)
   unfold blocksV
   rw [e, E1, if_neg hk0, if_neg hk1, if_neg hk, E2]
  ·show 8 ≤ M.wrap .i64 (M.add 10 q)
   rw [e]; omega
  ·show M.wrap .i64 (M.add 10 q) ≤ 512
   rw [e]; omega
/-- n letters -/
noncomputable def textsV : Nat → SrcD → ByteArray → ByteArray × SrcD
 | 0, s, t => (t, s)
 | n + 1, s, t => let k := nextV s 256; textsV n k.2 (real.sApp t (real.ofB [k.1]))
noncomputable def textV (s : SrcD) (max : Int) : ByteArray × SrcD :=
 let k := nextV s (max + 1)
 let q := nextV k.2 3
 textsV (if 0 < q.1 ∧ 3 < k.1 then Int.tmod k.1 4 else k.1).toNat q.2 ⟨#[]⟩
def c41 : Con := Con.of ⟨[(true, 1, .ptr tySrc), (false, 0, .int .i64)], [(0, .str)], fun x => (∃ s, x.1 = some s ∧ SrcOK s) ∧ 0 ≤ x.2.1 ∧ x.2.1 ≤ 20, fun x y x' => ∀ s, x.1 = some s → ∃ s' : SrcD, x'.1 = some s' ∧ textV s x.2.1 = (y.1, s') ∧ SrcOK s' ∧ (y.1.size : Int) ≤ x.2.1⟩
theorem ok41 : FnOK Tryd.prog 41 c41 := by
 refine FnOK.of_vc mixed tabOk (.cons en26 ok26 .nil) Tryd.func41 rfl (by decide) lv41 hd41 ?_
 rintro ⟨(_ | ⟨(b0 : List Int), (p0 : Int), (st0 : Int), ⟨⟩⟩), (max : Int), ⟨⟩⟩ ⟨hpre, (hm0 : 0 ≤ max), (hm1 : max ≤ 20)⟩ hwf
 ·obtain ⟨s, e, _⟩ := hpre
  cases e
 have hs0 : SrcOK (b0, p0, st0, unit) := by
  obtain ⟨s, e, h⟩ := hpre
  cases e
  exact h
 clear hpre
 generalize hM : real = M
 cbv
 have hmx : M.wrap .i64 (M.add max 1) = max + 1 := by subst hM; show wrap .i64 (max + 1) = max + 1; exact w64 (by omega)
 refine ⟨fun _ => ⟨_, rfl, hs0⟩, ?_⟩
 rintro ⟨(k : Int), ⟨⟩⟩ ⟨z1, zz1, ⟨⟩⟩ hpost - -
 obtain ⟨⟨b1, p1, st1, ⟨⟩⟩, hz1, E1, hs1, hr1⟩ := hpost _ rfl
 have hz1 : z1 = some (b1, p1, st1, unit) := hz1
 subst hz1
 clear hpost hz1
 have E1 : nextV (b0, p0, st0, unit) (max + 1) = (k, (b1, p1, st1, unit)) := by rw [← hmx]; exact E1
 have hr1 : (0 : Int) < max + 1 → 0 ≤ k ∧ k < max + 1 := by rw [← hmx]; exact hr1
 cbv
 have hk := hr1 (by omega)
 refine ⟨fun _ => ⟨_, rfl, hs1⟩, ?_⟩
 rintro ⟨(q : Int), ⟨⟩⟩ ⟨z2, zz2, ⟨⟩⟩ hpost - -
 obtain ⟨⟨b2, p2, st2, ⟨⟩⟩, hz2, E2, hs2, hr2⟩ := hpost _ rfl
 have hz2 : z2 = some (b2, p2, st2, unit) := hz2
 subst hz2
 clear hpost hz2
 have E2 : nextV (b1, p1, st1, unit) 3 = (q, (b2, p2, st2, unit)) := E2
 have hr2 : 0 ≤ q ∧ q < 3 := hr2 (show (0 : Int) < 3 by decide)
 cbv
 refine splM (fun h => ?_) (fun h => ?_) <;> cbv
 ·have hq : 0 < q := by subst hM; exact dec_iff.1 h
  clear h
  refine splM (fun h => ?_) (fun h => ?_) <;> cbv
  ·have hk3 : 3 < k := by subst hM; exact dec_iff.1 h
   clear h
   have h4 : 0 ≤ Int.tmod k 4 ∧ Int.tmod k 4 ≤ max := by rw [Int.tmod_eq_emod_of_nonneg (by omega)]; omega
   refine ⟨fun e => (by subst hM; exact absurd (show (4 : Int) = 0 from e) (by decide)), ?_⟩
   have hnn : 0 ≤ M.rem k 4 ∧ M.rem k 4 ≤ max := (by subst hM; exact h4)
   refine ⟨fun m Γ => ∃ (i : Nat) (j : Int) (t : ByteArray) (b3 : List Int) (p3 st3 : Int), j = i ∧ (i : Int) ≤ M.rem k 4 ∧ SrcOK (b3, p3, st3, unit) ∧ textsV ((M.rem k 4).toNat - i) (b3, p3, st3, unit) t = textsV (M.rem k 4).toNat (b2, p2, st2, unit) ⟨#[]⟩ ∧ t.size ≤ i ∧ m = (M.rem k 4).toNat - i ∧ Γ = ⟨34, [(0, .ad 0 tySrc 0 []), (5, .pv [] (.int .i64) (M.rem k 4)), (6, .pv [] .str t), (7, .pv [] (.int .i64) j)], [(0, .box (.consA (.pv [] tyB b3) (.consA (.pv [] (.int .i64) p3) (.consA (.pv [] (.int .u64) st3) .nilA))))], [.ad 0 tySrc 0 [], .hole 0]⟩, ⟨_, 0, 0, ⟨#[]⟩, b2, p2, st2, rfl, hnn.1, hs2, rfl, Nat.le_refl _, rfl, rfl⟩, ?_⟩
   rintro m _ ⟨i, j, t, b3, p3, st3, hj, hi, hs3, ht, hz, rfl, rfl⟩ -
   cbv
   refine splM (fun h9 => ?_) (fun h9 => ?_) <;> cbv
   ·have hin : j < M.rem k 4 := by subst hM; exact dec_iff.1 h9
    (try simp only [jqn] at hi hj); (try simp only [jqi] at hi hj)
    have hlt : (M.rem k 4).toNat - (i + 1) < (M.rem k 4).toNat - i := by omega
    have hi1 : ((i + 1 : Nat) : Int) ≤ M.rem k 4 := by omega
    have hj1 : wrap .i64 (j + 1) = ((i + 1 : Nat) : Int) := by rw [hj, w64 (by omega)]; omega
    have hstep : (M.rem k 4).toNat - i = ((M.rem k 4).toNat - (i + 1)) + 1 := by omega
    have hi20 : i ≤ 20 := by omega
    clear hj h9
    refine ⟨fun _ => ⟨_, rfl, hs3⟩, ?_⟩
    rintro ⟨(c : Int), ⟨⟩⟩ ⟨z4, zz4, ⟨⟩⟩ hpost - -
    obtain ⟨⟨b4, p4, st4, ⟨⟩⟩, hz4, E4, hs4, hr4⟩ := hpost _ rfl
    have hz4 : z4 = some (b4, p4, st4, unit) := hz4
    subst hz4
    clear hpost hz4
    have E4 : nextV (b3, p3, st3, unit) 256 = (c, (b4, p4, st4, unit)) := E4
    have hr4 : 0 ≤ c ∧ c < 256 := hr4 (show (0 : Int) < 256 by decide)
    cbv
    have hc8 : wrap .u8 c = c := w8 (by omega)
    have hof : (real.ofB [c]).size = 1 := rfl
    have hz2 : (real.sApp t (real.ofB [c])).size ≤ i + 1 := by
     show (t ++ real.ofB [c]).size ≤ i + 1
     rw [ByteArray.size_append, hof]; omega
    have hroom : real.sRoom t (real.ofB [c]) := by
     show t.size + (real.ofB [c]).size ≤ maxL
     rw [hof, maxL_eq]; omega
    have hgo : textsV ((M.rem k 4).toNat - (i + 1)) (b4, p4, st4, unit) (real.sApp t (real.ofB [c])) = textsV (M.rem k 4).toNat (b2, p2, st2, unit) ⟨#[]⟩ := by
     rw [← ht, hstep]
     conv => rhs; unfold textsV
     rw [E4]
    rw [← hc8] at hroom hz2 hgo
    subst hM
    refine ⟨hroom, _, hlt, i + 1, _, _, b4, p4, st4, hj1, hi1, hs4, hgo, hz2, rfl, rfl⟩
   ·rintro - s hs
    cases hs
    have hin : ¬ j < M.rem k 4 := by
     subst hM
     intro hh
     exact absurd ((show real.dec (real.lt j _) = true from dec_iff.2 hh).symm.trans h9) (by decide)
    (try simp only [jqn] at hi hj); (try simp only [jqi] at hi hj)
    have hie : (M.rem k 4).toNat - i = 0 := by omega
    have hzm : (t.size : Int) ≤ max := by omega
    rw [hie] at ht
    refine ⟨(b3, p3, st3, unit), rfl, ?_, hs3, hzm⟩
    have ht2 : textsV (M.rem k 4).toNat (b2, p2, st2, unit) ⟨#[]⟩ = (t, (b3, p3, st3, unit)) := ht.symm
    show textV (b0, p0, st0, unit) max = (t, (b3, p3, st3, unit))
    unfold textV
    rw [E1]
    show textsV (if 0 < (nextV (b1, p1, st1, unit) 3).1 ∧ 3 < k then Int.tmod k 4 else k).toNat (nextV (b1, p1, st1, unit) 3).2 ⟨#[]⟩ = _
    rw [E2]
    show textsV (if 0 < q ∧ 3 < k then Int.tmod k 4 else k).toNat (b2, p2, st2, unit) ⟨#[]⟩ = _
    rw [if_pos ⟨hq, hk3⟩]
    subst hM
    exact ht2
  ·have hk3 : ¬ 3 < k := by
    subst hM
    intro hh
    exact absurd ((show real.dec (real.lt 3 k) = true from dec_iff.2 hh).symm.trans h) (by decide)
   clear h
   have hnn : 0 ≤ k ∧ k ≤ max := ⟨hk.1, by omega⟩
   refine ⟨fun m Γ => ∃ (i : Nat) (j : Int) (t : ByteArray) (b3 : List Int) (p3 st3 : Int), j = i ∧ (i : Int) ≤ k ∧ SrcOK (b3, p3, st3, unit) ∧ textsV ((k).toNat - i) (b3, p3, st3, unit) t = textsV (k).toNat (b2, p2, st2, unit) ⟨#[]⟩ ∧ t.size ≤ i ∧ m = (k).toNat - i ∧ Γ = ⟨34, [(0, .ad 0 tySrc 0 []), (5, .pv [] (.int .i64) (k)), (6, .pv [] .str t), (7, .pv [] (.int .i64) j)], [(0, .box (.consA (.pv [] tyB b3) (.consA (.pv [] (.int .i64) p3) (.consA (.pv [] (.int .u64) st3) .nilA))))], [.ad 0 tySrc 0 [], .hole 0]⟩, ⟨_, 0, 0, ⟨#[]⟩, b2, p2, st2, rfl, hnn.1, hs2, rfl, Nat.le_refl _, rfl, rfl⟩, ?_⟩
   rintro m _ ⟨i, j, t, b3, p3, st3, hj, hi, hs3, ht, hz, rfl, rfl⟩ -
   cbv
   refine splM (fun h9 => ?_) (fun h9 => ?_) <;> cbv
   ·have hin : j < k := by subst hM; exact dec_iff.1 h9
    (try simp only [jqn] at hi hj); (try simp only [jqi] at hi hj)
    have hlt : (k).toNat - (i + 1) < (k).toNat - i := by omega
    have hi1 : ((i + 1 : Nat) : Int) ≤ k := by omega
    have hj1 : wrap .i64 (j + 1) = ((i + 1 : Nat) : Int) := by rw [hj, w64 (by omega)]; omega
    have hstep : (k).toNat - i = ((k).toNat - (i + 1)) + 1 := by omega
    have hi20 : i ≤ 20 := by omega
    clear hj h9
    refine ⟨fun _ => ⟨_, rfl, hs3⟩, ?_⟩
    rintro ⟨(c : Int), ⟨⟩⟩ ⟨z4, zz4, ⟨⟩⟩ hpost - -
    obtain ⟨⟨b4, p4, st4, ⟨⟩⟩, hz4, E4, hs4, hr4⟩ := hpost _ rfl
    have hz4 : z4 = some (b4, p4, st4, unit) := hz4
    subst hz4
    clear hpost hz4
    have E4 : nextV (b3, p3, st3, unit) 256 = (c, (b4, p4, st4, unit)) := E4
    have hr4 : 0 ≤ c ∧ c < 256 := hr4 (show (0 : Int) < 256 by decide)
    cbv
    have hc8 : wrap .u8 c = c := w8 (by omega)
    have hof : (real.ofB [c]).size = 1 := rfl
    have hz2 : (real.sApp t (real.ofB [c])).size ≤ i + 1 := by
     show (t ++ real.ofB [c]).size ≤ i + 1
     rw [ByteArray.size_append, hof]; omega
    have hroom : real.sRoom t (real.ofB [c]) := by
     show t.size + (real.ofB [c]).size ≤ maxL
     rw [hof, maxL_eq]; omega
    have hgo : textsV ((k).toNat - (i + 1)) (b4, p4, st4, unit) (real.sApp t (real.ofB [c])) = textsV (k).toNat (b2, p2, st2, unit) ⟨#[]⟩ := by
     rw [← ht, hstep]
     conv => rhs; unfold textsV
     rw [E4]
    rw [← hc8] at hroom hz2 hgo
    subst hM
    refine ⟨hroom, _, hlt, i + 1, _, _, b4, p4, st4, hj1, hi1, hs4, hgo, hz2, rfl, rfl⟩
   ·rintro - s hs
    cases hs
    have hin : ¬ j < k := by
     subst hM
     intro hh
     exact absurd ((show real.dec (real.lt j _) = true from dec_iff.2 hh).symm.trans h9) (by decide)
    (try simp only [jqn] at hi hj); (try simp only [jqi] at hi hj)
    have hie : (k).toNat - i = 0 := by omega
    have hzm : (t.size : Int) ≤ max := by omega
    rw [hie] at ht
    refine ⟨(b3, p3, st3, unit), rfl, ?_, hs3, hzm⟩
    have ht2 : textsV (k).toNat (b2, p2, st2, unit) ⟨#[]⟩ = (t, (b3, p3, st3, unit)) := ht.symm
    show textV (b0, p0, st0, unit) max = (t, (b3, p3, st3, unit))
    unfold textV
    rw [E1]
    show textsV (if 0 < (nextV (b1, p1, st1, unit) 3).1 ∧ 3 < k then Int.tmod k 4 else k).toNat (nextV (b1, p1, st1, unit) 3).2 ⟨#[]⟩ = _
    rw [E2]
    show textsV (if 0 < q ∧ 3 < k then Int.tmod k 4 else k).toNat (b2, p2, st2, unit) ⟨#[]⟩ = _
    rw [if_neg (fun h => hk3 h.2)]
    skip
    exact ht2
 ·have hq : ¬ 0 < q := by
   subst hM
   intro hh
   exact absurd ((show real.dec (real.lt 0 q) = true from dec_iff.2 hh).symm.trans h) (by decide)
  clear h
  have hnn : 0 ≤ k ∧ k ≤ max := ⟨hk.1, by omega⟩
  refine ⟨fun m Γ => ∃ (i : Nat) (j : Int) (t : ByteArray) (b3 : List Int) (p3 st3 : Int), j = i ∧ (i : Int) ≤ k ∧ SrcOK (b3, p3, st3, unit) ∧ textsV ((k).toNat - i) (b3, p3, st3, unit) t = textsV (k).toNat (b2, p2, st2, unit) ⟨#[]⟩ ∧ t.size ≤ i ∧ m = (k).toNat - i ∧ Γ = ⟨34, [(0, .ad 0 tySrc 0 []), (5, .pv [] (.int .i64) (k)), (6, .pv [] .str t), (7, .pv [] (.int .i64) j)], [(0, .box (.consA (.pv [] tyB b3) (.consA (.pv [] (.int .i64) p3) (.consA (.pv [] (.int .u64) st3) .nilA))))], [.ad 0 tySrc 0 [], .hole 0]⟩, ⟨_, 0, 0, ⟨#[]⟩, b2, p2, st2, rfl, hnn.1, hs2, rfl, Nat.le_refl _, rfl, rfl⟩, ?_⟩
  rintro m _ ⟨i, j, t, b3, p3, st3, hj, hi, hs3, ht, hz, rfl, rfl⟩ -
  cbv
  refine splM (fun h9 => ?_) (fun h9 => ?_) <;> cbv
  ·have hin : j < k := by subst hM; exact dec_iff.1 h9
   (try simp only [jqn] at hi hj); (try simp only [jqi] at hi hj)
   have hlt : (k).toNat - (i + 1) < (k).toNat - i := by omega
   have hi1 : ((i + 1 : Nat) : Int) ≤ k := by omega
   have hj1 : wrap .i64 (j + 1) = ((i + 1 : Nat) : Int) := by rw [hj, w64 (by omega)]; omega
   have hstep : (k).toNat - i = ((k).toNat - (i + 1)) + 1 := by omega
   have hi20 : i ≤ 20 := by omega
   clear hj h9
   refine ⟨fun _ => ⟨_, rfl, hs3⟩, ?_⟩
   rintro ⟨(c : Int), ⟨⟩⟩ ⟨z4, zz4, ⟨⟩⟩ hpost - -
   obtain ⟨⟨b4, p4, st4, ⟨⟩⟩, hz4, E4, hs4, hr4⟩ := hpost _ rfl
   have hz4 : z4 = some (b4, p4, st4, unit) := hz4
   subst hz4
   clear hpost hz4
   have E4 : nextV (b3, p3, st3, unit) 256 = (c, (b4, p4, st4, unit)) := E4
   have hr4 : 0 ≤ c ∧ c < 256 := hr4 (show (0 : Int) < 256 by decide)
   cbv
   have hc8 : wrap .u8 c = c := w8 (by omega)
   have hof : (real.ofB [c]).size = 1 := rfl
   have hz2 : (real.sApp t (real.ofB [c])).size ≤ i + 1 := by
    show (t ++ real.ofB [c]).size ≤ i + 1
    rw [ByteArray.size_append, hof]; omega
   have hroom : real.sRoom t (real.ofB [c]) := by
    show t.size + (real.ofB [c]).size ≤ maxL
    rw [hof, maxL_eq]; omega
   have hgo : textsV ((k).toNat - (i + 1)) (b4, p4, st4, unit) (real.sApp t (real.ofB [c])) = textsV (k).toNat (b2, p2, st2, unit) ⟨#[]⟩ := by
    rw [← ht, hstep]
    conv => rhs; unfold textsV
    rw [E4]
   rw [← hc8] at hroom hz2 hgo
   subst hM
   refine ⟨hroom, _, hlt, i + 1, _, _, b4, p4, st4, hj1, hi1, hs4, hgo, hz2, rfl, rfl⟩
  ·rintro - s hs
   cases hs
   have hin : ¬ j < k := by
    subst hM
    intro hh
    exact absurd ((show real.dec (real.lt j _) = true from dec_iff.2 hh).symm.trans h9) (by decide)
   (try simp only [jqn] at hi hj); (try simp only [jqi] at hi hj)
   have hie : (k).toNat - i = 0 := by omega
   have hzm : (t.size : Int) ≤ max := by omega
   rw [hie] at ht
   refine ⟨(b3, p3, st3, unit), rfl, ?_, hs3, hzm⟩
   have ht2 : textsV (k).toNat (b2, p2, st2, unit) ⟨#[]⟩ = (t, (b3, p3, st3, unit)) := ht.symm
   show textV (b0, p0, st0, unit) max = (t, (b3, p3, st3, unit))
   unfold textV
   rw [E1]
   show textsV (if 0 < (nextV (b1, p1, st1, unit) 3).1 ∧ 3 < k then Int.tmod k 4 else k).toNat (nextV (b1, p1, st1, unit) 3).2 ⟨#[]⟩ = _
   rw [E2]
   show textsV (if 0 < q ∧ 3 < k then Int.tmod k 4 else k).toNat (b2, p2, st2, unit) ⟨#[]⟩ = _
   rw [if_neg (fun h => hq h.1)]
   skip
   exact ht2
end Go.Proofs.YtmjeghlfmhbjdaaDoor.EngTab
