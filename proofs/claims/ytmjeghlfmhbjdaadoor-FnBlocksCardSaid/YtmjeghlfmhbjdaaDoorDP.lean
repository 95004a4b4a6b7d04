/- The draws: spoiled blocks; the drawn node blocks. -/
import Derived.Test.YtmjeghlfmhbjdaaDoorDC
import Derived.Test.YtmjeghlfmhbjdaaDoorT2
namespace Go.Proofs.YtmjeghlfmhbjdaaDoor.EngTab
open Go.Proofs.YtmjeghlfmhbjdaaDoor.Eng
open PUnit (unit)
open IntKind (wrap)
set_option maxRecDepth 100000
set_option linter.unusedVariables false
set_option linter.unusedSimpArgs false
/-- the place that is turned, and the source behind -/
noncomputable def placeV (s : SrcD) : Int × SrcD :=
  if (nextV (nextV s 128).2 2).1 = 0 then nextV (nextV (nextV s 128).2 2).2 34 else ((nextV s 128).1, (nextV (nextV s 128).2 2).2)
noncomputable def turnV (a : Int × SrcD) (b : List Int) : List Int :=
  if (nextV a.2 2).1 = 0 then b.set a.1.toNat (real.bit .xor .u8 (b.getD a.1.toNat 0) (real.shl .u8 1 (wrap .u64 (nextV (nextV a.2 2).2 8).1)))
  else b.set a.1.toNat (wrap .u8 (nextV (nextV a.2 2).2 26).1)
noncomputable def spoilV (s : SrcD) (b : List Int) : List Int :=
  if (nextV s 8).1 = 0 then b.take 127 else if (nextV s 8).1 = 1 then b ++ [0] else
  if 4 ≤ (nextV s 8).1 then sealB ((turnV (placeV (nextV s 8).2) b).take 124) else turnV (placeV (nextV s 8).2) b
def c27 : Con := Con.of ⟨[(true, 1, .ptr tySrc), (false, 1, tyB)], [(1, tyB)], fun x => (∃ s, x.1 = some s ∧ SrcOK s) ∧ x.2.1.length = 128, fun x y x' => ∀ s, x.1 = some s → y.1 = spoilV s x.2.1⟩
set_option maxHeartbeats 4000000 in
theorem ok27 : FnOK Tryd.prog 27 c27 := by
  refine FnOK.of_vc mixed tabOk.moves (.cons en26 ok26 (.cons en42 ok42 (.cons en40 ok40 .nil))) Tryd.func27 rfl (by decide) lv27 hd27 ?_
  rintro ⟨(_ | ⟨(b0 : List Int), (p0 : Int), (st0 : Int), ⟨⟩⟩), (b : List Int), ⟨⟩⟩ ⟨hpre, (hl : b.length = 128)⟩ hwf
  · obtain ⟨s, e, _⟩ := hpre
    cases e
  have hs0 : SrcOK (b0, p0, st0, unit) := by
    obtain ⟨s, e, h⟩ := hpre
    cases e
    exact h
  clear hpre
  generalize hM : real = M
  cbv
  refine ⟨fun _ => (by show b.length ≤ 1048576; omega), ?_⟩
  rintro ⟨(b' : List Int), ⟨⟩⟩ xx (hb' : b' = b) - -
  subst hb'
  cbv
  refine ⟨fun _ => ⟨_, rfl, hs0⟩, ?_⟩
  rintro ⟨(k : Int), ⟨⟩⟩ ⟨z1, zz1, ⟨⟩⟩ hpost - -
  obtain ⟨⟨b1, p1, st1, ⟨⟩⟩, hz1, E1, hs1, hr1⟩ := hpost _ rfl
  have hz1 : z1 = some (b1, p1, st1, unit) := hz1
  subst hz1
  clear hpost hz1
  have E1 : nextV (b0, p0, st0, unit) 8 = (k, (b1, p1, st1, unit)) := E1
  have hr1 : 0 ≤ k ∧ k < 8 := hr1 (show (0 : Int) < 8 by decide)
  cbv
  refine splM (fun h => ?_) (fun h => ?_) <;> cbv
  · have hk : k = 0 := by subst hM; exact dec_iff.1 h
    clear h
    have hlw : wrap .i64 ((b'.length : Int) - 1) = 127 := by rw [w64 (by omega)]; omega
    refine ⟨?_, ?_, ?_⟩
    · subst hM
      show 0 ≤ wrap .i64 ((b'.length : Int) - 1)
      rw [hlw]; omega
    · subst hM
      show wrap .i64 ((b'.length : Int) - 1) ≤ (b'.length : Int)
      rw [hlw]; omega
    rintro - s hs
    cases hs
    show M.cut b' 0 (M.wrap .i64 (M.sub (M.ofN (M.len b')) 1)) = spoilV (b0, p0, st0, unit) b'
    unfold spoilV
    rw [E1]
    show _ = (if k = 0 then b'.take 127 else _)
    rw [if_pos hk]
    subst hM
    show (b'.drop 0).take ((wrap .i64 ((b'.length : Int) - 1)).toNat - 0) = b'.take 127
    rw [hlw]; rfl
  have hk0 : ¬ k = 0 := by
    subst hM
    intro hh
    exact absurd ((show real.dec (real.eq k 0) = true from dec_iff.2 hh).symm.trans h) (by decide)
  clear h
  refine splM (fun h => ?_) (fun h => ?_) <;> cbv
  · have hk : k = 1 := by subst hM; exact dec_iff.1 h
    clear h
    refine ⟨by subst hM; show b'.length + 1 ≤ 2 ^ 36; omega, ?_⟩
    rintro - s hs
    cases hs
    show M.app b' [0] = spoilV (b0, p0, st0, unit) b'
    unfold spoilV
    rw [E1]
    show _ = (if k = 0 then _ else if k = 1 then b' ++ [0] else _)
    rw [if_neg hk0, if_pos hk]
    subst hM
    rfl
  have hk1 : ¬ k = 1 := by
    subst hM
    intro hh
    exact absurd ((show real.dec (real.eq k 1) = true from dec_iff.2 hh).symm.trans h) (by decide)
  clear h
  refine splM (fun h => ?_) (fun h => ?_) <;> cbv
  · exfalso
    subst hM
    have e : real.eq (b'.length : Int) 128 := (show (b'.length : Int) = 128 by omega)
    have h' : real.not (real.dec (real.eq (b'.length : Int) 128)) = true := h
    rw [dec_iff.2 e] at h'
    cases h'
  clear h
  refine ⟨fun _ => ⟨_, rfl, hs1⟩, ?_⟩
  rintro ⟨(pl : Int), ⟨⟩⟩ ⟨z2, zz2, ⟨⟩⟩ hpost - -
  obtain ⟨⟨b2, p2, st2, ⟨⟩⟩, hz2, E2, hs2, hr2⟩ := hpost _ rfl
  have hz2 : z2 = some (b2, p2, st2, unit) := hz2
  subst hz2
  clear hpost hz2
  have E2 : nextV (b1, p1, st1, unit) 128 = (pl, (b2, p2, st2, unit)) := E2
  have hr2 : 0 ≤ pl ∧ pl < 128 := hr2 (show (0 : Int) < 128 by decide)
  cbv
  refine ⟨fun _ => ⟨_, rfl, hs2⟩, ?_⟩
  rintro ⟨(z : Int), ⟨⟩⟩ ⟨z3, zz3, ⟨⟩⟩ hpost - -
  obtain ⟨⟨b3, p3, st3, ⟨⟩⟩, hz3, E3, hs3, hr3⟩ := hpost _ rfl
  have hz3 : z3 = some (b3, p3, st3, unit) := hz3
  subst hz3
  clear hpost hz3
  have E3 : nextV (b2, p2, st2, unit) 2 = (z, (b3, p3, st3, unit)) := E3
  have hr3 : 0 ≤ z ∧ z < 2 := hr3 (show (0 : Int) < 2 by decide)
  cbv
  refine splM (fun h => ?_) (fun h => ?_) <;> cbv
  · have hz : z = 0 := by subst hM; exact dec_iff.1 h
    clear h
    refine ⟨fun _ => ⟨_, rfl, hs3⟩, ?_⟩
    rintro ⟨(pl2 : Int), ⟨⟩⟩ ⟨z4, zz4, ⟨⟩⟩ hpost - -
    obtain ⟨⟨b4, p4, st4, ⟨⟩⟩, hz4, E4, hs4, hr4⟩ := hpost _ rfl
    have hz4 : z4 = some (b4, p4, st4, unit) := hz4
    subst hz4
    clear hpost hz4
    have E4 : nextV (b3, p3, st3, unit) 34 = (pl2, (b4, p4, st4, unit)) := E4
    have hr4 : 0 ≤ pl2 ∧ pl2 < 34 := hr4 (show (0 : Int) < 34 by decide)
    cbv
    have hplace : placeV (b1, p1, st1, unit) = (pl2, (b4, p4, st4, unit)) := by
      unfold placeV
      rw [E2]
      show (if (nextV (b2, p2, st2, unit) 2).1 = 0 then nextV (nextV (b2, p2, st2, unit) 2).2 34 else _) = _
      rw [E3]
      show (if z = 0 then nextV (b3, p3, st3, unit) 34 else _) = _
      rw [if_pos hz, E4]
    have hb0 : 0 ≤ pl2 := by omega
    have hb1 : pl2 < (b'.length : Int) := by omega
    refine ⟨fun _ => ⟨_, rfl, hs4⟩, ?_⟩
    rintro ⟨(z2 : Int), ⟨⟩⟩ ⟨z5, zz5, ⟨⟩⟩ hpost - -
    obtain ⟨⟨b5, p5, st5, ⟨⟩⟩, hz5, E5, hs5, hr5⟩ := hpost _ rfl
    have hz5 : z5 = some (b5, p5, st5, unit) := hz5
    subst hz5
    clear hpost hz5
    have E5 : nextV (b4, p4, st4, unit) 2 = (z2, (b5, p5, st5, unit)) := E5
    have hr5 : 0 ≤ z2 ∧ z2 < 2 := hr5 (show (0 : Int) < 2 by decide)
    cbv
    refine splM (fun h => ?_) (fun h => ?_) <;> cbv
    · have hz2 : z2 = 0 := by subst hM; exact dec_iff.1 h
      clear h
      refine ⟨ot27_13, (fun _ => by kernel_rfl), ?_⟩
      cbv
      repeat' (first
        | exact True.intro
        | (refine And.intro ?_ True.intro)
        | (fail_if_success have := E6
           refine And.intro (fun _ => ⟨_, rfl, hs5⟩) ?_
           rintro ⟨(q8 : Int), ⟨⟩⟩ ⟨z6, zz6, ⟨⟩⟩ hpost - -
           obtain ⟨⟨b6, p6, st6, ⟨⟩⟩, hz6, E6, hs6, hr6⟩ := hpost _ rfl
           have hz6 : z6 = some (b6, p6, st6, unit) := hz6
           subst hz6
           clear hpost hz6
           have E6 : nextV (b5, p5, st5, unit) 8 = (q8, (b6, p6, st6, unit)) := E6
           have hr6 : 0 ≤ q8 ∧ q8 < 8 := hr6 (by show (0 : Int) < 8; omega)
           cbv)
        | (refine And.intro (by subst hM; exact hb0) ?_)
        | (refine And.intro (by subst hM; exact hb1) ?_)
        | (refine And.intro (by subst hM; exact u64_nn _) ?_)
        | (refine And.intro ?_ ?_))
      all_goals
        have hturn : turnV (pl2, (b4, p4, st4, unit)) b' = M.set b' pl2 (M.bit .xor .u8 (M.get b' pl2 0) (M.shl .u8 1 (M.wrap .u64 q8))) := by
          unfold turnV
          rw [E5]
          show (if z2 = 0 then b'.set (pl2).toNat (real.bit .xor .u8 (b'.getD (pl2).toNat 0) (real.shl .u8 1 (wrap .u64 (nextV (b5, p5, st5, unit) 8).1))) else _) = _
          rw [if_pos hz2, E6]
          subst hM
          rfl
        have hnl : (M.set b' pl2 (M.bit .xor .u8 (M.get b' pl2 0) (M.shl .u8 1 (M.wrap .u64 q8)))).length = 128 := by
          subst hM
          show (b'.set (pl2).toNat (real.bit .xor .u8 (b'.getD (pl2).toNat 0) (real.shl .u8 1 (wrap .u64 q8)))).length = 128
          simp [hl]
        have hsp : spoilV (b0, p0, st0, unit) b' = if 4 ≤ k then sealB ((M.set b' pl2 (M.bit .xor .u8 (M.get b' pl2 0) (M.shl .u8 1 (M.wrap .u64 q8)))).take 124) else M.set b' pl2 (M.bit .xor .u8 (M.get b' pl2 0) (M.shl .u8 1 (M.wrap .u64 q8))) := by
          unfold spoilV
          rw [E1]
          show (if k = 0 then _ else if k = 1 then _ else if 4 ≤ k then sealB ((turnV (placeV (b1, p1, st1, unit)) b').take 124) else turnV (placeV (b1, p1, st1, unit)) b') = _
          rw [if_neg hk0, if_neg hk1, hplace, hturn]
        refine splM (fun h => ?_) (fun h => ?_) <;> cbv
        · have hk4 : 4 ≤ k := by subst hM; exact dec_iff.1 h
          clear h
          rw [if_pos hk4] at hsp
          have hcl : (M.cut (M.set b' pl2 (M.bit .xor .u8 (M.get b' pl2 0) (M.shl .u8 1 (M.wrap .u64 q8)))) 0 124).length ≤ 124 := by
            subst hM
            show (List.take _ _).length ≤ 124
            rw [List.length_take]
            exact Nat.min_le_left _ _
          refine ⟨by subst hM; show (0 : Int) ≤ 124; omega, by subst hM; show (124 : Int) ≤ ((b'.set (pl2).toNat (real.bit .xor .u8 (b'.getD (pl2).toNat 0) (real.shl .u8 1 (wrap .u64 q8)))).length : Int); have : (b'.set (pl2).toNat (real.bit .xor .u8 (b'.getD (pl2).toNat 0) (real.shl .u8 1 (wrap .u64 q8)))).length = 128 := hnl; omega, fun _ => hcl, ?_⟩
          rintro ⟨(y : List Int), ⟨⟩⟩ x40 (hy : y = sealB (M.cut (M.set b' pl2 (M.bit .xor .u8 (M.get b' pl2 0) (M.shl .u8 1 (M.wrap .u64 q8)))) 0 124)) - -
          cbv
          rintro - s hs
          cases hs
          show y = spoilV (b0, p0, st0, unit) b'
          rw [hsp, hy]
          subst hM
          rfl
        · have hk4 : ¬ 4 ≤ k := by
            subst hM
            intro hh
            exact absurd ((show real.dec (real.le 4 k) = true from dec_iff.2 hh).symm.trans h) (by decide)
          rw [if_neg hk4] at hsp
          rintro - s hs
          cases hs
          exact hsp.symm
    · have hz2 : ¬ z2 = 0 := by
        subst hM
        intro hh
        exact absurd ((show real.dec (real.eq z2 0) = true from dec_iff.2 hh).symm.trans h) (by decide)
      clear h
      refine ⟨fun _ => ⟨_, rfl, hs5⟩, ?_⟩
      rintro ⟨(q26 : Int), ⟨⟩⟩ ⟨z6, zz6, ⟨⟩⟩ hpost - -
      obtain ⟨⟨b6, p6, st6, ⟨⟩⟩, hz6, E6, hs6, hr6⟩ := hpost _ rfl
      have hz6 : z6 = some (b6, p6, st6, unit) := hz6
      subst hz6
      clear hpost hz6
      have E6 : nextV (b5, p5, st5, unit) 26 = (q26, (b6, p6, st6, unit)) := E6
      have hr6 : 0 ≤ q26 ∧ q26 < 26 := hr6 (show (0 : Int) < 26 by decide)
      cbv
      repeat (first | (refine And.intro (by subst hM; exact hb0) ?_) | (refine And.intro (by subst hM; exact hb1) ?_))
      have hturn : turnV (pl2, (b4, p4, st4, unit)) b' = M.set b' pl2 (M.wrap .u8 q26) := by
        unfold turnV
        rw [E5]
        show (if z2 = 0 then _ else b'.set (pl2).toNat (wrap .u8 (nextV (b5, p5, st5, unit) 26).1)) = _
        rw [if_neg hz2, E6]
        subst hM
        rfl
      have hnl : (M.set b' pl2 (M.wrap .u8 q26)).length = 128 := by
        subst hM
        show (b'.set (pl2).toNat (wrap .u8 q26)).length = 128
        simp [hl]
      have hsp : spoilV (b0, p0, st0, unit) b' = if 4 ≤ k then sealB ((M.set b' pl2 (M.wrap .u8 q26)).take 124) else M.set b' pl2 (M.wrap .u8 q26) := by
        unfold spoilV
        rw [E1]
        show (if k = 0 then _ else if k = 1 then _ else if 4 ≤ k then sealB ((turnV (placeV (b1, p1, st1, unit)) b').take 124) else turnV (placeV (b1, p1, st1, unit)) b') = _
        rw [if_neg hk0, if_neg hk1, hplace, hturn]
      refine splM (fun h => ?_) (fun h => ?_) <;> cbv
      · have hk4 : 4 ≤ k := by subst hM; exact dec_iff.1 h
        clear h
        rw [if_pos hk4] at hsp
        have hcl : (M.cut (M.set b' pl2 (M.wrap .u8 q26)) 0 124).length ≤ 124 := by
          subst hM
          show (List.take _ _).length ≤ 124
          rw [List.length_take]
          exact Nat.min_le_left _ _
        refine ⟨by subst hM; show (0 : Int) ≤ 124; omega, by subst hM; show (124 : Int) ≤ ((b'.set (pl2).toNat (wrap .u8 q26)).length : Int); have : (b'.set (pl2).toNat (wrap .u8 q26)).length = 128 := hnl; omega, fun _ => hcl, ?_⟩
        rintro ⟨(y : List Int), ⟨⟩⟩ x40 (hy : y = sealB (M.cut (M.set b' pl2 (M.wrap .u8 q26)) 0 124)) - -
        cbv
        rintro - s hs
        cases hs
        show y = spoilV (b0, p0, st0, unit) b'
        rw [hsp, hy]
        subst hM
        rfl
      · have hk4 : ¬ 4 ≤ k := by
          subst hM
          intro hh
          exact absurd ((show real.dec (real.le 4 k) = true from dec_iff.2 hh).symm.trans h) (by decide)
        rw [if_neg hk4] at hsp
        rintro - s hs
        cases hs
        exact hsp.symm
  · have hz : ¬ z = 0 := by
      subst hM
      intro hh
      exact absurd ((show real.dec (real.eq z 0) = true from dec_iff.2 hh).symm.trans h) (by decide)
    clear h
    have hplace : placeV (b1, p1, st1, unit) = (pl, (b3, p3, st3, unit)) := by
      unfold placeV
      rw [E2]
      show (if (nextV (b2, p2, st2, unit) 2).1 = 0 then _ else (pl, (nextV (b2, p2, st2, unit) 2).2)) = _
      rw [E3]
      show (if z = 0 then _ else (pl, (b3, p3, st3, unit))) = _
      rw [if_neg hz]
    have hb0 : 0 ≤ pl := by omega
    have hb1 : pl < (b'.length : Int) := by omega
    refine ⟨fun _ => ⟨_, rfl, hs3⟩, ?_⟩
    rintro ⟨(z2 : Int), ⟨⟩⟩ ⟨z4, zz4, ⟨⟩⟩ hpost - -
    obtain ⟨⟨b4, p4, st4, ⟨⟩⟩, hz4, E4, hs4, hr4⟩ := hpost _ rfl
    have hz4 : z4 = some (b4, p4, st4, unit) := hz4
    subst hz4
    clear hpost hz4
    have E4 : nextV (b3, p3, st3, unit) 2 = (z2, (b4, p4, st4, unit)) := E4
    have hr4 : 0 ≤ z2 ∧ z2 < 2 := hr4 (show (0 : Int) < 2 by decide)
    cbv
    refine splM (fun h => ?_) (fun h => ?_) <;> cbv
    · have hz2 : z2 = 0 := by subst hM; exact dec_iff.1 h
      clear h
      refine ⟨ot27_13, (fun _ => by kernel_rfl), ?_⟩
      cbv
      repeat' (first
        | exact True.intro
        | (refine And.intro ?_ True.intro)
        | (fail_if_success have := E5
           refine And.intro (fun _ => ⟨_, rfl, hs4⟩) ?_
           rintro ⟨(q8 : Int), ⟨⟩⟩ ⟨z5, zz5, ⟨⟩⟩ hpost - -
           obtain ⟨⟨b5, p5, st5, ⟨⟩⟩, hz5, E5, hs5, hr5⟩ := hpost _ rfl
           have hz5 : z5 = some (b5, p5, st5, unit) := hz5
           subst hz5
           clear hpost hz5
           have E5 : nextV (b4, p4, st4, unit) 8 = (q8, (b5, p5, st5, unit)) := E5
           have hr5 : 0 ≤ q8 ∧ q8 < 8 := hr5 (by show (0 : Int) < 8; omega)
           cbv)
        | (refine And.intro (by subst hM; exact hb0) ?_)
        | (refine And.intro (by subst hM; exact hb1) ?_)
        | (refine And.intro (by subst hM; exact u64_nn _) ?_)
        | (refine And.intro ?_ ?_))
      all_goals
        have hturn : turnV (pl, (b3, p3, st3, unit)) b' = M.set b' pl (M.bit .xor .u8 (M.get b' pl 0) (M.shl .u8 1 (M.wrap .u64 q8))) := by
          unfold turnV
          rw [E4]
          show (if z2 = 0 then b'.set (pl).toNat (real.bit .xor .u8 (b'.getD (pl).toNat 0) (real.shl .u8 1 (wrap .u64 (nextV (b4, p4, st4, unit) 8).1))) else _) = _
          rw [if_pos hz2, E5]
          subst hM
          rfl
        have hnl : (M.set b' pl (M.bit .xor .u8 (M.get b' pl 0) (M.shl .u8 1 (M.wrap .u64 q8)))).length = 128 := by
          subst hM
          show (b'.set (pl).toNat (real.bit .xor .u8 (b'.getD (pl).toNat 0) (real.shl .u8 1 (wrap .u64 q8)))).length = 128
          simp [hl]
        have hsp : spoilV (b0, p0, st0, unit) b' = if 4 ≤ k then sealB ((M.set b' pl (M.bit .xor .u8 (M.get b' pl 0) (M.shl .u8 1 (M.wrap .u64 q8)))).take 124) else M.set b' pl (M.bit .xor .u8 (M.get b' pl 0) (M.shl .u8 1 (M.wrap .u64 q8))) := by
          unfold spoilV
          rw [E1]
          show (if k = 0 then _ else if k = 1 then _ else if 4 ≤ k then sealB ((turnV (placeV (b1, p1, st1, unit)) b').take 124) else turnV (placeV (b1, p1, st1, unit)) b') = _
          rw [if_neg hk0, if_neg hk1, hplace, hturn]
        refine splM (fun h => ?_) (fun h => ?_) <;> cbv
        · have hk4 : 4 ≤ k := by subst hM; exact dec_iff.1 h
          clear h
          rw [if_pos hk4] at hsp
          have hcl : (M.cut (M.set b' pl (M.bit .xor .u8 (M.get b' pl 0) (M.shl .u8 1 (M.wrap .u64 q8)))) 0 124).length ≤ 124 := by
            subst hM
            show (List.take _ _).length ≤ 124
            rw [List.length_take]
            exact Nat.min_le_left _ _
          refine ⟨by subst hM; show (0 : Int) ≤ 124; omega, by subst hM; show (124 : Int) ≤ ((b'.set (pl).toNat (real.bit .xor .u8 (b'.getD (pl).toNat 0) (real.shl .u8 1 (wrap .u64 q8)))).length : Int); have : (b'.set (pl).toNat (real.bit .xor .u8 (b'.getD (pl).toNat 0) (real.shl .u8 1 (wrap .u64 q8)))).length = 128 := hnl; omega, fun _ => hcl, ?_⟩
          rintro ⟨(y : List Int), ⟨⟩⟩ x40 (hy : y = sealB (M.cut (M.set b' pl (M.bit .xor .u8 (M.get b' pl 0) (M.shl .u8 1 (M.wrap .u64 q8)))) 0 124)) - -
          cbv
          rintro - s hs
          cases hs
          show y = spoilV (b0, p0, st0, unit) b'
          rw [hsp, hy]
          subst hM
          rfl
        · have hk4 : ¬ 4 ≤ k := by
            subst hM
            intro hh
            exact absurd ((show real.dec (real.le 4 k) = true from dec_iff.2 hh).symm.trans h) (by decide)
          rw [if_neg hk4] at hsp
          rintro - s hs
          cases hs
          exact hsp.symm
    · have hz2 : ¬ z2 = 0 := by
        subst hM
        intro hh
        exact absurd ((show real.dec (real.eq z2 0) = true from dec_iff.2 hh).symm.trans h) (by decide)
      clear h
      refine ⟨fun _ => ⟨_, rfl, hs4⟩, ?_⟩
      rintro ⟨(q26 : Int), ⟨⟩⟩ ⟨z5, zz5, ⟨⟩⟩ hpost - -
      obtain ⟨⟨b5, p5, st5, ⟨⟩⟩, hz5, E5, hs5, hr5⟩ := hpost _ rfl
      have hz5 : z5 = some (b5, p5, st5, unit) := hz5
      subst hz5
      clear hpost hz5
      have E5 : nextV (b4, p4, st4, unit) 26 = (q26, (b5, p5, st5, unit)) := E5
      have hr5 : 0 ≤ q26 ∧ q26 < 26 := hr5 (show (0 : Int) < 26 by decide)
      cbv
      repeat (first | (refine And.intro (by subst hM; exact hb0) ?_) | (refine And.intro (by subst hM; exact hb1) ?_))
      have hturn : turnV (pl, (b3, p3, st3, unit)) b' = M.set b' pl (M.wrap .u8 q26) := by
        unfold turnV
        rw [E4]
        show (if z2 = 0 then _ else b'.set (pl).toNat (wrap .u8 (nextV (b4, p4, st4, unit) 26).1)) = _
        rw [if_neg hz2, E5]
        subst hM
        rfl
      have hnl : (M.set b' pl (M.wrap .u8 q26)).length = 128 := by
        subst hM
        show (b'.set (pl).toNat (wrap .u8 q26)).length = 128
        simp [hl]
      have hsp : spoilV (b0, p0, st0, unit) b' = if 4 ≤ k then sealB ((M.set b' pl (M.wrap .u8 q26)).take 124) else M.set b' pl (M.wrap .u8 q26) := by
        unfold spoilV
        rw [E1]
        show (if k = 0 then _ else if k = 1 then _ else if 4 ≤ k then sealB ((turnV (placeV (b1, p1, st1, unit)) b').take 124) else turnV (placeV (b1, p1, st1, unit)) b') = _
        rw [if_neg hk0, if_neg hk1, hplace, hturn]
      refine splM (fun h => ?_) (fun h => ?_) <;> cbv
      · have hk4 : 4 ≤ k := by subst hM; exact dec_iff.1 h
        clear h
        rw [if_pos hk4] at hsp
        have hcl : (M.cut (M.set b' pl (M.wrap .u8 q26)) 0 124).length ≤ 124 := by
          subst hM
          show (List.take _ _).length ≤ 124
          rw [List.length_take]
          exact Nat.min_le_left _ _
        refine ⟨by subst hM; show (0 : Int) ≤ 124; omega, by subst hM; show (124 : Int) ≤ ((b'.set (pl).toNat (wrap .u8 q26)).length : Int); have : (b'.set (pl).toNat (wrap .u8 q26)).length = 128 := hnl; omega, fun _ => hcl, ?_⟩
        rintro ⟨(y : List Int), ⟨⟩⟩ x40 (hy : y = sealB (M.cut (M.set b' pl (M.wrap .u8 q26)) 0 124)) - -
        cbv
        rintro - s hs
        cases hs
        show y = spoilV (b0, p0, st0, unit) b'
        rw [hsp, hy]
        subst hM
        rfl
      · have hk4 : ¬ 4 ≤ k := by
          subst hM
          intro hh
          exact absurd ((show real.dec (real.le 4 k) = true from dec_iff.2 hh).symm.trans h) (by decide)
        rw [if_neg hk4] at hsp
        rintro - s hs
        cases hs
        exact hsp.symm
end Go.Proofs.YtmjeghlfmhbjdaaDoor.EngTab
