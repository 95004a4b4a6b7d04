/- The draws: tables. -/
import Derived.Test.YtmjeghlfmhbjdaaDoorOX
import Derived.Test.YtmjeghlfmhbjdaaDoorDC
import Derived.Test.YtmjeghlfmhbjdaaDoorT2
namespace Go.Proofs.YtmjeghlfmhbjdaaDoor.EngTab
open Go.Proofs.YtmjeghlfmhbjdaaDoor.Eng
open PUnit (unit)
open IntKind (wrap)
set_option maxRecDepth 100000
set_option linter.unusedVariables false
set_option linter.unusedSimpArgs false
noncomputable def cnt0 (c : Int × SrcD) : Int × SrcD :=
 if (nextV c.2 15).1 = 0 then (wrap .i64 (65535 - (nextV (nextV c.2 15).2 2).1), (nextV (nextV c.2 15).2 2).2) else (wrap .i64 (1 + c.1), (nextV c.2 15).2)
def lastR (rs : List RunD) : RunD := rs.getD (wrap .i64 ((rs.length : Int) - 1)).toNat (0, 0, 0, ())
noncomputable def cnt1 (a : Int) (rs : List RunD) (x : Int) : Int := if 0 < rs.length ∧ wrap .i64 ((lastR rs).1 + (lastR rs).2.1) = a ∧ (lastR rs).2.2.1 = x then wrap .i64 (1 + Int.tmod x 7) else x
noncomputable def runsV : Nat → Int → SrcD → List RunD → List RunD × SrcD
 | 0, _, s, rs => (rs, s)
 | n + 1, a, s, rs =>
  if 512 < wrap .i64 (a + wrap .i64 (1 + (nextV s 6).1)) then (rs, (cnt0 (nextV (nextV s 6).2 3)).2)
  else runsV n (wrap .i64 (wrap .i64 (a + wrap .i64 (1 + (nextV s 6).1)) + (nextV (cnt0 (nextV (nextV s 6).2 3)).2 4).1)) (nextV (cnt0 (nextV (nextV s 6).2 3)).2 4).2
   (rs ++ [(a, wrap .i64 (1 + (nextV s 6).1), cnt1 a rs (cnt0 (nextV (nextV s 6).2 3)).1, ())])
theorem runsV_stop {n : Nat} {a l c x : Int} {s s1 s2 s3 : SrcD} {rs : List RunD} (e1 : nextV s 6 = (l, s1)) (e2 : nextV s1 3 = (c, s2)) (e3 : cnt0 (c, s2) = (x, s3)) (h : 512 < wrap .i64 (a + wrap .i64 (1 + l))) : runsV (n + 1) a s rs = (rs, s3) := by
 conv => lhs; unfold runsV
 rw [e1]
 show (if 512 < wrap .i64 (a + wrap .i64 (1 + l)) then (rs, (cnt0 (nextV s1 3)).2) else _) = _
 rw [if_pos h, e2, e3]
theorem runsV_go {n : Nat} {a l c x q : Int} {s s1 s2 s3 s4 : SrcD} {rs : List RunD} (e1 : nextV s 6 = (l, s1)) (e2 : nextV s1 3 = (c, s2)) (e3 : cnt0 (c, s2) = (x, s3)) (e4 : nextV s3 4 = (q, s4)) (h : ¬ 512 < wrap .i64 (a + wrap .i64 (1 + l))) :
  runsV (n + 1) a s rs = runsV n (wrap .i64 (wrap .i64 (a + wrap .i64 (1 + l)) + q)) s4 (rs ++ [(a, wrap .i64 (1 + l), cnt1 a rs x, ())]) := by
 conv => lhs; unfold runsV
 rw [e1]
 show (if 512 < wrap .i64 (a + wrap .i64 (1 + l)) then _ else runsV n (wrap .i64 (wrap .i64 (a + wrap .i64 (1 + l)) + (nextV (cnt0 (nextV s1 3)).2 4).1)) (nextV (cnt0 (nextV s1 3)).2 4).2 (rs ++ [(a, wrap .i64 (1 + l), cnt1 a rs (cnt0 (nextV s1 3)).1, ())])) = _
 rw [if_neg h, e2, e3]
 show runsV n (wrap .i64 (wrap .i64 (a + wrap .i64 (1 + l)) + (nextV s3 4).1)) (nextV s3 4).2 _ = _
 rw [e4]
theorem lastR_eq {rs : List RunD} (h : rs.length ≤ 1048576) : lastR rs = runAt rs (rs.length - 1) := by
 unfold lastR runAt
 rcases Nat.eq_zero_or_pos rs.length with h0 | h0
 ·rw [List.length_eq_zero_iff.1 h0]; rfl
 ·rw [w64 (by omega), show ((rs.length : Int) - 1).toNat = rs.length - 1 by omega]
def GoodR (a : Int) (rs : List RunD) : Prop := ordR rs ∧ (0 < rs.length → (runAt rs (rs.length - 1)).1 + (runAt rs (rs.length - 1)).2.1 ≤ a)
theorem runAt_app {rs : List RunD} {r : RunD} {i : Nat} (h : i < rs.length) : runAt (rs ++ [r]) i = runAt rs i := by
 unfold runAt
 simp [List.getD, List.getElem?_append_left h]
theorem runAt_end {rs : List RunD} {r : RunD} : runAt (rs ++ [r]) rs.length = r := by
 unfold runAt
 simp [List.getD]
theorem good_run {a l x q : Int} {rs : List RunD} (hg : GoodR a rs) (hn : rs.length ≤ 1048576) (h1 : 2 ≤ a ∧ a ≤ 515) (h2 : 0 ≤ l ∧ l < 6) (h3 : ¬ 512 < wrap .i64 (a + wrap .i64 (1 + l))) (hx : 1 ≤ x ∧ x ≤ 3 ∨ 65534 ≤ x ∧ x ≤ 65535) (hq : 0 ≤ q ∧ q < 4) :
  GoodR (wrap .i64 (wrap .i64 (a + wrap .i64 (1 + l)) + q)) (rs ++ [(a, wrap .i64 (1 + l), cnt1 a rs x, ())]) ∧ 2 ≤ wrap .i64 (wrap .i64 (a + wrap .i64 (1 + l)) + q) ∧ wrap .i64 (wrap .i64 (a + wrap .i64 (1 + l)) + q) ≤ 515 := by
 rw [w64 (x := 1 + l) (by omega), w64 (x := a + (1 + l)) (by omega)] at h3
 rw [w64 (x := 1 + l) (by omega), w64 (x := a + (1 + l)) (by omega), w64 (by omega)]
 have hc : (1 ≤ cnt1 a rs x ∧ cnt1 a rs x ≤ 65535) ∧ (0 < rs.length → ¬ ((runAt rs (rs.length - 1)).1 + (runAt rs (rs.length - 1)).2.1 = a ∧ (runAt rs (rs.length - 1)).2.2.1 = cnt1 a rs x)) := by
  have hrun : 0 < rs.length → runOK (runAt rs (rs.length - 1)) := fun h0 => (hg.1 (rs.length - 1) (by omega)).1
  have hm : 0 ≤ Int.tmod x 7 ∧ Int.tmod x 7 < 7 ∧ (Int.tmod x 7 = x % 7) := by rw [Int.tmod_eq_emod_of_nonneg (by omega)]; omega
  unfold cnt1
  rw [lastR_eq hn]
  split
  ·rename_i hy
   rw [w64 (x := 1 + Int.tmod x 7) (by omega)]
   refine ⟨by omega, fun h0 hh => ?_⟩
   have e1 := hh.2
   have e2 := hy.2.2
   omega
  ·rename_i hy
   refine ⟨by omega, fun h0 hh => hy ⟨h0, ?_, hh.2⟩⟩
   have hr := hrun h0
   unfold runOK at hr
   rw [w64 (by omega)]
   exact hh.1
 refine ⟨⟨fun i hi => ?_, fun _ => ?_⟩, by omega, by omega⟩
 ·simp only [List.length_append, List.length_cons, List.length_nil] at hi
  by_cases hl : i < rs.length
  ·have h4 := hg.1 i hl
   unfold okAt at h4 ⊢
   rw [runAt_app hl]
   refine ⟨h4.1, fun h0 => ?_⟩
   rw [runAt_app (by omega)]
   exact h4.2 h0
  ·obtain rfl : i = rs.length := by omega
   unfold okAt
   rw [runAt_end]
   refine ⟨?_, fun h0 => ?_⟩
   ·unfold runOK
    dsimp only
    omega
   ·rw [runAt_app (by omega)]
    have h5 := hg.2 h0
    have h6 := hc.2 h0
    unfold stepOK
    dsimp only
    omega
 ·simp only [List.length_append, List.length_cons, List.length_nil, Nat.add_sub_cancel]
  rw [runAt_end]
  dsimp only
  omega
noncomputable def drunsV (s : SrcD) : List RunD × SrcD := runsV (nextV (nextV s 5).2 21).1.toNat (wrap .i64 (2 + (nextV s 5).1)) (nextV (nextV s 5).2 21).2 []
def c52 : Con := Con.of ⟨[(true, 1, .ptr tySrc), (false, 0, .int .i64), (false, 0, .int .i64)], [(1, .sl tyRun)], fun x => (∃ s, x.1 = some s ∧ SrcOK s) ∧ x.2.1 = 20 ∧ x.2.2.1 = 512, fun x y x' => ∀ s, x.1 = some s → ∃ s' : SrcD, x'.1 = some s' ∧ drunsV s = (y.1, s') ∧ SrcOK s' ∧ ordR y.1 ∧ y.1.length ≤ 20⟩
set_option maxHeartbeats 16000000 in
theorem ok52 : FnOK Tryd.prog 52 c52 := by
 refine FnOK.of_vc mixed tabOk (.cons en26 ok26 .nil) Tryd.func52 rfl (by decide) lv52 hd52 ?_
 rintro ⟨(_ | ⟨(b0 : List Int), (p0 : Int), (st0 : Int), ⟨⟩⟩), (mx : Int), (top : Int), ⟨⟩⟩ ⟨hpre, (hmx : mx = 20), (htop : top = 512)⟩ hwf
 ·obtain ⟨s, e, _⟩ := hpre
  cases e
 have hs0 : SrcOK (b0, p0, st0, unit) := by
  obtain ⟨s, e, h⟩ := hpre
  cases e
  exact h
 clear hpre
 subst hmx
 subst htop
 generalize hM : real = M
 cbv
 refine ⟨fun _ => ⟨_, rfl, hs0⟩, ?_⟩
 rintro ⟨(a : Int), ⟨⟩⟩ ⟨z1, zz1, ⟨⟩⟩ hpost - -
 obtain ⟨⟨b1, p1, st1, ⟨⟩⟩, hz1, E1, hs1, hr1⟩ := hpost _ rfl
 have hz1 : z1 = some (b1, p1, st1, unit) := hz1
 subst hz1
 clear hpost hz1
 have E1 : nextV (b0, p0, st0, unit) 5 = (a, (b1, p1, st1, unit)) := E1
 have hr1 : 0 ≤ a ∧ a < 5 := hr1 (show (0 : Int) < 5 by decide)
 cbv
 have hnx : M.wrap .i64 (M.add 20 1) = 21 := by subst hM; show wrap .i64 (20 + 1) = 21; exact w64 (by omega)
 refine ⟨fun _ => ⟨_, rfl, hs1⟩, ?_⟩
 rintro ⟨(n : Int), ⟨⟩⟩ ⟨z2, zz2, ⟨⟩⟩ hpost - -
 obtain ⟨⟨b2, p2, st2, ⟨⟩⟩, hz2, E2, hs2, hr2⟩ := hpost _ rfl
 have hz2 : z2 = some (b2, p2, st2, unit) := hz2
 subst hz2
 clear hpost hz2
 have E2 : nextV (b1, p1, st1, unit) (21) = (n, (b2, p2, st2, unit)) := by rw [← hnx]; exact E2
 have hr2 : (0 : Int) < 21 → 0 ≤ n ∧ n < 21 := by rw [← hnx]; exact hr2
 cbv
 have hn := hr2 (by omega)
 have ha0 : M.wrap .i64 (M.add 2 a) = wrap .i64 (2 + a) := by subst hM; rfl
 have ha1 : wrap .i64 (2 + a) = 2 + a := w64 (by omega)
 refine ⟨fun m Γ => ∃ (i : Nat) (j v : Int) (rs : List RunD) (b9 : List Int) (p9 st9 : Int), j = i ∧ i ≤ n.toNat ∧ rs.length ≤ i ∧ SrcOK (b9, p9, st9, unit) ∧ (2 ≤ v ∧ v ≤ 515) ∧ GoodR v rs ∧ runsV (n.toNat - i) v (b9, p9, st9, unit) rs = runsV n.toNat (wrap .i64 (2 + a)) (b2, p2, st2, unit) [] ∧ m = n.toNat - i ∧ Γ = ⟨99, [(0, .ad 0 tySrc 0 []), (2, .pv [] (.int .i64) 512), (7, .ref 1), (8, .pv [] (.int .i64) v), (9, .pv [] (.int .i64) n), (10, .pv [] (.int .i64) j)], [(0, .box (.consA (.pv [] tyB b9) (.consA (.pv [] (.int .i64) p9) (.consA (.pv [] (.int .u64) st9) .nilA)))), (1, .row 0 tyRun rs)], [.ad 0 tySrc 0 [], .hole 0, .hole 0]⟩, ⟨_, 0, 0, M.wrap .i64 (M.add 2 a), [], b2, p2, st2, rfl, Nat.zero_le _, Nat.le_refl _, hs2, (by rw [ha0, ha1]; omega), ⟨fun i hi => absurd hi (Nat.not_lt_zero i), fun h => absurd h (Nat.not_lt_zero 0)⟩, (by rw [ha0]; rfl), rfl, rfl⟩, ?_⟩
 rintro m _ ⟨i, j, v, rs, b9, p9, st9, hj, hi, hrl, hs9, hv, hg, ht, rfl, rfl⟩ -
 cbv
 refine splM (fun h9 => ?_) (fun h9 => ?_) <;> cbv
 ·have hin : i < n.toNat := by
   have : j < n := by subst hM; exact dec_iff.1 h9
   (try simp only [jqn] at hj); (try simp only [jqi] at hj)
   omega
  clear h9
  have hlt : n.toNat - (i + 1) < n.toNat - i := by omega
  refine ⟨fun _ => ⟨_, rfl, hs9⟩, ?_⟩
  rintro ⟨(l : Int), ⟨⟩⟩ ⟨z10, zz10, ⟨⟩⟩ hpost - -
  obtain ⟨⟨b10, p10, st10, ⟨⟩⟩, hz10, E10, hs10, hr10⟩ := hpost _ rfl
  have hz10 : z10 = some (b10, p10, st10, unit) := hz10
  subst hz10
  clear hpost hz10
  have E10 : nextV (b9, p9, st9, unit) 6 = (l, (b10, p10, st10, unit)) := E10
  have hr10 : 0 ≤ l ∧ l < 6 := hr10 (show (0 : Int) < 6 by decide)
  cbv
  refine ⟨fun _ => ⟨_, rfl, hs10⟩, ?_⟩
  rintro ⟨(c : Int), ⟨⟩⟩ ⟨z11, zz11, ⟨⟩⟩ hpost - -
  obtain ⟨⟨b11, p11, st11, ⟨⟩⟩, hz11, E11, hs11, hr11⟩ := hpost _ rfl
  have hz11 : z11 = some (b11, p11, st11, unit) := hz11
  subst hz11
  clear hpost hz11
  have E11 : nextV (b10, p10, st10, unit) 3 = (c, (b11, p11, st11, unit)) := E11
  have hr11 : 0 ≤ c ∧ c < 3 := hr11 (show (0 : Int) < 3 by decide)
  cbv
  refine ⟨fun _ => ⟨_, rfl, hs11⟩, ?_⟩
  rintro ⟨(z : Int), ⟨⟩⟩ ⟨z12, zz12, ⟨⟩⟩ hpost - -
  obtain ⟨⟨b12, p12, st12, ⟨⟩⟩, hz12, E12, hs12, hr12⟩ := hpost _ rfl
  have hz12 : z12 = some (b12, p12, st12, unit) := hz12
  subst hz12
  clear hpost hz12
  have E12 : nextV (b11, p11, st11, unit) 15 = (z, (b12, p12, st12, unit)) := E12
  have hr12 : 0 ≤ z ∧ z < 15 := hr12 (show (0 : Int) < 15 by decide)
  cbv
  refine splM (fun h => ?_) (fun h => ?_) <;> cbv
  ·have hz : z = 0 := by subst hM; exact dec_iff.1 h
   clear h
   refine ⟨fun _ => ⟨_, rfl, hs12⟩, ?_⟩
   rintro ⟨(w : Int), ⟨⟩⟩ ⟨z13, zz13, ⟨⟩⟩ hpost - -
   obtain ⟨⟨b13, p13, st13, ⟨⟩⟩, hz13, E13, hs13, hr13⟩ := hpost _ rfl
   have hz13 : z13 = some (b13, p13, st13, unit) := hz13
   subst hz13
   clear hpost hz13
   have E13 : nextV (b12, p12, st12, unit) 2 = (w, (b13, p13, st13, unit)) := E13
   have hr13 : 0 ≤ w ∧ w < 2 := hr13 (show (0 : Int) < 2 by decide)
   cbv
   have hcnt : cnt0 (c, (b11, p11, st11, unit)) = (wrap .i64 (65535 - w), (b13, p13, st13, unit)) := by
    unfold cnt0
    show (if (nextV (b11, p11, st11, unit) 15).1 = 0 then (wrap .i64 (65535 - (nextV (nextV (b11, p11, st11, unit) 15).2 2).1), (nextV (nextV (b11, p11, st11, unit) 15).2 2).2) else _) = _
    rw [E12]
    show (if z = 0 then (wrap .i64 (65535 - (nextV (b12, p12, st12, unit) 2).1), (nextV (b12, p12, st12, unit) 2).2) else _) = _
    rw [if_pos hz, E13]
   have hxr : 1 ≤ wrap .i64 (65535 - w) ∧ wrap .i64 (65535 - w) ≤ 3 ∨ 65534 ≤ wrap .i64 (65535 - w) ∧ wrap .i64 (65535 - w) ≤ 65535 := by rw [w64 (by omega)]; omega
   have hl0 : wrap .i64 ((rs.length : Int) - 1) = (rs.length : Int) - 1 := w64 (by omega)
   refine ⟨(fun _ => by first | exact drawRd rfl (by decide +kernel) | exact drawTail (by decide +kernel)), ?_⟩
   refine splM (fun h6 => ?_) (fun h6 => ?_) <;> cbv
   ·have hpos : 0 < rs.length := by
     have : ((0 : Nat) : Int) < (rs.length : Int) := by subst hM; exact dec_iff.1 h6
     exact Int.ofNat_lt.1 this
    clear h6
    have hb0 : 0 ≤ wrap .i64 ((rs.length : Int) - 1) := by rw [w64 (by omega)]; omega
    have hb1 : wrap .i64 ((rs.length : Int) - 1) < (rs.length : Int) := by rw [w64 (by omega)]; omega
    repeat (first | (refine And.intro (by subst hM; exact hb0) ?_) | (refine And.intro (by subst hM; exact hb1) ?_))
    refine splM (fun h6 => ?_) (fun h6 => ?_) <;> cbv
    ·have he1 : wrap .i64 ((lastR rs).1 + (lastR rs).2.1) = v := by subst hM; exact dec_iff.1 h6
     clear h6
     repeat (first | (refine And.intro (by subst hM; exact hb0) ?_) | (refine And.intro (by subst hM; exact hb1) ?_))
     refine splM (fun h6 => ?_) (fun h6 => ?_) <;> cbv
     ·have he2 : (lastR rs).2.2.1 = wrap .i64 (65535 - w) := by subst hM; exact dec_iff.1 h6
      clear h6
      have hc1 : cnt1 v rs (wrap .i64 (65535 - w)) = wrap .i64 (1 + Int.tmod (wrap .i64 (65535 - w)) 7) := by unfold cnt1; rw [if_pos ⟨hpos, he1, he2⟩]
      refine ⟨fun e => (by subst hM; exact absurd (show (7 : Int) = 0 from e) (by decide)), ?_⟩
      refine splM (fun h7 => ?_) (fun h7 => ?_) <;> cbv
      ·have hbig : 512 < wrap .i64 (v + wrap .i64 (1 + l)) := by subst hM; exact dec_iff.1 h7
       clear h7
       rintro - s hs
       cases hs
       have hent := ht.symm.trans ((congrArg (fun z => runsV z v (b9, p9, st9, unit) rs) (show n.toNat - i = (n.toNat - (i + 1)) + 1 by omega)).trans (runsV_stop E10 E11 hcnt hbig))
       refine ⟨(b13, p13, st13, unit), rfl, ?_, hs13, hg.1, (by show rs.length ≤ 20; omega)⟩
       show drunsV (b0, p0, st0, unit) = (rs, (b13, p13, st13, unit))
       unfold drunsV
       rw [E1]
       show runsV (nextV (b1, p1, st1, unit) 21).1.toNat (wrap .i64 (2 + a)) (nextV (b1, p1, st1, unit) 21).2 [] = _
       rw [E2]
       exact hent
      ·have hbig : ¬ 512 < wrap .i64 (v + wrap .i64 (1 + l)) := by
        subst hM
        intro hh
        exact absurd ((show real.dec (real.lt 512 (wrap .i64 (v + wrap .i64 (1 + l)))) = true from dec_iff.2 hh).symm.trans h7) (by decide)
       clear h7
       have hroom : rs.length + 1 ≤ 2 ^ 36 := by omega
       refine ⟨by subst hM; exact hroom, ?_⟩
       refine ⟨ox52_14, (fun _ => by kernel_rfl), ?_⟩
       cbv
       repeat' (first
        | exact True.intro
        | (refine And.intro ?_ True.intro)
        | (fail_if_success have := E14
           refine And.intro (fun _ => ⟨_, rfl, hs13⟩) ?_
           rintro ⟨(q : Int), ⟨⟩⟩ ⟨z14, zz14, ⟨⟩⟩ hpost - -
           obtain ⟨⟨b14, p14, st14, ⟨⟩⟩, hz14, E14, hs14, hr14⟩ := hpost _ rfl
           have hz14 : z14 = some (b14, p14, st14, unit) := hz14
           subst hz14
           clear hpost hz14
           have E14 : nextV (b13, p13, st13, unit) 4 = (q, (b14, p14, st14, unit)) := E14
           have hr14 : 0 ≤ q ∧ q < 4 := hr14 (by show (0 : Int) < 4; omega)
           cbv)
        | (refine And.intro ?_ ?_))
       all_goals
        have hgr := good_run (q := q) hg (by omega) hv hr10 hbig hxr hr14
        have hstep : runsV (n.toNat - (i + 1)) (wrap .i64 (wrap .i64 (v + wrap .i64 (1 + l)) + q)) (b14, p14, st14, unit) (rs ++ [(v, wrap .i64 (1 + l), cnt1 v rs (wrap .i64 (65535 - w)), ())]) = runsV n.toNat (wrap .i64 (2 + a)) (b2, p2, st2, unit) [] := by
         rw [← ht, show n.toNat - i = (n.toNat - (i + 1)) + 1 by omega]
         exact (runsV_go E10 E11 hcnt E14 hbig).symm
        rw [hc1] at hgr hstep
        have hlen : (rs ++ [(v, wrap .i64 (1 + l), wrap .i64 (1 + Int.tmod (wrap .i64 (65535 - w)) 7), ())]).length ≤ i + 1 := by simp; omega
        have hj1 : wrap .i64 (j + 1) = ((i + 1 : Nat) : Int) := by
         (try simp only [jqn] at hj); (try simp only [jqi] at hj)
         rw [hj, w64 (by omega)]; omega
        subst hM
        refine ⟨_, hlt, i + 1, _, _, _, b14, p14, st14, hj1, hin, hlen, hs14, hgr.2, hgr.1, hstep, rfl, rfl⟩
     ·have he2 : ¬ (lastR rs).2.2.1 = wrap .i64 (65535 - w) := by
       subst hM
       intro hh
       exact absurd ((show real.dec (real.eq (lastR rs).2.2.1 (wrap .i64 (65535 - w))) = true from dec_iff.2 hh).symm.trans h6) (by decide)
      clear h6
      have hc1 : cnt1 v rs (wrap .i64 (65535 - w)) = wrap .i64 (65535 - w) := by unfold cnt1; rw [if_neg (fun h => he2 h.2.2)]
      refine splM (fun h7 => ?_) (fun h7 => ?_) <;> cbv
      ·have hbig : 512 < wrap .i64 (v + wrap .i64 (1 + l)) := by subst hM; exact dec_iff.1 h7
       clear h7
       rintro - s hs
       cases hs
       have hent := ht.symm.trans ((congrArg (fun z => runsV z v (b9, p9, st9, unit) rs) (show n.toNat - i = (n.toNat - (i + 1)) + 1 by omega)).trans (runsV_stop E10 E11 hcnt hbig))
       refine ⟨(b13, p13, st13, unit), rfl, ?_, hs13, hg.1, (by show rs.length ≤ 20; omega)⟩
       show drunsV (b0, p0, st0, unit) = (rs, (b13, p13, st13, unit))
       unfold drunsV
       rw [E1]
       show runsV (nextV (b1, p1, st1, unit) 21).1.toNat (wrap .i64 (2 + a)) (nextV (b1, p1, st1, unit) 21).2 [] = _
       rw [E2]
       exact hent
      ·have hbig : ¬ 512 < wrap .i64 (v + wrap .i64 (1 + l)) := by
        subst hM
        intro hh
        exact absurd ((show real.dec (real.lt 512 (wrap .i64 (v + wrap .i64 (1 + l)))) = true from dec_iff.2 hh).symm.trans h7) (by decide)
       clear h7
       have hroom : rs.length + 1 ≤ 2 ^ 36 := by omega
       refine ⟨by subst hM; exact hroom, ?_⟩
       refine ⟨ox52_14, (fun _ => by kernel_rfl), ?_⟩
       cbv
       repeat' (first
        | exact True.intro
        | (refine And.intro ?_ True.intro)
        | (fail_if_success have := E14
           refine And.intro (fun _ => ⟨_, rfl, hs13⟩) ?_
           rintro ⟨(q : Int), ⟨⟩⟩ ⟨z14, zz14, ⟨⟩⟩ hpost - -
           obtain ⟨⟨b14, p14, st14, ⟨⟩⟩, hz14, E14, hs14, hr14⟩ := hpost _ rfl
           have hz14 : z14 = some (b14, p14, st14, unit) := hz14
           subst hz14
           clear hpost hz14
           have E14 : nextV (b13, p13, st13, unit) 4 = (q, (b14, p14, st14, unit)) := E14
           have hr14 : 0 ≤ q ∧ q < 4 := hr14 (by show (0 : Int) < 4; omega)
           cbv)
        | (refine And.intro ?_ ?_))
       all_goals
        have hgr := good_run (q := q) hg (by omega) hv hr10 hbig hxr hr14
        have hstep : runsV (n.toNat - (i + 1)) (wrap .i64 (wrap .i64 (v + wrap .i64 (1 + l)) + q)) (b14, p14, st14, unit) (rs ++ [(v, wrap .i64 (1 + l), cnt1 v rs (wrap .i64 (65535 - w)), ())]) = runsV n.toNat (wrap .i64 (2 + a)) (b2, p2, st2, unit) [] := by
         rw [← ht, show n.toNat - i = (n.toNat - (i + 1)) + 1 by omega]
         exact (runsV_go E10 E11 hcnt E14 hbig).symm
        rw [hc1] at hgr hstep
        have hlen : (rs ++ [(v, wrap .i64 (1 + l), wrap .i64 (65535 - w), ())]).length ≤ i + 1 := by simp; omega
        have hj1 : wrap .i64 (j + 1) = ((i + 1 : Nat) : Int) := by
         (try simp only [jqn] at hj); (try simp only [jqi] at hj)
         rw [hj, w64 (by omega)]; omega
        subst hM
        refine ⟨_, hlt, i + 1, _, _, _, b14, p14, st14, hj1, hin, hlen, hs14, hgr.2, hgr.1, hstep, rfl, rfl⟩
    ·have he1 : ¬ wrap .i64 ((lastR rs).1 + (lastR rs).2.1) = v := by
      subst hM
      intro hh
      exact absurd ((show real.dec (real.eq (wrap .i64 ((lastR rs).1 + (lastR rs).2.1)) v) = true from dec_iff.2 hh).symm.trans h6) (by decide)
     clear h6
     have hc1 : cnt1 v rs (wrap .i64 (65535 - w)) = wrap .i64 (65535 - w) := by unfold cnt1; rw [if_neg (fun h => he1 h.2.1)]
     refine splM (fun h7 => ?_) (fun h7 => ?_) <;> cbv
     ·have hbig : 512 < wrap .i64 (v + wrap .i64 (1 + l)) := by subst hM; exact dec_iff.1 h7
      clear h7
      rintro - s hs
      cases hs
      have hent := ht.symm.trans ((congrArg (fun z => runsV z v (b9, p9, st9, unit) rs) (show n.toNat - i = (n.toNat - (i + 1)) + 1 by omega)).trans (runsV_stop E10 E11 hcnt hbig))
      refine ⟨(b13, p13, st13, unit), rfl, ?_, hs13, hg.1, (by show rs.length ≤ 20; omega)⟩
      show drunsV (b0, p0, st0, unit) = (rs, (b13, p13, st13, unit))
      unfold drunsV
      rw [E1]
      show runsV (nextV (b1, p1, st1, unit) 21).1.toNat (wrap .i64 (2 + a)) (nextV (b1, p1, st1, unit) 21).2 [] = _
      rw [E2]
      exact hent
     ·have hbig : ¬ 512 < wrap .i64 (v + wrap .i64 (1 + l)) := by
       subst hM
       intro hh
       exact absurd ((show real.dec (real.lt 512 (wrap .i64 (v + wrap .i64 (1 + l)))) = true from dec_iff.2 hh).symm.trans h7) (by decide)
      clear h7
      have hroom : rs.length + 1 ≤ 2 ^ 36 := by omega
      refine ⟨by subst hM; exact hroom, ?_⟩
      refine ⟨ox52_14, (fun _ => by kernel_rfl), ?_⟩
      cbv
      repeat' (first
       | exact True.intro
       | (refine And.intro ?_ True.intro)
       | (fail_if_success have := E14
          refine And.intro (fun _ => ⟨_, rfl, hs13⟩) ?_
          rintro ⟨(q : Int), ⟨⟩⟩ ⟨z14, zz14, ⟨⟩⟩ hpost - -
          obtain ⟨⟨b14, p14, st14, ⟨⟩⟩, hz14, E14, hs14, hr14⟩ := hpost _ rfl
          have hz14 : z14 = some (b14, p14, st14, unit) := hz14
          subst hz14
          clear hpost hz14
          have E14 : nextV (b13, p13, st13, unit) 4 = (q, (b14, p14, st14, unit)) := E14
          have hr14 : 0 ≤ q ∧ q < 4 := hr14 (by show (0 : Int) < 4; omega)
          cbv)
       | (refine And.intro ?_ ?_))
      all_goals
       have hgr := good_run (q := q) hg (by omega) hv hr10 hbig hxr hr14
       have hstep : runsV (n.toNat - (i + 1)) (wrap .i64 (wrap .i64 (v + wrap .i64 (1 + l)) + q)) (b14, p14, st14, unit) (rs ++ [(v, wrap .i64 (1 + l), cnt1 v rs (wrap .i64 (65535 - w)), ())]) = runsV n.toNat (wrap .i64 (2 + a)) (b2, p2, st2, unit) [] := by
        rw [← ht, show n.toNat - i = (n.toNat - (i + 1)) + 1 by omega]
        exact (runsV_go E10 E11 hcnt E14 hbig).symm
       rw [hc1] at hgr hstep
       have hlen : (rs ++ [(v, wrap .i64 (1 + l), wrap .i64 (65535 - w), ())]).length ≤ i + 1 := by simp; omega
       have hj1 : wrap .i64 (j + 1) = ((i + 1 : Nat) : Int) := by
        (try simp only [jqn] at hj); (try simp only [jqi] at hj)
        rw [hj, w64 (by omega)]; omega
       subst hM
       refine ⟨_, hlt, i + 1, _, _, _, b14, p14, st14, hj1, hin, hlen, hs14, hgr.2, hgr.1, hstep, rfl, rfl⟩
   ·have hpos : ¬ 0 < rs.length := by
     subst hM
     intro hh
     exact absurd ((show real.dec (real.lt 0 (rs.length : Int)) = true from dec_iff.2 (Int.ofNat_lt.2 hh)).symm.trans h6) (by decide)
    clear h6
    have hc1 : cnt1 v rs (wrap .i64 (65535 - w)) = wrap .i64 (65535 - w) := by unfold cnt1; rw [if_neg (fun h => hpos h.1)]
    refine splM (fun h7 => ?_) (fun h7 => ?_) <;> cbv
    ·have hbig : 512 < wrap .i64 (v + wrap .i64 (1 + l)) := by subst hM; exact dec_iff.1 h7
     clear h7
     rintro - s hs
     cases hs
     have hent := ht.symm.trans ((congrArg (fun z => runsV z v (b9, p9, st9, unit) rs) (show n.toNat - i = (n.toNat - (i + 1)) + 1 by omega)).trans (runsV_stop E10 E11 hcnt hbig))
     refine ⟨(b13, p13, st13, unit), rfl, ?_, hs13, hg.1, (by show rs.length ≤ 20; omega)⟩
     show drunsV (b0, p0, st0, unit) = (rs, (b13, p13, st13, unit))
     unfold drunsV
     rw [E1]
     show runsV (nextV (b1, p1, st1, unit) 21).1.toNat (wrap .i64 (2 + a)) (nextV (b1, p1, st1, unit) 21).2 [] = _
     rw [E2]
     exact hent
    ·have hbig : ¬ 512 < wrap .i64 (v + wrap .i64 (1 + l)) := by
      subst hM
      intro hh
      exact absurd ((show real.dec (real.lt 512 (wrap .i64 (v + wrap .i64 (1 + l)))) = true from dec_iff.2 hh).symm.trans h7) (by decide)
     clear h7
     have hroom : rs.length + 1 ≤ 2 ^ 36 := by omega
     refine ⟨by subst hM; exact hroom, ?_⟩
     refine ⟨ox52_14, (fun _ => by kernel_rfl), ?_⟩
     cbv
     repeat' (first
      | exact True.intro
      | (refine And.intro ?_ True.intro)
      | (fail_if_success have := E14
         refine And.intro (fun _ => ⟨_, rfl, hs13⟩) ?_
         rintro ⟨(q : Int), ⟨⟩⟩ ⟨z14, zz14, ⟨⟩⟩ hpost - -
         obtain ⟨⟨b14, p14, st14, ⟨⟩⟩, hz14, E14, hs14, hr14⟩ := hpost _ rfl
         have hz14 : z14 = some (b14, p14, st14, unit) := hz14
         subst hz14
         clear hpost hz14
         have E14 : nextV (b13, p13, st13, unit) 4 = (q, (b14, p14, st14, unit)) := E14
         have hr14 : 0 ≤ q ∧ q < 4 := hr14 (by show (0 : Int) < 4; omega)
         cbv)
      | (refine And.intro ?_ ?_))
     all_goals
      have hgr := good_run (q := q) hg (by omega) hv hr10 hbig hxr hr14
      have hstep : runsV (n.toNat - (i + 1)) (wrap .i64 (wrap .i64 (v + wrap .i64 (1 + l)) + q)) (b14, p14, st14, unit) (rs ++ [(v, wrap .i64 (1 + l), cnt1 v rs (wrap .i64 (65535 - w)), ())]) = runsV n.toNat (wrap .i64 (2 + a)) (b2, p2, st2, unit) [] := by
       rw [← ht, show n.toNat - i = (n.toNat - (i + 1)) + 1 by omega]
       exact (runsV_go E10 E11 hcnt E14 hbig).symm
      rw [hc1] at hgr hstep
      have hlen : (rs ++ [(v, wrap .i64 (1 + l), wrap .i64 (65535 - w), ())]).length ≤ i + 1 := by simp; omega
      have hj1 : wrap .i64 (j + 1) = ((i + 1 : Nat) : Int) := by
       (try simp only [jqn] at hj); (try simp only [jqi] at hj)
       rw [hj, w64 (by omega)]; omega
      subst hM
      refine ⟨_, hlt, i + 1, _, _, _, b14, p14, st14, hj1, hin, hlen, hs14, hgr.2, hgr.1, hstep, rfl, rfl⟩
  ·have hz : ¬ z = 0 := by
    subst hM
    intro hh
    exact absurd ((show real.dec (real.eq z 0) = true from dec_iff.2 hh).symm.trans h) (by decide)
   clear h
   have hcnt : cnt0 (c, (b11, p11, st11, unit)) = (wrap .i64 (1 + c), (b12, p12, st12, unit)) := by
    unfold cnt0
    show (if (nextV (b11, p11, st11, unit) 15).1 = 0 then _ else (wrap .i64 (1 + c), (nextV (b11, p11, st11, unit) 15).2)) = _
    rw [E12]
    show (if z = 0 then _ else (wrap .i64 (1 + c), (b12, p12, st12, unit))) = _
    rw [if_neg hz]
   have hxr : 1 ≤ wrap .i64 (1 + c) ∧ wrap .i64 (1 + c) ≤ 3 ∨ 65534 ≤ wrap .i64 (1 + c) ∧ wrap .i64 (1 + c) ≤ 65535 := by rw [w64 (by omega)]; omega
   have hl0 : wrap .i64 ((rs.length : Int) - 1) = (rs.length : Int) - 1 := w64 (by omega)
   refine ⟨(fun _ => by first | exact drawRd rfl (by decide +kernel) | exact drawTail (by decide +kernel)), ?_⟩
   refine splM (fun h6 => ?_) (fun h6 => ?_) <;> cbv
   ·have hpos : 0 < rs.length := by
     have : ((0 : Nat) : Int) < (rs.length : Int) := by subst hM; exact dec_iff.1 h6
     exact Int.ofNat_lt.1 this
    clear h6
    have hb0 : 0 ≤ wrap .i64 ((rs.length : Int) - 1) := by rw [w64 (by omega)]; omega
    have hb1 : wrap .i64 ((rs.length : Int) - 1) < (rs.length : Int) := by rw [w64 (by omega)]; omega
    repeat (first | (refine And.intro (by subst hM; exact hb0) ?_) | (refine And.intro (by subst hM; exact hb1) ?_))
    refine splM (fun h6 => ?_) (fun h6 => ?_) <;> cbv
    ·have he1 : wrap .i64 ((lastR rs).1 + (lastR rs).2.1) = v := by subst hM; exact dec_iff.1 h6
     clear h6
     repeat (first | (refine And.intro (by subst hM; exact hb0) ?_) | (refine And.intro (by subst hM; exact hb1) ?_))
     refine splM (fun h6 => ?_) (fun h6 => ?_) <;> cbv
     ·have he2 : (lastR rs).2.2.1 = wrap .i64 (1 + c) := by subst hM; exact dec_iff.1 h6
      clear h6
      have hc1 : cnt1 v rs (wrap .i64 (1 + c)) = wrap .i64 (1 + Int.tmod (wrap .i64 (1 + c)) 7) := by unfold cnt1; rw [if_pos ⟨hpos, he1, he2⟩]
      refine ⟨fun e => (by subst hM; exact absurd (show (7 : Int) = 0 from e) (by decide)), ?_⟩
      refine splM (fun h7 => ?_) (fun h7 => ?_) <;> cbv
      ·have hbig : 512 < wrap .i64 (v + wrap .i64 (1 + l)) := by subst hM; exact dec_iff.1 h7
       clear h7
       rintro - s hs
       cases hs
       have hent := ht.symm.trans ((congrArg (fun z => runsV z v (b9, p9, st9, unit) rs) (show n.toNat - i = (n.toNat - (i + 1)) + 1 by omega)).trans (runsV_stop E10 E11 hcnt hbig))
       refine ⟨(b12, p12, st12, unit), rfl, ?_, hs12, hg.1, (by show rs.length ≤ 20; omega)⟩
       show drunsV (b0, p0, st0, unit) = (rs, (b12, p12, st12, unit))
       unfold drunsV
       rw [E1]
       show runsV (nextV (b1, p1, st1, unit) 21).1.toNat (wrap .i64 (2 + a)) (nextV (b1, p1, st1, unit) 21).2 [] = _
       rw [E2]
       exact hent
      ·have hbig : ¬ 512 < wrap .i64 (v + wrap .i64 (1 + l)) := by
        subst hM
        intro hh
        exact absurd ((show real.dec (real.lt 512 (wrap .i64 (v + wrap .i64 (1 + l)))) = true from dec_iff.2 hh).symm.trans h7) (by decide)
       clear h7
       have hroom : rs.length + 1 ≤ 2 ^ 36 := by omega
       refine ⟨by subst hM; exact hroom, ?_⟩
       refine ⟨ox52_14, (fun _ => by kernel_rfl), ?_⟩
       cbv
       repeat' (first
        | exact True.intro
        | (refine And.intro ?_ True.intro)
        | (fail_if_success have := E13
           refine And.intro (fun _ => ⟨_, rfl, hs12⟩) ?_
           rintro ⟨(q : Int), ⟨⟩⟩ ⟨z13, zz13, ⟨⟩⟩ hpost - -
           obtain ⟨⟨b13, p13, st13, ⟨⟩⟩, hz13, E13, hs13, hr13⟩ := hpost _ rfl
           have hz13 : z13 = some (b13, p13, st13, unit) := hz13
           subst hz13
           clear hpost hz13
           have E13 : nextV (b12, p12, st12, unit) 4 = (q, (b13, p13, st13, unit)) := E13
           have hr13 : 0 ≤ q ∧ q < 4 := hr13 (by show (0 : Int) < 4; omega)
           cbv)
        | (refine And.intro ?_ ?_))
       all_goals
        have hgr := good_run (q := q) hg (by omega) hv hr10 hbig hxr hr13
        have hstep : runsV (n.toNat - (i + 1)) (wrap .i64 (wrap .i64 (v + wrap .i64 (1 + l)) + q)) (b13, p13, st13, unit) (rs ++ [(v, wrap .i64 (1 + l), cnt1 v rs (wrap .i64 (1 + c)), ())]) = runsV n.toNat (wrap .i64 (2 + a)) (b2, p2, st2, unit) [] := by
         rw [← ht, show n.toNat - i = (n.toNat - (i + 1)) + 1 by omega]
         exact (runsV_go E10 E11 hcnt E13 hbig).symm
        rw [hc1] at hgr hstep
        have hlen : (rs ++ [(v, wrap .i64 (1 + l), wrap .i64 (1 + Int.tmod (wrap .i64 (1 + c)) 7), ())]).length ≤ i + 1 := by simp; omega
        have hj1 : wrap .i64 (j + 1) = ((i + 1 : Nat) : Int) := by
         (try simp only [jqn] at hj); (try simp only [jqi] at hj)
         rw [hj, w64 (by omega)]; omega
        subst hM
        refine ⟨_, hlt, i + 1, _, _, _, b13, p13, st13, hj1, hin, hlen, hs13, hgr.2, hgr.1, hstep, rfl, rfl⟩
     ·have he2 : ¬ (lastR rs).2.2.1 = wrap .i64 (1 + c) := by
       subst hM
       intro hh
       exact absurd ((show real.dec (real.eq (lastR rs).2.2.1 (wrap .i64 (1 + c))) = true from dec_iff.2 hh).symm.trans h6) (by decide)
      clear h6
      have hc1 : cnt1 v rs (wrap .i64 (1 + c)) = wrap .i64 (1 + c) := by unfold cnt1; rw [if_neg (fun h => he2 h.2.2)]
      refine splM (fun h7 => ?_) (fun h7 => ?_) <;> cbv
      ·have hbig : 512 < wrap .i64 (v + wrap .i64 (1 + l)) := by subst hM; exact dec_iff.1 h7
       clear h7
       rintro - s hs
       cases hs
       have hent := ht.symm.trans ((congrArg (fun z => runsV z v (b9, p9, st9, unit) rs) (show n.toNat - i = (n.toNat - (i + 1)) + 1 by omega)).trans (runsV_stop E10 E11 hcnt hbig))
       refine ⟨(b12, p12, st12, unit), rfl, ?_, hs12, hg.1, (by show rs.length ≤ 20; omega)⟩
       show drunsV (b0, p0, st0, unit) = (rs, (b12, p12, st12, unit))
       unfold drunsV
       rw [E1]
       show runsV (nextV (b1, p1, st1, unit) 21).1.toNat (wrap .i64 (2 + a)) (nextV (b1, p1, st1, unit) 21).2 [] = _
       rw [E2]
       exact hent
      ·have hbig : ¬ 512 < wrap .i64 (v + wrap .i64 (1 + l)) := by
        subst hM
        intro hh
        exact absurd ((show real.dec (real.lt 512 (wrap .i64 (v + wrap .i64 (1 + l)))) = true from dec_iff.2 hh).symm.trans h7) (by decide)
       clear h7
       have hroom : rs.length + 1 ≤ 2 ^ 36 := by omega
       refine ⟨by subst hM; exact hroom, ?_⟩
       refine ⟨ox52_14, (fun _ => by kernel_rfl), ?_⟩
       cbv
       repeat' (first
        | exact True.intro
        | (refine And.intro ?_ True.intro)
        | (fail_if_success have := E13
           refine And.intro (fun _ => ⟨_, rfl, hs12⟩) ?_
           rintro ⟨(q : Int), ⟨⟩⟩ ⟨z13, zz13, ⟨⟩⟩ hpost - -
           obtain ⟨⟨b13, p13, st13, ⟨⟩⟩, hz13, E13, hs13, hr13⟩ := hpost _ rfl
           have hz13 : z13 = some (b13, p13, st13, unit) := hz13
           subst hz13
           clear hpost hz13
           have E13 : nextV (b12, p12, st12, unit) 4 = (q, (b13, p13, st13, unit)) := E13
           have hr13 : 0 ≤ q ∧ q < 4 := hr13 (by show (0 : Int) < 4; omega)
           cbv)
        | (refine And.intro ?_ ?_))
       all_goals
        have hgr := good_run (q := q) hg (by omega) hv hr10 hbig hxr hr13
        have hstep : runsV (n.toNat - (i + 1)) (wrap .i64 (wrap .i64 (v + wrap .i64 (1 + l)) + q)) (b13, p13, st13, unit) (rs ++ [(v, wrap .i64 (1 + l), cnt1 v rs (wrap .i64 (1 + c)), ())]) = runsV n.toNat (wrap .i64 (2 + a)) (b2, p2, st2, unit) [] := by
         rw [← ht, show n.toNat - i = (n.toNat - (i + 1)) + 1 by omega]
         exact (runsV_go E10 E11 hcnt E13 hbig).symm
        rw [hc1] at hgr hstep
        have hlen : (rs ++ [(v, wrap .i64 (1 + l), wrap .i64 (1 + c), ())]).length ≤ i + 1 := by simp; omega
        have hj1 : wrap .i64 (j + 1) = ((i + 1 : Nat) : Int) := by
         (try simp only [jqn] at hj); (try simp only [jqi] at hj)
         rw [hj, w64 (by omega)]; omega
        subst hM
        refine ⟨_, hlt, i + 1, _, _, _, b13, p13, st13, hj1, hin, hlen, hs13, hgr.2, hgr.1, hstep, rfl, rfl⟩
    ·have he1 : ¬ wrap .i64 ((lastR rs).1 + (lastR rs).2.1) = v := by
      subst hM
      intro hh
      exact absurd ((show real.dec (real.eq (wrap .i64 ((lastR rs).1 + (lastR rs).2.1)) v) = true from dec_iff.2 hh).symm.trans h6) (by decide)
     clear h6
     have hc1 : cnt1 v rs (wrap .i64 (1 + c)) = wrap .i64 (1 + c) := by unfold cnt1; rw [if_neg (fun h => he1 h.2.1)]
     refine splM (fun h7 => ?_) (fun h7 => ?_) <;> cbv
     ·have hbig : 512 < wrap .i64 (v + wrap .i64 (1 + l)) := by subst hM; exact dec_iff.1 h7
      clear h7
      rintro - s hs
      cases hs
      have hent := ht.symm.trans ((congrArg (fun z => runsV z v (b9, p9, st9, unit) rs) (show n.toNat - i = (n.toNat - (i + 1)) + 1 by omega)).trans (runsV_stop E10 E11 hcnt hbig))
      refine ⟨(b12, p12, st12, unit), rfl, ?_, hs12, hg.1, (by show rs.length ≤ 20; omega)⟩
      show drunsV (b0, p0, st0, unit) = (rs, (b12, p12, st12, unit))
      unfold drunsV
      rw [E1]
      show runsV (nextV (b1, p1, st1, unit) 21).1.toNat (wrap .i64 (2 + a)) (nextV (b1, p1, st1, unit) 21).2 [] = _
      rw [E2]
      exact hent
     ·have hbig : ¬ 512 < wrap .i64 (v + wrap .i64 (1 + l)) := by
       subst hM
       intro hh
       exact absurd ((show real.dec (real.lt 512 (wrap .i64 (v + wrap .i64 (1 + l)))) = true from dec_iff.2 hh).symm.trans h7) (by decide)
      clear h7
      have hroom : rs.length + 1 ≤ 2 ^ 36 := by omega
      refine ⟨by subst hM; exact hroom, ?_⟩
      refine ⟨ox52_14, (fun _ => by kernel_rfl), ?_⟩
      cbv
      repeat' (first
       | exact True.intro
       | (refine And.intro ?_ True.intro)
       | (fail_if_success have := E13
          refine And.intro (fun _ => ⟨_, rfl, hs12⟩) ?_
          rintro ⟨(q : Int), ⟨⟩⟩ ⟨z13, zz13, ⟨⟩⟩ hpost - -
          obtain ⟨⟨b13, p13, st13, ⟨⟩⟩, hz13, E13, hs13, hr13⟩ := hpost _ rfl
          have hz13 : z13 = some (b13, p13, st13, unit) := hz13
          subst hz13
          clear hpost hz13
          have E13 : nextV (b12, p12, st12, unit) 4 = (q, (b13, p13, st13, unit)) := E13
          have hr13 : 0 ≤ q ∧ q < 4 := hr13 (by show (0 : Int) < 4; omega)
          cbv)
       | (refine And.intro ?_ ?_))
      all_goals
       have hgr := good_run (q := q) hg (by omega) hv hr10 hbig hxr hr13
       have hstep : runsV (n.toNat - (i + 1)) (wrap .i64 (wrap .i64 (v + wrap .i64 (1 + l)) + q)) (b13, p13, st13, unit) (rs ++ [(v, wrap .i64 (1 + l), cnt1 v rs (wrap .i64 (1 + c)), ())]) = runsV n.toNat (wrap .i64 (2 + a)) (b2, p2, st2, unit) [] := by
        rw [← ht, show n.toNat - i = (n.toNat - (i + 1)) + 1 by omega]
        exact (runsV_go E10 E11 hcnt E13 hbig).symm
       rw [hc1] at hgr hstep
       have hlen : (rs ++ [(v, wrap .i64 (1 + l), wrap .i64 (1 + c), ())]).length ≤ i + 1 := by simp; omega
       have hj1 : wrap .i64 (j + 1) = ((i + 1 : Nat) : Int) := by
        (try simp only [jqn] at hj); (try simp only [jqi] at hj)
        rw [hj, w64 (by omega)]; omega
       subst hM
       refine ⟨_, hlt, i + 1, _, _, _, b13, p13, st13, hj1, hin, hlen, hs13, hgr.2, hgr.1, hstep, rfl, rfl⟩
   ·have hpos : ¬ 0 < rs.length := by
     subst hM
     intro hh
     exact absurd ((show real.dec (real.lt 0 (rs.length : Int)) = true from dec_iff.2 (Int.ofNat_lt.2 hh)).symm.trans h6) (by decide)
    clear h6
    have hc1 : cnt1 v rs (wrap .i64 (1 + c)) = wrap .i64 (1 + c) := by unfold cnt1; rw [if_neg (fun h => hpos h.1)]
    refine splM (fun h7 => ?_) (fun h7 => ?_) <;> cbv
    ·have hbig : 512 < wrap .i64 (v + wrap .i64 (1 + l)) := by subst hM; exact dec_iff.1 h7
     clear h7
     rintro - s hs
     cases hs
     have hent := ht.symm.trans ((congrArg (fun z => runsV z v (b9, p9, st9, unit) rs) (show n.toNat - i = (n.toNat - (i + 1)) + 1 by omega)).trans (runsV_stop E10 E11 hcnt hbig))
     refine ⟨(b12, p12, st12, unit), rfl, ?_, hs12, hg.1, (by show rs.length ≤ 20; omega)⟩
     show drunsV (b0, p0, st0, unit) = (rs, (b12, p12, st12, unit))
     unfold drunsV
     rw [E1]
     show runsV (nextV (b1, p1, st1, unit) 21).1.toNat (wrap .i64 (2 + a)) (nextV (b1, p1, st1, unit) 21).2 [] = _
     rw [E2]
     exact hent
    ·have hbig : ¬ 512 < wrap .i64 (v + wrap .i64 (1 + l)) := by
      subst hM
      intro hh
      exact absurd ((show real.dec (real.lt 512 (wrap .i64 (v + wrap .i64 (1 + l)))) = true from dec_iff.2 hh).symm.trans h7) (by decide)
     clear h7
     have hroom : rs.length + 1 ≤ 2 ^ 36 := by omega
     refine ⟨by subst hM; exact hroom, ?_⟩
     refine ⟨ox52_14, (fun _ => by kernel_rfl), ?_⟩
     cbv
     repeat' (first
      | exact True.intro
      | (refine And.intro ?_ True.intro)
      | (fail_if_success have := E13
         refine And.intro (fun _ => ⟨_, rfl, hs12⟩) ?_
         rintro ⟨(q : Int), ⟨⟩⟩ ⟨z13, zz13, ⟨⟩⟩ hpost - -
         obtain ⟨⟨b13, p13, st13, ⟨⟩⟩, hz13, E13, hs13, hr13⟩ := hpost _ rfl
         have hz13 : z13 = some (b13, p13, st13, unit) := hz13
         subst hz13
         clear hpost hz13
         have E13 : nextV (b12, p12, st12, unit) 4 = (q, (b13, p13, st13, unit)) := E13
         have hr13 : 0 ≤ q ∧ q < 4 := hr13 (by show (0 : Int) < 4; omega)
         cbv)
      | (refine And.intro ?_ ?_))
     all_goals
      have hgr := good_run (q := q) hg (by omega) hv hr10 hbig hxr hr13
      have hstep : runsV (n.toNat - (i + 1)) (wrap .i64 (wrap .i64 (v + wrap .i64 (1 + l)) + q)) (b13, p13, st13, unit) (rs ++ [(v, wrap .i64 (1 + l), cnt1 v rs (wrap .i64 (1 + c)), ())]) = runsV n.toNat (wrap .i64 (2 + a)) (b2, p2, st2, unit) [] := by
       rw [← ht, show n.toNat - i = (n.toNat - (i + 1)) + 1 by omega]
       exact (runsV_go E10 E11 hcnt E13 hbig).symm
      rw [hc1] at hgr hstep
      have hlen : (rs ++ [(v, wrap .i64 (1 + l), wrap .i64 (1 + c), ())]).length ≤ i + 1 := by simp; omega
      have hj1 : wrap .i64 (j + 1) = ((i + 1 : Nat) : Int) := by
       (try simp only [jqn] at hj); (try simp only [jqi] at hj)
       rw [hj, w64 (by omega)]; omega
      subst hM
      refine ⟨_, hlt, i + 1, _, _, _, b13, p13, st13, hj1, hin, hlen, hs13, hgr.2, hgr.1, hstep, rfl, rfl⟩
 ·have hin : i = n.toNat := by
   have : ¬ j < n := by
    subst hM
    intro hh
    exact absurd ((show real.dec (real.lt j n) = true from dec_iff.2 hh).symm.trans h9) (by decide)
   (try simp only [jqn] at hj); (try simp only [jqi] at hj)
   omega
  clear h9
  rintro - s hs
  cases hs
  have hent := ht.symm.trans (congrArg (fun z => runsV z v (b9, p9, st9, unit) rs) (show n.toNat - i = 0 by omega))
  refine ⟨(b9, p9, st9, unit), rfl, ?_, hs9, hg.1, (by show rs.length ≤ 20; omega)⟩
  show drunsV (b0, p0, st0, unit) = (rs, (b9, p9, st9, unit))
  unfold drunsV
  rw [E1]
  show runsV (nextV (b1, p1, st1, unit) 21).1.toNat (wrap .i64 (2 + a)) (nextV (b1, p1, st1, unit) 21).2 [] = _
  rw [E2]
  exact hent
end Go.Proofs.YtmjeghlfmhbjdaaDoor.EngTab
