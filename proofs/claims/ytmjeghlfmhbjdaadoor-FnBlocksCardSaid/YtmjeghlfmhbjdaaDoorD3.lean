/- The draws: the drawn blocks. -/
import Derived.Test.YtmjeghlfmhbjdaaDoorDW
import Derived.Test.YtmjeghlfmhbjdaaDoorDP
import Derived.Test.YtmjeghlfmhbjdaaDoorD2
import Derived.Test.YtmjeghlfmhbjdaaDoorNT
import Derived.Test.YtmjeghlfmhbjdaaDoorR6
namespace Go.Proofs.YtmjeghlfmhbjdaaDoor.EngTab
open Go.Proofs.YtmjeghlfmhbjdaaDoor.Eng
open PUnit (unit)
set_option maxRecDepth 100000
set_option linter.unusedVariables false
set_option linter.unusedSimpArgs false
/-- a block, spoiled or not -/
noncomputable def tossV (s : SrcD) (b : List Int) : List Int := if (nextV s 2).1 = 0 then spoilV (nextV s 2).2 b else b
theorem turn_len (a : Int × SrcD) (b : List Int) : (turnV a b).length = b.length := by
 unfold turnV
 split <;> simp
theorem toss_len {s : SrcD} {b : List Int} (h : b.length = 128) : (tossV s b).length ≤ 1048576 := by
 unfold tossV
 split
 ·unfold spoilV
  split
  ·simp; omega
  split
  ·simp; omega
  split
  ·rw [seal_len (by rw [List.length_take]; exact Nat.min_le_left _ _)]; omega
  ·rw [turn_len]; omega
 ·omega
noncomputable def drawN (b : List Int) : List Int := tossV (nodeV (beginV b)).2 (encN ((nodeV (beginV b)).1).1 ((nodeV (beginV b)).1).2.1)
theorem drawN_len {b : List Int} (h : nodeOK ((nodeV (beginV b)).1).1 ((nodeV (beginV b)).1).2.1) : (drawN b).length ≤ 1048576 := toss_len (encN_128 h)
def c5 : Con := Con.of ⟨[(false, 0, tyB)], [(1, tyB)], fun x => x.1.length ≤ 1048576, fun x y _ => y.1 = drawN x.1 ∧ nodeOK ((nodeV (beginV x.1)).1).1 ((nodeV (beginV x.1)).1).2.1⟩
set_option maxHeartbeats 4000000 in
theorem ok5 : FnOK Tryd.prog 5 c5 := by
 refine FnOK.of_vc mixed tabOk (.cons en22 ok22 (.cons en24 ok24 (.cons en25 ok25 (.cons en26 ok26 (.cons en27 ok27 .nil))))) Tryd.func5 rfl (by decide) lv5 hd5 ?_
 rintro ⟨(b : List Int), ⟨⟩⟩ (hl : b.length ≤ 1048576) hwf
 generalize hM : real = M
 cbv
 refine ⟨fun _ => hl, ?_⟩
 rintro ⟨⟨b0, p0, st0, ⟨⟩⟩, ⟨⟩⟩ x0 (hb : (b0, p0, st0, unit) = beginV b) - -
 have hs0 : SrcOK (b0, p0, st0, unit) := by rw [hb]; exact begin_ok hl
 cbv
 refine ⟨fun _ => ⟨_, rfl, hs0⟩, ?_⟩
 rintro ⟨⟨(k0 : Int), (es : List EntD), ⟨⟩⟩, ⟨⟩⟩ ⟨z1, ⟨⟩⟩ hpost - -
 obtain ⟨⟨b1, p1, st1, ⟨⟩⟩, hz1, E1, hs1, hok⟩ := hpost _ rfl
 have hz1 : z1 = some (b1, p1, st1, unit) := hz1
 subst hz1
 clear hpost hz1
 have E1 : nodeV (b0, p0, st0, unit) = ((k0, es, ()), (b1, p1, st1, unit)) := E1
 have hok : nodeOK k0 es := hok
 rw [hb] at E1
 have hB : encN k0 es = encN k0 es := rfl
 have hE := encN_128 hok
 cbv
 refine ⟨fun _ => (by show es.length ≤ 1048576; have : es.length ≤ 5 := (nodeOK_iff.1 hok).2.1; omega), ?_⟩
 rintro ⟨(w : List Int), (wc : Int), ⟨⟩⟩ x2 ⟨(hw : w = encN k0 es), hwc⟩ - -
 clear hwc
 have hw128 : w.length = 128 := by rw [hw]; exact hE
 have hgoal : tossV (b1, p1, st1, unit) w = drawN b := by
  unfold drawN
  rw [E1, hw]
 have hok2 : nodeOK ((nodeV (beginV b)).1).1 ((nodeV (beginV b)).1).2.1 := by rw [E1]; exact hok
 cbv
 refine ⟨fun _ => ⟨_, rfl, hs1⟩, ?_⟩
 rintro ⟨(k : Int), ⟨⟩⟩ ⟨z2, zz2, ⟨⟩⟩ hpost - -
 obtain ⟨⟨b2, p2, st2, ⟨⟩⟩, hz2, E2, hs2, hr2⟩ := hpost _ rfl
 have hz2 : z2 = some (b2, p2, st2, unit) := hz2
 subst hz2
 clear hpost hz2
 have E2 : nextV (b1, p1, st1, unit) 2 = (k, (b2, p2, st2, unit)) := E2
 have hr2 : 0 ≤ k ∧ k < 2 := hr2 (show (0 : Int) < 2 by decide)
 cbv
 refine splM (fun h => ?_) (fun h => ?_) <;> cbv
 ·have hk : k = 0 := by subst hM; exact dec_iff.1 h
  clear h
  refine ⟨fun _ => ⟨⟨_, rfl, hs2⟩, hw128⟩, ?_⟩
  rintro ⟨(y : List Int), ⟨⟩⟩ ⟨(_ | ⟨b3, p3, st3, ⟨⟩⟩), x3, ⟨⟩⟩ hpost - -
  all_goals
   have hy : y = spoilV (b2, p2, st2, unit) w := hpost _ rfl
   cbv
   rintro -
   refine ⟨?_, hok2⟩
   show y = drawN b
   rw [hy, ← hgoal]
   unfold tossV
   rw [E2]
   show _ = (if k = 0 then spoilV (b2, p2, st2, unit) w else w)
   rw [if_pos hk]
 ·have hk : ¬ k = 0 := by
   subst hM
   intro hh
   exact absurd ((show real.dec (real.eq k 0) = true from dec_iff.2 hh).symm.trans h) (by decide)
  clear h
  rintro -
  refine ⟨?_, hok2⟩
  show w = drawN b
  rw [← hgoal]
  unfold tossV
  rw [E2]
  show _ = (if k = 0 then spoilV (b2, p2, st2, unit) w else w)
  rw [if_neg hk]
noncomputable def drawT (b : List Int) : List Int := tossV (tableV (beginV b)).2 (encT ((tableV (beginV b)).1).1 ((tableV (beginV b)).1).2.1)
theorem drawT_len {b : List Int} (h : tabOK ((tableV (beginV b)).1).1 ((tableV (beginV b)).1).2.1) : (drawT b).length ≤ 1048576 := toss_len (encT_128 h)
def c10 : Con := Con.of ⟨[(false, 0, tyB)], [(1, tyB)], fun x => x.1.length ≤ 1048576, fun x y _ => y.1 = drawT x.1 ∧ tabOK ((tableV (beginV x.1)).1).1 ((tableV (beginV x.1)).1).2.1⟩
set_option maxHeartbeats 4000000 in
theorem ok10 : FnOK Tryd.prog 10 c10 := by
 refine FnOK.of_vc mixed tabOk (.cons en24 ok24 (.cons en26 ok26 (.cons en27 ok27 (.cons en32 ok32 (.cons en33 ok33 .nil))))) Tryd.func10 rfl (by decide) lv10 hd10 ?_
 rintro ⟨(b : List Int), ⟨⟩⟩ (hl : b.length ≤ 1048576) hwf
 generalize hM : real = M
 cbv
 refine ⟨fun _ => hl, ?_⟩
 rintro ⟨⟨b0, p0, st0, ⟨⟩⟩, ⟨⟩⟩ x0 (hb : (b0, p0, st0, unit) = beginV b) - -
 have hs0 : SrcOK (b0, p0, st0, unit) := by rw [hb]; exact begin_ok hl
 cbv
 refine ⟨fun _ => ⟨_, rfl, hs0⟩, ?_⟩
 rintro ⟨⟨(k0 : Int), (es : List RunD), ⟨⟩⟩, ⟨⟩⟩ ⟨z1, ⟨⟩⟩ hpost - -
 obtain ⟨⟨b1, p1, st1, ⟨⟩⟩, hz1, E1, hs1, hok⟩ := hpost _ rfl
 have hz1 : z1 = some (b1, p1, st1, unit) := hz1
 subst hz1
 clear hpost hz1
 have E1 : tableV (b0, p0, st0, unit) = ((k0, es, ()), (b1, p1, st1, unit)) := E1
 have hok : tabOK k0 es := hok
 rw [hb] at E1
 have hB : encT k0 es = encT k0 es := rfl
 have hE := encT_128 hok
 cbv
 refine ⟨fun _ => (by show es.length ≤ 1048576; have : es.length ≤ 20 := hok.2.1; omega), ?_⟩
 rintro ⟨(w : List Int), (wc : Int), ⟨⟩⟩ x2 ⟨(hw : w = encT k0 es), hwc⟩ - -
 clear hwc
 have hw128 : w.length = 128 := by rw [hw]; exact hE
 have hgoal : tossV (b1, p1, st1, unit) w = drawT b := by
  unfold drawT
  rw [E1, hw]
 have hok2 : tabOK ((tableV (beginV b)).1).1 ((tableV (beginV b)).1).2.1 := by rw [E1]; exact hok
 cbv
 refine ⟨fun _ => ⟨_, rfl, hs1⟩, ?_⟩
 rintro ⟨(k : Int), ⟨⟩⟩ ⟨z2, zz2, ⟨⟩⟩ hpost - -
 obtain ⟨⟨b2, p2, st2, ⟨⟩⟩, hz2, E2, hs2, hr2⟩ := hpost _ rfl
 have hz2 : z2 = some (b2, p2, st2, unit) := hz2
 subst hz2
 clear hpost hz2
 have E2 : nextV (b1, p1, st1, unit) 2 = (k, (b2, p2, st2, unit)) := E2
 have hr2 : 0 ≤ k ∧ k < 2 := hr2 (show (0 : Int) < 2 by decide)
 cbv
 refine splM (fun h => ?_) (fun h => ?_) <;> cbv
 ·have hk : k = 0 := by subst hM; exact dec_iff.1 h
  clear h
  refine ⟨fun _ => ⟨⟨_, rfl, hs2⟩, hw128⟩, ?_⟩
  rintro ⟨(y : List Int), ⟨⟩⟩ ⟨(_ | ⟨b3, p3, st3, ⟨⟩⟩), x3, ⟨⟩⟩ hpost - -
  all_goals
   have hy : y = spoilV (b2, p2, st2, unit) w := hpost _ rfl
   cbv
   rintro -
   refine ⟨?_, hok2⟩
   show y = drawT b
   rw [hy, ← hgoal]
   unfold tossV
   rw [E2]
   show _ = (if k = 0 then spoilV (b2, p2, st2, unit) w else w)
   rw [if_pos hk]
 ·have hk : ¬ k = 0 := by
   subst hM
   intro hh
   exact absurd ((show real.dec (real.eq k 0) = true from dec_iff.2 hh).symm.trans h) (by decide)
  clear h
  rintro -
  refine ⟨?_, hok2⟩
  show w = drawT b
  rw [← hgoal]
  unfold tossV
  rw [E2]
  show _ = (if k = 0 then spoilV (b2, p2, st2, unit) w else w)
  rw [if_neg hk]
noncomputable def drawS (b : List Int) : List Int := tossV (superV (beginV b)).2 (encS ((superV (beginV b)).1).1 ((superV (beginV b)).1).2.1 ((superV (beginV b)).1).2.2.1 ((superV (beginV b)).1).2.2.2.1 ((superV (beginV b)).1).2.2.2.2.1)
theorem drawS_len {b : List Int} (h : supOK ((superV (beginV b)).1).1 ((superV (beginV b)).1).2.1 ((superV (beginV b)).1).2.2.1 ((superV (beginV b)).1).2.2.2.1 ((superV (beginV b)).1).2.2.2.2.1) : (drawS b).length ≤ 1048576 := toss_len (encS_128 h)
def c15 : Con := Con.of ⟨[(false, 0, tyB)], [(1, tyB)], fun x => x.1.length ≤ 1048576, fun x y _ => y.1 = drawS x.1 ∧ supOK ((superV (beginV x.1)).1).1 ((superV (beginV x.1)).1).2.1 ((superV (beginV x.1)).1).2.2.1 ((superV (beginV x.1)).1).2.2.2.1 ((superV (beginV x.1)).1).2.2.2.2.1⟩
set_option maxHeartbeats 4000000 in
theorem ok15 : FnOK Tryd.prog 15 c15 := by
 refine FnOK.of_vc mixed tabOk (.cons en24 ok24 (.cons en26 ok26 (.cons en27 ok27 (.cons en34 ok34 (.cons en35 ok35 .nil))))) Tryd.func15 rfl (by decide) lv15 hd15 ?_
 rintro ⟨(b : List Int), ⟨⟩⟩ (hl : b.length ≤ 1048576) hwf
 generalize hM : real = M
 cbv
 refine ⟨fun _ => hl, ?_⟩
 rintro ⟨⟨b0, p0, st0, ⟨⟩⟩, ⟨⟩⟩ x0 (hb : (b0, p0, st0, unit) = beginV b) - -
 have hs0 : SrcOK (b0, p0, st0, unit) := by rw [hb]; exact begin_ok hl
 cbv
 refine ⟨fun _ => ⟨_, rfl, hs0⟩, ?_⟩
 rintro ⟨⟨(q1 : Int), (q2 : Int), (q3 : Int), (q4 : Int), (es : List RootD), ⟨⟩⟩, ⟨⟩⟩ ⟨z1, ⟨⟩⟩ hpost - -
 obtain ⟨⟨b1, p1, st1, ⟨⟩⟩, hz1, E1, hs1, hok⟩ := hpost _ rfl
 have hz1 : z1 = some (b1, p1, st1, unit) := hz1
 subst hz1
 clear hpost hz1
 have E1 : superV (b0, p0, st0, unit) = ((q1, q2, q3, q4, es, ()), (b1, p1, st1, unit)) := E1
 have hok : supOK q1 q2 q3 q4 es := hok
 rw [hb] at E1
 have hB : encS q1 q2 q3 q4 es = encS q1 q2 q3 q4 es := rfl
 have hE := encS_128 hok
 cbv
 refine ⟨fun _ => (by show es.length ≤ 1048576; have : es.length ≤ 16 := hok.2.2.1.2; omega), ?_⟩
 rintro ⟨(w : List Int), (wc : Int), ⟨⟩⟩ x2 ⟨(hw : w = encS q1 q2 q3 q4 es), hwc⟩ - -
 clear hwc
 have hw128 : w.length = 128 := by rw [hw]; exact hE
 have hgoal : tossV (b1, p1, st1, unit) w = drawS b := by
  unfold drawS
  rw [E1, hw]
 have hok2 : supOK ((superV (beginV b)).1).1 ((superV (beginV b)).1).2.1 ((superV (beginV b)).1).2.2.1 ((superV (beginV b)).1).2.2.2.1 ((superV (beginV b)).1).2.2.2.2.1 := by rw [E1]; exact hok
 cbv
 refine ⟨fun _ => ⟨_, rfl, hs1⟩, ?_⟩
 rintro ⟨(k : Int), ⟨⟩⟩ ⟨z2, zz2, ⟨⟩⟩ hpost - -
 obtain ⟨⟨b2, p2, st2, ⟨⟩⟩, hz2, E2, hs2, hr2⟩ := hpost _ rfl
 have hz2 : z2 = some (b2, p2, st2, unit) := hz2
 subst hz2
 clear hpost hz2
 have E2 : nextV (b1, p1, st1, unit) 2 = (k, (b2, p2, st2, unit)) := E2
 have hr2 : 0 ≤ k ∧ k < 2 := hr2 (show (0 : Int) < 2 by decide)
 cbv
 refine splM (fun h => ?_) (fun h => ?_) <;> cbv
 ·have hk : k = 0 := by subst hM; exact dec_iff.1 h
  clear h
  refine ⟨fun _ => ⟨⟨_, rfl, hs2⟩, hw128⟩, ?_⟩
  rintro ⟨(y : List Int), ⟨⟩⟩ ⟨(_ | ⟨b3, p3, st3, ⟨⟩⟩), x3, ⟨⟩⟩ hpost - -
  all_goals
   have hy : y = spoilV (b2, p2, st2, unit) w := hpost _ rfl
   cbv
   rintro -
   refine ⟨?_, hok2⟩
   show y = drawS b
   rw [hy, ← hgoal]
   unfold tossV
   rw [E2]
   show _ = (if k = 0 then spoilV (b2, p2, st2, unit) w else w)
   rw [if_pos hk]
 ·have hk : ¬ k = 0 := by
   subst hM
   intro hh
   exact absurd ((show real.dec (real.eq k 0) = true from dec_iff.2 hh).symm.trans h) (by decide)
  clear h
  rintro -
  refine ⟨?_, hok2⟩
  show w = drawS b
  rw [← hgoal]
  unfold tossV
  rw [E2]
  show _ = (if k = 0 then spoilV (b2, p2, st2, unit) w else w)
  rw [if_neg hk]
end Go.Proofs.YtmjeghlfmhbjdaaDoor.EngTab
