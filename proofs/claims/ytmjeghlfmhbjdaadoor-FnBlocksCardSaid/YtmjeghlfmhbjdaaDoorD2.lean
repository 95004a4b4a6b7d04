/- The draws: tables, superblocks. -/
import Derived.Test.YtmjeghlfmhbjdaaDoorOX
import Derived.Test.YtmjeghlfmhbjdaaDoorDT
import Derived.Test.YtmjeghlfmhbjdaaDoorO
namespace Go.Proofs.YtmjeghlfmhbjdaaDoor.EngTab
open Go.Proofs.YtmjeghlfmhbjdaaDoor.Eng
open PUnit (unit)
open IntKind (wrap)
set_option maxRecDepth 100000
set_option linter.unusedVariables false
set_option linter.unusedSimpArgs false
noncomputable def tableV (s : SrcD) : (Int × List RunD × Unit) × SrcD :=
 if (nextV (drunsV s).2 2).1 = 0 then ((wrap .i64 (2 + (nextV (nextV (drunsV s).2 2).2 510).1), (drunsV s).1, ()), (nextV (nextV (drunsV s).2 2).2 510).2) else ((0, (drunsV s).1, ()), (nextV (drunsV s).2 2).2)
def c33 : Con := Con.of ⟨[(true, 1, .ptr tySrc)], [(1, tyTab)], fun x => ∃ s, x.1 = some s ∧ SrcOK s, fun x y x' => ∀ s, x.1 = some s → ∃ s' : SrcD, x'.1 = some s' ∧ tableV s = (y.1, s') ∧ SrcOK s' ∧ tabOK y.1.1 y.1.2.1⟩
set_option maxHeartbeats 4000000 in
theorem ok33 : FnOK Tryd.prog 33 c33 := by
 refine FnOK.of_vc mixed tabOk (.cons en26 ok26 (.cons en52 ok52 .nil)) Tryd.func33 rfl (by decide) lv33 hd33 ?_
 rintro ⟨(_ | ⟨(b0 : List Int), (p0 : Int), (st0 : Int), ⟨⟩⟩), ⟨⟩⟩ hpre hwf
 ·obtain ⟨s, e, _⟩ := hpre
  cases e
 have hs0 : SrcOK (b0, p0, st0, unit) := by
  obtain ⟨s, e, h⟩ := hpre
  cases e
  exact h
 clear hpre
 generalize hM : real = M
 cbv
 refine ⟨fun _ => ⟨⟨_, rfl, hs0⟩, rfl, rfl⟩, ?_⟩
 rintro ⟨(rs : List RunD), ⟨⟩⟩ ⟨z1, zz1, zy1, ⟨⟩⟩ hpost - -
 obtain ⟨⟨b1, p1, st1, ⟨⟩⟩, hz1, E1, hs1, hor, hrl⟩ := hpost _ rfl
 have hz1 : z1 = some (b1, p1, st1, unit) := hz1
 subst hz1
 clear hpost hz1
 have E1 : drunsV (b0, p0, st0, unit) = (rs, (b1, p1, st1, unit)) := E1
 have hor : ordR rs := hor
 have hrl : rs.length ≤ 20 := hrl
 cbv
 refine ⟨fun _ => ⟨_, rfl, hs1⟩, ?_⟩
 rintro ⟨(k : Int), ⟨⟩⟩ ⟨z2, zz2, ⟨⟩⟩ hpost - -
 obtain ⟨⟨b2, p2, st2, ⟨⟩⟩, hz2, E2, hs2, hr2⟩ := hpost _ rfl
 have hz2 : z2 = some (b2, p2, st2, unit) := hz2
 subst hz2
 clear hpost hz2
 have E2 : nextV (b1, p1, st1, unit) 2 = (k, (b2, p2, st2, unit)) := E2
 have hr2 : 0 ≤ k ∧ k < 2 := hr2 (show (0 : Int) < 2 by decide)
 cbv
 refine splM (fun h => ?_) (fun h => ?_) <;> cbv
 ·have hk : k = 0 := by subst hM; exact dec_iff.1 h
  clear h
  refine ⟨fun _ => ⟨_, rfl, hs2⟩, ?_⟩
  rintro ⟨(q : Int), ⟨⟩⟩ ⟨z3, zz3, ⟨⟩⟩ hpost - -
  obtain ⟨⟨b3, p3, st3, ⟨⟩⟩, hz3, E3, hs3, hr3⟩ := hpost _ rfl
  have hz3 : z3 = some (b3, p3, st3, unit) := hz3
  subst hz3
  clear hpost hz3
  have E3 : nextV (b2, p2, st2, unit) 510 = (q, (b3, p3, st3, unit)) := E3
  have hr3 : 0 ≤ q ∧ q < 510 := hr3 (show (0 : Int) < 510 by decide)
  cbv
  rintro - s hs
  cases hs
  have hw : wrap .i64 (2 + q) = 2 + q := w64 (by omega)
  subst hM
  refine ⟨(b3, p3, st3, unit), rfl, ?_, hs3, ?_⟩
  ·show tableV (b0, p0, st0, unit) = ((wrap .i64 (2 + q), rs, unit), _)
   unfold tableV
   rw [E1]
   show (if (nextV (b1, p1, st1, unit) 2).1 = 0 then ((wrap .i64 (2 + (nextV (nextV (b1, p1, st1, unit) 2).2 510).1), rs, ()), (nextV (nextV (b1, p1, st1, unit) 2).2 510).2) else _) = _
   rw [E2]
   show (if k = 0 then ((wrap .i64 (2 + (nextV (b2, p2, st2, unit) 510).1), rs, ()), (nextV (b2, p2, st2, unit) 510).2) else _) = _
   rw [if_pos hk, E3]
  ·show tabOK (wrap .i64 (2 + q)) rs
   rw [hw]
   exact ⟨.inr (by omega), hrl, hor⟩
 ·have hk : ¬ k = 0 := by
   subst hM
   intro hh
   exact absurd ((show real.dec (real.eq k 0) = true from dec_iff.2 hh).symm.trans h) (by decide)
  clear h
  rintro - s hs
  cases hs
  refine ⟨(b2, p2, st2, unit), rfl, ?_, hs2, ?_⟩
  ·show tableV (b0, p0, st0, unit) = ((0, rs, unit), _)
   unfold tableV
   rw [E1]
   show (if (nextV (b1, p1, st1, unit) 2).1 = 0 then _ else ((0, rs, ()), (nextV (b1, p1, st1, unit) 2).2)) = _
   rw [E2]
   show (if k = 0 then _ else ((0, rs, ()), (b2, p2, st2, unit))) = _
   rw [if_neg hk]
  ·exact ⟨.inl rfl, hrl, hor⟩
noncomputable def rootsV : Nat → Int → Int → SrcD → List RootD → (Int × List RootD) × SrcD
 | 0, _, ne, s, rs => ((ne, rs), s)
 | n + 1, bl, ne, s, rs => rootsV n bl (wrap .i64 (wrap .i64 (ne + (nextV s 3).1) + 1)) (nextV (nextV s 3).2 (wrap .i64 (bl - 2))).2 (rs ++ [(wrap .i64 (wrap .i64 (ne + (nextV s 3).1) - 1), wrap .i64 (2 + (nextV (nextV s 3).2 (wrap .i64 (bl - 2))).1), ())])
theorem rootsV_go {n : Nat} {bl ne a c : Int} {s s1 s2 : SrcD} {rs : List RootD} (e1 : nextV s 3 = (a, s1)) (e2 : nextV s1 (wrap .i64 (bl - 2)) = (c, s2)) :
  rootsV (n + 1) bl ne s rs = rootsV n bl (wrap .i64 (wrap .i64 (ne + a) + 1)) s2 (rs ++ [(wrap .i64 (wrap .i64 (ne + a) - 1), wrap .i64 (2 + c), ())]) := by
 conv => lhs; unfold rootsV
 rw [e1]
 show rootsV n bl (wrap .i64 (wrap .i64 (ne + a) + 1)) (nextV s1 (wrap .i64 (bl - 2))).2 (rs ++ [(wrap .i64 (wrap .i64 (ne + a) - 1), wrap .i64 (2 + (nextV s1 (wrap .i64 (bl - 2))).1), ())]) = _
 rw [e2]
noncomputable def genV (g : Int × SrcD) : Int × SrcD := if (nextV g.2 8).1 = 0 then (wrap .i64 (1099511627776 - (nextV (nextV g.2 8).2 2).1), (nextV (nextV g.2 8).2 2).2) else (wrap .i64 (1 + g.1), (nextV g.2 8).2)
noncomputable def numV (s : SrcD) : Int × SrcD := if (nextV (nextV s 4).2 6).1 = 0 then (16, (nextV (nextV s 4).2 6).2) else (wrap .i64 (1 + (nextV s 4).1), (nextV (nextV s 4).2 6).2)
noncomputable def lastV (bl ge ta : Int) (r : (Int × List RootD) × SrcD) : (Int × Int × Int × Int × List RootD × Unit) × SrcD :=
 ((bl, ge, (if (nextV r.2 8).1 = 0 then 65535 else r.1.1), ta, r.1.2, ()), (nextV r.2 8).2)
noncomputable def super1 (bl : Int) (g : Int × SrcD) : (Int × Int × Int × Int × List RootD × Unit) × SrcD :=
 lastV bl g.1 (wrap .i64 (2 + (nextV g.2 (wrap .i64 (bl - 2))).1)) (rootsV (numV (nextV g.2 (wrap .i64 (bl - 2))).2).1.toNat bl 1 (numV (nextV g.2 (wrap .i64 (bl - 2))).2).2 [])
noncomputable def superV (s : SrcD) : (Int × Int × Int × Int × List RootD × Unit) × SrcD := super1 (blocksV s).1 (genV (nextV (blocksV s).2 300))
def GoodO (bl ne : Int) (rs : List RootD) : Prop := (∀ i, i < rs.length → rootOK bl ne rs i) ∧ (0 < rs.length → (rootAt rs (rs.length - 1)).1 ≤ ne - 2)
theorem rootAt_app {rs : List RootD} {r : RootD} {i : Nat} (h : i < rs.length) : rootAt (rs ++ [r]) i = rootAt rs i := by
 unfold rootAt
 simp [List.getD, List.getElem?_append_left h]
theorem rootAt_end {rs : List RootD} {r : RootD} : rootAt (rs ++ [r]) rs.length = r := by
 unfold rootAt
 simp [List.getD]
theorem good_root {bl ne a c : Int} {rs : List RootD} (hg : GoodO bl ne rs) (h1 : 1 ≤ ne ∧ ne ≤ 1000) (hb : 8 ≤ bl ∧ bl ≤ 512) (ha : 0 ≤ a ∧ a < 3) (hc : 0 ≤ c ∧ c < bl - 2) :
  GoodO bl (wrap .i64 (wrap .i64 (ne + a) + 1)) (rs ++ [(wrap .i64 (wrap .i64 (ne + a) - 1), wrap .i64 (2 + c), ())]) ∧ wrap .i64 (wrap .i64 (ne + a) + 1) = ne + a + 1 := by
 rw [w64 (x := ne + a) (by omega), w64 (x := ne + a - 1) (by omega), w64 (x := ne + a + 1) (by omega), w64 (x := 2 + c) (by omega)]
 refine ⟨⟨fun i hi => ?_, fun _ => ?_⟩, rfl⟩
 ·simp only [List.length_append, List.length_cons, List.length_nil] at hi
  by_cases hl : i < rs.length
  ·have h4 := hg.1 i hl
   unfold rootOK at h4 ⊢
   rw [rootAt_app hl]
   refine ⟨h4.1, by omega, h4.2.2.1, h4.2.2.2.1, fun h0 => ?_⟩
   rw [rootAt_app (by omega)]
   exact h4.2.2.2.2 h0
  ·obtain rfl : i = rs.length := by omega
   unfold rootOK
   rw [rootAt_end]
   refine ⟨by dsimp only; omega, by dsimp only; omega, by dsimp only; omega, by dsimp only; omega, fun h0 => ?_⟩
   rw [rootAt_app (by omega)]
   have := hg.2 h0
   dsimp only
   omega
 ·simp only [List.length_append, List.length_cons, List.length_nil, Nat.add_sub_cancel]
  rw [rootAt_end]
  dsimp only
  omega
theorem cut4 {A B C D : Type} {P : A → B → C → D → Prop} {G : Prop} {K : A → B → C → D → Prop} (h1 : (∀ a b c d, P a b c d → K a b c d) → G) (h2 : ∀ a b c d, P a b c d → K a b c d) : G := h1 h2
theorem root_step {bl ne a c j : Int} {i N : Nat} {rs : List RootD} {s s1 s2 : SrcD} {R : (Int × List RootD) × SrcD} (hg : GoodO bl ne rs) (h1 : 1 ≤ ne ∧ ne ≤ 1000) (hni : ne ≤ 1 + 3 * (i : Int)) (hb : 8 ≤ bl ∧ bl ≤ 512) (ha : 0 ≤ a ∧ a < 3) (hc : 0 ≤ c ∧ c < bl - 2) (hi : i < N) (hrl : rs.length = i) (hj : j = i) (hN : N ≤ 16)
  (e1 : nextV s 3 = (a, s1)) (e2 : nextV s1 (bl - 2) = (c, s2)) (ht : rootsV (N - i) bl ne s rs = R) :
  N - (i + 1) < N - i ∧ wrap .i64 (j + 1) = ((i + 1 : Nat) : Int) ∧ (rs ++ [(wrap .i64 (wrap .i64 (ne + a) - 1), wrap .i64 (2 + c), ())]).length = i + 1 ∧ (1 ≤ wrap .i64 (wrap .i64 (ne + a) + 1) ∧ wrap .i64 (wrap .i64 (ne + a) + 1) ≤ 1000) ∧ wrap .i64 (wrap .i64 (ne + a) + 1) ≤ 1 + 3 * ((i + 1 : Nat) : Int) ∧ GoodO bl (wrap .i64 (wrap .i64 (ne + a) + 1)) (rs ++ [(wrap .i64 (wrap .i64 (ne + a) - 1), wrap .i64 (2 + c), ())]) ∧
   rootsV (N - (i + 1)) bl (wrap .i64 (wrap .i64 (ne + a) + 1)) s2 (rs ++ [(wrap .i64 (wrap .i64 (ne + a) - 1), wrap .i64 (2 + c), ())]) = R := by
 have hgr := good_root hg h1 hb ha hc
 have hb3 : wrap .i64 (bl - 2) = bl - 2 := w64 (by omega)
 refine ⟨by omega, by rw [hj, w64 (by omega)]; omega, by simp; omega, by rw [hgr.2]; omega, by rw [hgr.2]; omega, hgr.1, ?_⟩
 rw [← ht, show N - i = (N - (i + 1)) + 1 by omega]
 exact (rootsV_go e1 (by rw [hb3]; exact e2)).symm
theorem last_ok {bl ge ta : Int} {r : (Int × List RootD) × SrcD} (hb : 8 ≤ bl ∧ bl ≤ 512) (hge : 1 ≤ ge ∧ ge ≤ 1099511627776) (hta : 2 ≤ ta ∧ ta < bl) (hn : 1 ≤ r.1.1 ∧ r.1.1 ≤ 1000) (hl : 1 ≤ r.1.2.length ∧ r.1.2.length ≤ 16) (hg : GoodO bl r.1.1 r.1.2) :
  supOK (lastV bl ge ta r).1.1 (lastV bl ge ta r).1.2.1 (lastV bl ge ta r).1.2.2.1 (lastV bl ge ta r).1.2.2.2.1 (lastV bl ge ta r).1.2.2.2.2.1 := by
 unfold lastV
 dsimp only
 split
 ·refine ⟨⟨hb.1, hb.2, hge.1, hge.2⟩, ⟨by omega, by omega, hta.1, hta.2⟩, hl, fun i hi => ?_⟩
  have h := hg.1 i hi
  unfold rootOK at h ⊢
  exact ⟨h.1, by omega, h.2.2.1, h.2.2.2.1, h.2.2.2.2⟩
 ·exact ⟨⟨hb.1, hb.2, hge.1, hge.2⟩, ⟨by omega, by omega, hta.1, hta.2⟩, hl, hg.1⟩
def c35 : Con := Con.of ⟨[(true, 1, .ptr tySrc)], [(1, tySup)], fun x => ∃ s, x.1 = some s ∧ SrcOK s, fun x y x' => ∀ s, x.1 = some s → ∃ s' : SrcD, x'.1 = some s' ∧ superV s = (y.1, s') ∧ SrcOK s' ∧ supOK y.1.1 y.1.2.1 y.1.2.2.1 y.1.2.2.2.1 y.1.2.2.2.2.1⟩
set_option maxHeartbeats 16000000 in
theorem ok35 : FnOK Tryd.prog 35 c35 := by
 refine FnOK.of_vc mixed tabOk (.cons en26 ok26 (.cons en54 ok54 .nil)) Tryd.func35 rfl (by decide) lv35 hd35 ?_
 rintro ⟨(_ | ⟨(b0 : List Int), (p0 : Int), (st0 : Int), ⟨⟩⟩), ⟨⟩⟩ hpre hwf
 ·obtain ⟨s, e, _⟩ := hpre
  cases e
 have hs0 : SrcOK (b0, p0, st0, unit) := by
  obtain ⟨s, e, h⟩ := hpre
  cases e
  exact h
 clear hpre
 generalize hM : real = M
 cbv
 refine ⟨fun _ => ⟨_, rfl, hs0⟩, ?_⟩
 rintro ⟨(bl : Int), ⟨⟩⟩ ⟨z1, ⟨⟩⟩ hpost - -
 obtain ⟨⟨b1, p1, st1, ⟨⟩⟩, hz1, E1, hs1, hbl⟩ := hpost _ rfl
 have hz1 : z1 = some (b1, p1, st1, unit) := hz1
 subst hz1
 clear hpost hz1
 have E1 : blocksV (b0, p0, st0, unit) = (bl, (b1, p1, st1, unit)) := E1
 have hbl : 8 ≤ bl ∧ bl ≤ 512 := hbl
 have hb2 : M.wrap .i64 (M.sub bl 2) = bl - 2 := by subst hM; show wrap .i64 (bl - 2) = bl - 2; exact w64 (by omega)
 have hb3 : wrap .i64 (bl - 2) = bl - 2 := w64 (by omega)
 have hb2p : (0 : Int) < M.wrap .i64 (M.sub bl 2) := by rw [hb2]; omega
 cbv
 refine ⟨fun _ => ⟨_, rfl, hs1⟩, ?_⟩
 rintro ⟨(ge : Int), ⟨⟩⟩ ⟨z2, zz2, ⟨⟩⟩ hpost - -
 obtain ⟨⟨b2, p2, st2, ⟨⟩⟩, hz2, E2, hs2, hr2⟩ := hpost _ rfl
 have hz2 : z2 = some (b2, p2, st2, unit) := hz2
 subst hz2
 clear hpost hz2
 have E2 : nextV (b1, p1, st1, unit) 300 = (ge, (b2, p2, st2, unit)) := E2
 have hr2 : 0 ≤ ge ∧ ge < 300 := hr2 (show (0 : Int) < 300 by decide)
 cbv
 refine ⟨fun _ => ⟨_, rfl, hs2⟩, ?_⟩
 rintro ⟨(g : Int), ⟨⟩⟩ ⟨z3, zz3, ⟨⟩⟩ hpost - -
 obtain ⟨⟨b3, p3, st3, ⟨⟩⟩, hz3, E3, hs3, hr3⟩ := hpost _ rfl
 have hz3 : z3 = some (b3, p3, st3, unit) := hz3
 subst hz3
 clear hpost hz3
 have E3 : nextV (b2, p2, st2, unit) 8 = (g, (b3, p3, st3, unit)) := E3
 have hr3 : 0 ≤ g ∧ g < 8 := hr3 (show (0 : Int) < 8 by decide)
 cbv
 refine splM (fun h => ?_) (fun h => ?_) <;> cbv
 ·have hgz : g = 0 := by subst hM; exact dec_iff.1 h
  clear h
  refine ⟨fun _ => ⟨_, rfl, hs3⟩, ?_⟩
  rintro ⟨(gq : Int), ⟨⟩⟩ ⟨z4, zz4, ⟨⟩⟩ hpost - -
  obtain ⟨⟨b4, p4, st4, ⟨⟩⟩, hz4, E4, hs4, hr4⟩ := hpost _ rfl
  have hz4 : z4 = some (b4, p4, st4, unit) := hz4
  subst hz4
  clear hpost hz4
  have E4 : nextV (b3, p3, st3, unit) 2 = (gq, (b4, p4, st4, unit)) := E4
  have hr4 : 0 ≤ gq ∧ gq < 2 := hr4 (show (0 : Int) < 2 by decide)
  cbv
  have hgen : genV (ge, (b2, p2, st2, unit)) = (wrap .i64 (1099511627776 - gq), (b4, p4, st4, unit)) := by
   unfold genV
   show (if (nextV (b2, p2, st2, unit) 8).1 = 0 then (wrap .i64 (1099511627776 - (nextV (nextV (b2, p2, st2, unit) 8).2 2).1), (nextV (nextV (b2, p2, st2, unit) 8).2 2).2) else _) = _
   rw [E3]
   show (if g = 0 then (wrap .i64 (1099511627776 - (nextV (b3, p3, st3, unit) 2).1), (nextV (b3, p3, st3, unit) 2).2) else _) = _
   rw [if_pos hgz, E4]
  have hger : 1 ≤ wrap .i64 (1099511627776 - gq) ∧ wrap .i64 (1099511627776 - gq) ≤ 1099511627776 := by rw [w64 (by omega)]; omega
  refine ⟨fun _ => ⟨_, rfl, hs4⟩, ?_⟩
  rintro ⟨(t : Int), ⟨⟩⟩ ⟨z5, zz5, ⟨⟩⟩ hpost - -
  obtain ⟨⟨b5, p5, st5, ⟨⟩⟩, hz5, E5, hs5, hr5⟩ := hpost _ rfl
  have hz5 : z5 = some (b5, p5, st5, unit) := hz5
  subst hz5
  clear hpost hz5
  have E5 : nextV (b4, p4, st4, unit) (bl - 2) = (t, (b5, p5, st5, unit)) := by rw [← hb2]; exact E5
  have hr5 : (0 : Int) < bl - 2 → 0 ≤ t ∧ t < bl - 2 := by rw [← hb2]; exact hr5
  cbv
  have hr5 := hr5 (by omega)
  have htar : 2 ≤ wrap .i64 (2 + t) ∧ wrap .i64 (2 + t) < bl := by rw [w64 (by omega)]; omega
  refine ⟨fun _ => ⟨_, rfl, hs5⟩, ?_⟩
  rintro ⟨(n0 : Int), ⟨⟩⟩ ⟨z6, zz6, ⟨⟩⟩ hpost - -
  obtain ⟨⟨b6, p6, st6, ⟨⟩⟩, hz6, E6, hs6, hr6⟩ := hpost _ rfl
  have hz6 : z6 = some (b6, p6, st6, unit) := hz6
  subst hz6
  clear hpost hz6
  have E6 : nextV (b5, p5, st5, unit) 4 = (n0, (b6, p6, st6, unit)) := E6
  have hr6 : 0 ≤ n0 ∧ n0 < 4 := hr6 (show (0 : Int) < 4 by decide)
  cbv
  refine ⟨fun _ => ⟨_, rfl, hs6⟩, ?_⟩
  rintro ⟨(mm : Int), ⟨⟩⟩ ⟨z7, zz7, ⟨⟩⟩ hpost - -
  obtain ⟨⟨b7, p7, st7, ⟨⟩⟩, hz7, E7, hs7, hr7⟩ := hpost _ rfl
  have hz7 : z7 = some (b7, p7, st7, unit) := hz7
  subst hz7
  clear hpost hz7
  have E7 : nextV (b6, p6, st6, unit) 6 = (mm, (b7, p7, st7, unit)) := E7
  have hr7 : 0 ≤ mm ∧ mm < 6 := hr7 (show (0 : Int) < 6 by decide)
  cbv
  refine splM (fun h => ?_) (fun h => ?_) <;> cbv
  ·have hm : mm = 0 := by subst hM; exact dec_iff.1 h
   clear h
   have hnM : (16 : Int) = 16 := rfl
   have hNN : (16 : Int).toNat ≤ 16 := by decide
   have hnode : ∀ r, rootsV ((16 : Int)).toNat bl 1 (b7, p7, st7, unit) [] = r → superV (b0, p0, st0, unit) = lastV bl (wrap .i64 (1099511627776 - gq)) (wrap .i64 (2 + t)) r := fun r hr => by
    unfold superV
    rw [E1]
    show super1 bl (genV (nextV (b1, p1, st1, unit) 300)) = _
    rw [E2, hgen]
    unfold super1
    show lastV bl (wrap .i64 (1099511627776 - gq)) (wrap .i64 (2 + (nextV (b4, p4, st4, unit) (wrap .i64 (bl - 2))).1)) (rootsV (numV (nextV (b4, p4, st4, unit) (wrap .i64 (bl - 2))).2).1.toNat bl 1 (numV (nextV (b4, p4, st4, unit) (wrap .i64 (bl - 2))).2).2 []) = _
    rw [hb3, E5]
    show lastV bl (wrap .i64 (1099511627776 - gq)) (wrap .i64 (2 + t)) (rootsV (numV (b5, p5, st5, unit)).1.toNat bl 1 (numV (b5, p5, st5, unit)).2 []) = _
    have hnum : numV (b5, p5, st5, unit) = ((16 : Int), (b7, p7, st7, unit)) := by
     unfold numV
     rw [E6]
     show (if (nextV (b6, p6, st6, unit) 6).1 = 0 then (16, (nextV (b6, p6, st6, unit) 6).2) else (wrap .i64 (1 + n0), (nextV (b6, p6, st6, unit) 6).2)) = _
     rw [E7]
     show (if mm = 0 then (16, (b7, p7, st7, unit)) else (wrap .i64 (1 + n0), (b7, p7, st7, unit))) = _
     rw [if_pos hm]
    rw [hnum]
    show lastV bl (wrap .i64 (1099511627776 - gq)) (wrap .i64 (2 + t)) (rootsV ((16 : Int)).toNat bl 1 (b7, p7, st7, unit) []) = _
    rw [hr]
   refine ⟨fun m Γ => ∃ (i : Nat) (j ne : Int) (rs : List RootD) (b9 : List Int) (p9 st9 : Int), j = i ∧ i ≤ ((16 : Int)).toNat ∧ rs.length = i ∧ SrcOK (b9, p9, st9, unit) ∧ (1 ≤ ne ∧ ne ≤ 1000) ∧ ne ≤ 1 + 3 * (i : Int) ∧ GoodO bl ne rs ∧ rootsV (((16 : Int)).toNat - i) bl ne (b9, p9, st9, unit) rs = rootsV ((16 : Int)).toNat bl 1 (b7, p7, st7, unit) [] ∧ m = ((16 : Int)).toNat - i ∧ ((rs = [] ∧ Γ = ⟨67, [(0, .ad 0 tySrc 0 []), (2, .ad 1 tySup 0 []), (3, .ad 2 tySup 0 []), (4, .pv [] (.int .i64) (16)), (5, .pv [] (.int .i64) j)], [(0, .box (.consA (.pv [] tyB b9) (.consA (.pv [] (.int .i64) p9) (.consA (.pv [] (.int .u64) st9) .nilA)))), (1, .box (.consA (.pv [] (.int .i64) 0) (.consA (.pv [] (.int .i64) 0) (.consA (.pv [] (.int .i64) 0) (.consA (.pv [] (.int .i64) 0) (.consA .nils .nilA)))))), (2, .box (.consA (.pv [] (.int .i64) bl) (.consA (.pv [] (.int .i64) (M.wrap .i64 (M.sub 1099511627776 gq))) (.consA (.pv [] (.int .i64) ne) (.consA (.pv [] (.int .i64) (M.wrap .i64 (M.add 2 t))) (.consA .nils .nilA))))))], [.ad 0 tySrc 0 []]⟩) ∨ Γ = ⟨67, [(0, .ad 0 tySrc 0 []), (2, .ad 1 tySup 0 []), (3, .ad 2 tySup 0 []), (4, .pv [] (.int .i64) (16)), (5, .pv [] (.int .i64) j)], [(0, .box (.consA (.pv [] tyB b9) (.consA (.pv [] (.int .i64) p9) (.consA (.pv [] (.int .u64) st9) .nilA)))), (1, .box (.consA (.pv [] (.int .i64) 0) (.consA (.pv [] (.int .i64) 0) (.consA (.pv [] (.int .i64) 0) (.consA (.pv [] (.int .i64) 0) (.consA .nils .nilA)))))), (2, .box (.consA (.pv [] (.int .i64) bl) (.consA (.pv [] (.int .i64) (M.wrap .i64 (M.sub 1099511627776 gq))) (.consA (.pv [] (.int .i64) ne) (.consA (.pv [] (.int .i64) (M.wrap .i64 (M.add 2 t))) (.consA (.ref 4) .nilA)))))), (4, .row 0 tyRoot rs)], [.ad 0 tySrc 0 []]⟩), ⟨_, 0, 0, 1, [], b7, p7, st7, rfl, Nat.zero_le _, rfl, hs7, ⟨by omega, by omega⟩, by omega, ⟨fun i hi => absurd hi (Nat.not_lt_zero i), fun h => absurd h (Nat.not_lt_zero 0)⟩, rfl, rfl, .inl ⟨rfl, rfl⟩⟩, ?_⟩
   rintro m _ ⟨i, j, ne, rs, b9, p9, st9, hj, hi, hrl, hs9, hne, hni, hg, ht, rfl, (⟨he0, rfl⟩ | rfl)⟩ -
   ·subst he0
    cbv
    refine splM (fun h9 => ?_) (fun h9 => ?_) <;> cbv
    ·have hin : i < ((16 : Int)).toNat := by
      have : j < 16 := by subst hM; exact dec_iff.1 h9
      rw [hnM] at this
      (try simp only [jqn] at hj); (try simp only [jqi] at hj)
      omega
     clear h9
     have hroom : ∀ x : RootD, M.room (([] : List RootD)) [x] := fun x => by
      subst hM
      show (([] : List RootD)).length + 1 ≤ 2 ^ 36
      omega
     have hlt : ((16 : Int)).toNat - (i + 1) < ((16 : Int)).toNat - i := by omega
     apply cut4 (P := fun (a : Int) (b10 : List Int) (p10 st10 : Int) => nextV (b9, p9, st9, unit) 3 = (a, (b10, p10, st10, unit)) ∧ SrcOK (b10, p10, st10, unit) ∧ (0 ≤ a ∧ a < 3))
     ·intro key
      refine ⟨ox35_11, (fun _ => by kernel_rfl), ?_⟩
      cbv
      repeat' (first
       | exact True.intro
       | (refine And.intro ?_ True.intro)
       | (fail_if_success have := E10
          refine And.intro (fun _ => ⟨_, rfl, hs9⟩) ?_
          rintro ⟨(a : Int), ⟨⟩⟩ ⟨z10, zz10, ⟨⟩⟩ hpost - -
          obtain ⟨⟨b10, p10, st10, ⟨⟩⟩, hz10, E10, hs10, hr10⟩ := hpost _ rfl
          have hz10 : z10 = some (b10, p10, st10, unit) := hz10
          subst hz10
          clear hpost hz10
          have E10 : nextV (b9, p9, st9, unit) 3 = (a, (b10, p10, st10, unit)) := E10; have hr10 : 0 ≤ a ∧ a < 3 := hr10 (show (0 : Int) < 3 by decide)
          cbv)
       | (refine And.intro ?_ ?_))
      all_goals exact key a b10 p10 st10 ⟨E10, hs10, hr10⟩
     rintro a b10 p10 st10 ⟨E10, hs10, hr10⟩
     apply cut4 (P := fun (c : Int) (b11 : List Int) (p11 st11 : Int) => nextV (b10, p10, st10, unit) (bl - 2) = (c, (b11, p11, st11, unit)) ∧ SrcOK (b11, p11, st11, unit) ∧ (0 ≤ c ∧ c < bl - 2))
     ·intro key
      refine ⟨ox35_12, (fun _ => by kernel_rfl), ?_⟩
      cbv
      repeat' (first
       | exact True.intro
       | (refine And.intro ?_ True.intro)
       | (fail_if_success have := E11
          refine And.intro (fun _ => ⟨_, rfl, hs10⟩) ?_
          rintro ⟨(c : Int), ⟨⟩⟩ ⟨z11, zz11, ⟨⟩⟩ hpost - -
          obtain ⟨⟨b11, p11, st11, ⟨⟩⟩, hz11, E11, hs11, hr11⟩ := hpost _ rfl
          have hz11 : z11 = some (b11, p11, st11, unit) := hz11
          subst hz11
          clear hpost hz11
          have E11 : nextV (b10, p10, st10, unit) (bl - 2) = (c, (b11, p11, st11, unit)) := (by rw [← hb2]; exact E11); have hr11 : 0 ≤ c ∧ c < bl - 2 := (by rw [← hb2]; exact hr11 hb2p)
          cbv)
       | (refine And.intro (hroom _) ?_)
       | (refine And.intro ?_ ?_))
      all_goals exact key c b11 p11 st11 ⟨E11, hs11, hr11⟩
     rintro c b11 p11 st11 ⟨E11, hs11, hr11⟩
     have hh := root_step hg hne hni hbl hr10 hr11 hin hrl hj hNN E10 E11 ht
     subst hM
     exact ⟨_, hh.1, i + 1, _, _, _, b11, p11, st11, hh.2.1, hin, hh.2.2.1, hs11, hh.2.2.2.1, hh.2.2.2.2.1, hh.2.2.2.2.2.1, hh.2.2.2.2.2.2, rfl, .inr rfl⟩
    ·have hin : i = ((16 : Int)).toNat := by
      have : ¬ j < 16 := by
       subst hM
       intro hh
       exact absurd ((show real.dec (real.lt j _) = true from dec_iff.2 hh).symm.trans h9) (by decide)
      rw [hnM] at this
      (try simp only [jqn] at hj); (try simp only [jqi] at hj)
      omega
     clear h9
     refine ⟨fun _ => ⟨_, rfl, hs9⟩, ?_⟩
     rintro ⟨(e : Int), ⟨⟩⟩ ⟨z14, zz14, ⟨⟩⟩ hpost - -
     obtain ⟨⟨b14, p14, st14, ⟨⟩⟩, hz14, E14, hs14, hr14⟩ := hpost _ rfl
     have hz14 : z14 = some (b14, p14, st14, unit) := hz14
     subst hz14
     clear hpost hz14
     have E14 : nextV (b9, p9, st9, unit) 8 = (e, (b14, p14, st14, unit)) := E14
     have hr14 : 0 ≤ e ∧ e < 8 := hr14 (show (0 : Int) < 8 by decide)
     cbv
     refine splM (fun h9 => ?_) (fun h9 => ?_) <;> cbv
     ·have he : e = 0 := by subst hM; exact dec_iff.1 h9
      clear h9
      rintro - s hs
      cases hs
      have hent := ht.symm.trans (congrArg (fun z => rootsV z bl ne (b9, p9, st9, unit) ([] : List RootD)) (show ((16 : Int)).toNat - i = 0 by omega))
      have hlv : lastV bl (wrap .i64 (1099511627776 - gq)) (wrap .i64 (2 + t)) ((ne, ([] : List RootD)), (b9, p9, st9, unit)) = ((bl, wrap .i64 (1099511627776 - gq), 65535, wrap .i64 (2 + t), ([] : List RootD), unit), (b14, p14, st14, unit)) := by
       unfold lastV
       show ((bl, wrap .i64 (1099511627776 - gq), (if (nextV (b9, p9, st9, unit) 8).1 = 0 then 65535 else ne), wrap .i64 (2 + t), ([] : List RootD), unit), (nextV (b9, p9, st9, unit) 8).2) = _
       rw [E14]
       show ((bl, wrap .i64 (1099511627776 - gq), (if e = 0 then 65535 else ne), wrap .i64 (2 + t), ([] : List RootD), unit), (b14, p14, st14, unit)) = _
       rw [if_pos he]
      have hlen : 1 ≤ (([] : List RootD)).length ∧ (([] : List RootD)).length ≤ 16 := by omega
      have hok := last_ok (ge := wrap .i64 (1099511627776 - gq)) (ta := wrap .i64 (2 + t)) (r := ((ne, ([] : List RootD)), (b9, p9, st9, unit))) hbl hger htar hne hlen hg
      rw [hlv] at hok
      have hsv := (hnode _ hent).trans hlv
      subst hM
      exact ⟨(b14, p14, st14, unit), rfl, hsv, hs14, hok⟩
     ·have he : ¬ e = 0 := by
       subst hM
       intro hh
       exact absurd ((show real.dec (real.eq e 0) = true from dec_iff.2 hh).symm.trans h9) (by decide)
      clear h9
      rintro - s hs
      cases hs
      have hent := ht.symm.trans (congrArg (fun z => rootsV z bl ne (b9, p9, st9, unit) ([] : List RootD)) (show ((16 : Int)).toNat - i = 0 by omega))
      have hlv : lastV bl (wrap .i64 (1099511627776 - gq)) (wrap .i64 (2 + t)) ((ne, ([] : List RootD)), (b9, p9, st9, unit)) = ((bl, wrap .i64 (1099511627776 - gq), ne, wrap .i64 (2 + t), ([] : List RootD), unit), (b14, p14, st14, unit)) := by
       unfold lastV
       show ((bl, wrap .i64 (1099511627776 - gq), (if (nextV (b9, p9, st9, unit) 8).1 = 0 then 65535 else ne), wrap .i64 (2 + t), ([] : List RootD), unit), (nextV (b9, p9, st9, unit) 8).2) = _
       rw [E14]
       show ((bl, wrap .i64 (1099511627776 - gq), (if e = 0 then 65535 else ne), wrap .i64 (2 + t), ([] : List RootD), unit), (b14, p14, st14, unit)) = _
       rw [if_neg he]
      have hlen : 1 ≤ (([] : List RootD)).length ∧ (([] : List RootD)).length ≤ 16 := by omega
      have hok := last_ok (ge := wrap .i64 (1099511627776 - gq)) (ta := wrap .i64 (2 + t)) (r := ((ne, ([] : List RootD)), (b9, p9, st9, unit))) hbl hger htar hne hlen hg
      rw [hlv] at hok
      have hsv := (hnode _ hent).trans hlv
      subst hM
      exact ⟨(b14, p14, st14, unit), rfl, hsv, hs14, hok⟩
   ·skip
    cbv
    refine splM (fun h9 => ?_) (fun h9 => ?_) <;> cbv
    ·have hin : i < ((16 : Int)).toNat := by
      have : j < 16 := by subst hM; exact dec_iff.1 h9
      rw [hnM] at this
      (try simp only [jqn] at hj); (try simp only [jqi] at hj)
      omega
     clear h9
     have hroom : ∀ x : RootD, M.room (rs) [x] := fun x => by
      subst hM
      show (rs).length + 1 ≤ 2 ^ 36
      omega
     have hlt : ((16 : Int)).toNat - (i + 1) < ((16 : Int)).toNat - i := by omega
     apply cut4 (P := fun (a : Int) (b10 : List Int) (p10 st10 : Int) => nextV (b9, p9, st9, unit) 3 = (a, (b10, p10, st10, unit)) ∧ SrcOK (b10, p10, st10, unit) ∧ (0 ≤ a ∧ a < 3))
     ·intro key
      refine ⟨ox35_11, (fun _ => by kernel_rfl), ?_⟩
      cbv
      repeat' (first
       | exact True.intro
       | (refine And.intro ?_ True.intro)
       | (fail_if_success have := E10
          refine And.intro (fun _ => ⟨_, rfl, hs9⟩) ?_
          rintro ⟨(a : Int), ⟨⟩⟩ ⟨z10, zz10, ⟨⟩⟩ hpost - -
          obtain ⟨⟨b10, p10, st10, ⟨⟩⟩, hz10, E10, hs10, hr10⟩ := hpost _ rfl
          have hz10 : z10 = some (b10, p10, st10, unit) := hz10
          subst hz10
          clear hpost hz10
          have E10 : nextV (b9, p9, st9, unit) 3 = (a, (b10, p10, st10, unit)) := E10; have hr10 : 0 ≤ a ∧ a < 3 := hr10 (show (0 : Int) < 3 by decide)
          cbv)
       | (refine And.intro ?_ ?_))
      all_goals exact key a b10 p10 st10 ⟨E10, hs10, hr10⟩
     rintro a b10 p10 st10 ⟨E10, hs10, hr10⟩
     apply cut4 (P := fun (c : Int) (b11 : List Int) (p11 st11 : Int) => nextV (b10, p10, st10, unit) (bl - 2) = (c, (b11, p11, st11, unit)) ∧ SrcOK (b11, p11, st11, unit) ∧ (0 ≤ c ∧ c < bl - 2))
     ·intro key
      refine ⟨ox35_12, (fun _ => by kernel_rfl), ?_⟩
      cbv
      repeat' (first
       | exact True.intro
       | (refine And.intro ?_ True.intro)
       | (fail_if_success have := E11
          refine And.intro (fun _ => ⟨_, rfl, hs10⟩) ?_
          rintro ⟨(c : Int), ⟨⟩⟩ ⟨z11, zz11, ⟨⟩⟩ hpost - -
          obtain ⟨⟨b11, p11, st11, ⟨⟩⟩, hz11, E11, hs11, hr11⟩ := hpost _ rfl
          have hz11 : z11 = some (b11, p11, st11, unit) := hz11
          subst hz11
          clear hpost hz11
          have E11 : nextV (b10, p10, st10, unit) (bl - 2) = (c, (b11, p11, st11, unit)) := (by rw [← hb2]; exact E11); have hr11 : 0 ≤ c ∧ c < bl - 2 := (by rw [← hb2]; exact hr11 hb2p)
          cbv)
       | (refine And.intro (hroom _) ?_)
       | (refine And.intro ?_ ?_))
      all_goals exact key c b11 p11 st11 ⟨E11, hs11, hr11⟩
     rintro c b11 p11 st11 ⟨E11, hs11, hr11⟩
     have hh := root_step hg hne hni hbl hr10 hr11 hin hrl hj hNN E10 E11 ht
     subst hM
     exact ⟨_, hh.1, i + 1, _, _, _, b11, p11, st11, hh.2.1, hin, hh.2.2.1, hs11, hh.2.2.2.1, hh.2.2.2.2.1, hh.2.2.2.2.2.1, hh.2.2.2.2.2.2, rfl, .inr rfl⟩
    ·have hin : i = ((16 : Int)).toNat := by
      have : ¬ j < 16 := by
       subst hM
       intro hh
       exact absurd ((show real.dec (real.lt j _) = true from dec_iff.2 hh).symm.trans h9) (by decide)
      rw [hnM] at this
      (try simp only [jqn] at hj); (try simp only [jqi] at hj)
      omega
     clear h9
     refine ⟨fun _ => ⟨_, rfl, hs9⟩, ?_⟩
     rintro ⟨(e : Int), ⟨⟩⟩ ⟨z14, zz14, ⟨⟩⟩ hpost - -
     obtain ⟨⟨b14, p14, st14, ⟨⟩⟩, hz14, E14, hs14, hr14⟩ := hpost _ rfl
     have hz14 : z14 = some (b14, p14, st14, unit) := hz14
     subst hz14
     clear hpost hz14
     have E14 : nextV (b9, p9, st9, unit) 8 = (e, (b14, p14, st14, unit)) := E14
     have hr14 : 0 ≤ e ∧ e < 8 := hr14 (show (0 : Int) < 8 by decide)
     cbv
     refine splM (fun h9 => ?_) (fun h9 => ?_) <;> cbv
     ·have he : e = 0 := by subst hM; exact dec_iff.1 h9
      clear h9
      rintro - s hs
      cases hs
      have hent := ht.symm.trans (congrArg (fun z => rootsV z bl ne (b9, p9, st9, unit) rs) (show ((16 : Int)).toNat - i = 0 by omega))
      have hlv : lastV bl (wrap .i64 (1099511627776 - gq)) (wrap .i64 (2 + t)) ((ne, rs), (b9, p9, st9, unit)) = ((bl, wrap .i64 (1099511627776 - gq), 65535, wrap .i64 (2 + t), rs, unit), (b14, p14, st14, unit)) := by
       unfold lastV
       show ((bl, wrap .i64 (1099511627776 - gq), (if (nextV (b9, p9, st9, unit) 8).1 = 0 then 65535 else ne), wrap .i64 (2 + t), rs, unit), (nextV (b9, p9, st9, unit) 8).2) = _
       rw [E14]
       show ((bl, wrap .i64 (1099511627776 - gq), (if e = 0 then 65535 else ne), wrap .i64 (2 + t), rs, unit), (b14, p14, st14, unit)) = _
       rw [if_pos he]
      have hlen : 1 ≤ (rs).length ∧ (rs).length ≤ 16 := by omega
      have hok := last_ok (ge := wrap .i64 (1099511627776 - gq)) (ta := wrap .i64 (2 + t)) (r := ((ne, rs), (b9, p9, st9, unit))) hbl hger htar hne hlen hg
      rw [hlv] at hok
      have hsv := (hnode _ hent).trans hlv
      subst hM
      exact ⟨(b14, p14, st14, unit), rfl, hsv, hs14, hok⟩
     ·have he : ¬ e = 0 := by
       subst hM
       intro hh
       exact absurd ((show real.dec (real.eq e 0) = true from dec_iff.2 hh).symm.trans h9) (by decide)
      clear h9
      rintro - s hs
      cases hs
      have hent := ht.symm.trans (congrArg (fun z => rootsV z bl ne (b9, p9, st9, unit) rs) (show ((16 : Int)).toNat - i = 0 by omega))
      have hlv : lastV bl (wrap .i64 (1099511627776 - gq)) (wrap .i64 (2 + t)) ((ne, rs), (b9, p9, st9, unit)) = ((bl, wrap .i64 (1099511627776 - gq), ne, wrap .i64 (2 + t), rs, unit), (b14, p14, st14, unit)) := by
       unfold lastV
       show ((bl, wrap .i64 (1099511627776 - gq), (if (nextV (b9, p9, st9, unit) 8).1 = 0 then 65535 else ne), wrap .i64 (2 + t), rs, unit), (nextV (b9, p9, st9, unit) 8).2) = _
       rw [E14]
       show ((bl, wrap .i64 (1099511627776 - gq), (if e = 0 then 65535 else ne), wrap .i64 (2 + t), rs, unit), (b14, p14, st14, unit)) = _
       rw [if_neg he]
      have hlen : 1 ≤ (rs).length ∧ (rs).length ≤ 16 := by omega
      have hok := last_ok (ge := wrap .i64 (1099511627776 - gq)) (ta := wrap .i64 (2 + t)) (r := ((ne, rs), (b9, p9, st9, unit))) hbl hger htar hne hlen hg
      rw [hlv] at hok
      have hsv := (hnode _ hent).trans hlv
      subst hM
      exact ⟨(b14, p14, st14, unit), rfl, hsv, hs14, hok⟩
  ·have hm : ¬ mm = 0 := by
    subst hM
    intro hh
    exact absurd ((show real.dec (real.eq mm 0) = true from dec_iff.2 hh).symm.trans h) (by decide)
   clear h
   have hnM : M.wrap .i64 (M.add 1 n0) = wrap .i64 (1 + n0) := by subst hM; rfl
   have hnv : wrap .i64 (1 + n0) = 1 + n0 := w64 (by omega)
   have hNN : (wrap .i64 (1 + n0)).toNat ≤ 16 := by omega
   have hnode : ∀ r, rootsV (wrap .i64 (1 + n0)).toNat bl 1 (b7, p7, st7, unit) [] = r → superV (b0, p0, st0, unit) = lastV bl (wrap .i64 (1099511627776 - gq)) (wrap .i64 (2 + t)) r := fun r hr => by
    unfold superV
    rw [E1]
    show super1 bl (genV (nextV (b1, p1, st1, unit) 300)) = _
    rw [E2, hgen]
    unfold super1
    show lastV bl (wrap .i64 (1099511627776 - gq)) (wrap .i64 (2 + (nextV (b4, p4, st4, unit) (wrap .i64 (bl - 2))).1)) (rootsV (numV (nextV (b4, p4, st4, unit) (wrap .i64 (bl - 2))).2).1.toNat bl 1 (numV (nextV (b4, p4, st4, unit) (wrap .i64 (bl - 2))).2).2 []) = _
    rw [hb3, E5]
    show lastV bl (wrap .i64 (1099511627776 - gq)) (wrap .i64 (2 + t)) (rootsV (numV (b5, p5, st5, unit)).1.toNat bl 1 (numV (b5, p5, st5, unit)).2 []) = _
    have hnum : numV (b5, p5, st5, unit) = (wrap .i64 (1 + n0), (b7, p7, st7, unit)) := by
     unfold numV
     rw [E6]
     show (if (nextV (b6, p6, st6, unit) 6).1 = 0 then (16, (nextV (b6, p6, st6, unit) 6).2) else (wrap .i64 (1 + n0), (nextV (b6, p6, st6, unit) 6).2)) = _
     rw [E7]
     show (if mm = 0 then (16, (b7, p7, st7, unit)) else (wrap .i64 (1 + n0), (b7, p7, st7, unit))) = _
     rw [if_neg hm]
    rw [hnum]
    show lastV bl (wrap .i64 (1099511627776 - gq)) (wrap .i64 (2 + t)) (rootsV (wrap .i64 (1 + n0)).toNat bl 1 (b7, p7, st7, unit) []) = _
    rw [hr]
   refine ⟨fun m Γ => ∃ (i : Nat) (j ne : Int) (rs : List RootD) (b9 : List Int) (p9 st9 : Int), j = i ∧ i ≤ (wrap .i64 (1 + n0)).toNat ∧ rs.length = i ∧ SrcOK (b9, p9, st9, unit) ∧ (1 ≤ ne ∧ ne ≤ 1000) ∧ ne ≤ 1 + 3 * (i : Int) ∧ GoodO bl ne rs ∧ rootsV ((wrap .i64 (1 + n0)).toNat - i) bl ne (b9, p9, st9, unit) rs = rootsV (wrap .i64 (1 + n0)).toNat bl 1 (b7, p7, st7, unit) [] ∧ m = (wrap .i64 (1 + n0)).toNat - i ∧ ((rs = [] ∧ Γ = ⟨67, [(0, .ad 0 tySrc 0 []), (2, .ad 1 tySup 0 []), (3, .ad 2 tySup 0 []), (4, .pv [] (.int .i64) (M.wrap .i64 (M.add 1 n0))), (5, .pv [] (.int .i64) j)], [(0, .box (.consA (.pv [] tyB b9) (.consA (.pv [] (.int .i64) p9) (.consA (.pv [] (.int .u64) st9) .nilA)))), (1, .box (.consA (.pv [] (.int .i64) 0) (.consA (.pv [] (.int .i64) 0) (.consA (.pv [] (.int .i64) 0) (.consA (.pv [] (.int .i64) 0) (.consA .nils .nilA)))))), (2, .box (.consA (.pv [] (.int .i64) bl) (.consA (.pv [] (.int .i64) (M.wrap .i64 (M.sub 1099511627776 gq))) (.consA (.pv [] (.int .i64) ne) (.consA (.pv [] (.int .i64) (M.wrap .i64 (M.add 2 t))) (.consA .nils .nilA))))))], [.ad 0 tySrc 0 []]⟩) ∨ Γ = ⟨67, [(0, .ad 0 tySrc 0 []), (2, .ad 1 tySup 0 []), (3, .ad 2 tySup 0 []), (4, .pv [] (.int .i64) (M.wrap .i64 (M.add 1 n0))), (5, .pv [] (.int .i64) j)], [(0, .box (.consA (.pv [] tyB b9) (.consA (.pv [] (.int .i64) p9) (.consA (.pv [] (.int .u64) st9) .nilA)))), (1, .box (.consA (.pv [] (.int .i64) 0) (.consA (.pv [] (.int .i64) 0) (.consA (.pv [] (.int .i64) 0) (.consA (.pv [] (.int .i64) 0) (.consA .nils .nilA)))))), (2, .box (.consA (.pv [] (.int .i64) bl) (.consA (.pv [] (.int .i64) (M.wrap .i64 (M.sub 1099511627776 gq))) (.consA (.pv [] (.int .i64) ne) (.consA (.pv [] (.int .i64) (M.wrap .i64 (M.add 2 t))) (.consA (.ref 4) .nilA)))))), (4, .row 0 tyRoot rs)], [.ad 0 tySrc 0 []]⟩), ⟨_, 0, 0, 1, [], b7, p7, st7, rfl, Nat.zero_le _, rfl, hs7, ⟨by omega, by omega⟩, by omega, ⟨fun i hi => absurd hi (Nat.not_lt_zero i), fun h => absurd h (Nat.not_lt_zero 0)⟩, rfl, rfl, .inl ⟨rfl, rfl⟩⟩, ?_⟩
   rintro m _ ⟨i, j, ne, rs, b9, p9, st9, hj, hi, hrl, hs9, hne, hni, hg, ht, rfl, (⟨he0, rfl⟩ | rfl)⟩ -
   ·subst he0
    cbv
    refine splM (fun h9 => ?_) (fun h9 => ?_) <;> cbv
    ·have hin : i < (wrap .i64 (1 + n0)).toNat := by
      have : j < M.wrap .i64 (M.add 1 n0) := by subst hM; exact dec_iff.1 h9
      rw [hnM] at this
      (try simp only [jqn] at hj); (try simp only [jqi] at hj)
      omega
     clear h9
     have hroom : ∀ x : RootD, M.room (([] : List RootD)) [x] := fun x => by
      subst hM
      show (([] : List RootD)).length + 1 ≤ 2 ^ 36
      omega
     have hlt : (wrap .i64 (1 + n0)).toNat - (i + 1) < (wrap .i64 (1 + n0)).toNat - i := by omega
     apply cut4 (P := fun (a : Int) (b10 : List Int) (p10 st10 : Int) => nextV (b9, p9, st9, unit) 3 = (a, (b10, p10, st10, unit)) ∧ SrcOK (b10, p10, st10, unit) ∧ (0 ≤ a ∧ a < 3))
     ·intro key
      refine ⟨ox35_11, (fun _ => by kernel_rfl), ?_⟩
      cbv
      repeat' (first
       | exact True.intro
       | (refine And.intro ?_ True.intro)
       | (fail_if_success have := E10
          refine And.intro (fun _ => ⟨_, rfl, hs9⟩) ?_
          rintro ⟨(a : Int), ⟨⟩⟩ ⟨z10, zz10, ⟨⟩⟩ hpost - -
          obtain ⟨⟨b10, p10, st10, ⟨⟩⟩, hz10, E10, hs10, hr10⟩ := hpost _ rfl
          have hz10 : z10 = some (b10, p10, st10, unit) := hz10
          subst hz10
          clear hpost hz10
          have E10 : nextV (b9, p9, st9, unit) 3 = (a, (b10, p10, st10, unit)) := E10; have hr10 : 0 ≤ a ∧ a < 3 := hr10 (show (0 : Int) < 3 by decide)
          cbv)
       | (refine And.intro ?_ ?_))
      all_goals exact key a b10 p10 st10 ⟨E10, hs10, hr10⟩
     rintro a b10 p10 st10 ⟨E10, hs10, hr10⟩
     apply cut4 (P := fun (c : Int) (b11 : List Int) (p11 st11 : Int) => nextV (b10, p10, st10, unit) (bl - 2) = (c, (b11, p11, st11, unit)) ∧ SrcOK (b11, p11, st11, unit) ∧ (0 ≤ c ∧ c < bl - 2))
     ·intro key
      refine ⟨ox35_12, (fun _ => by kernel_rfl), ?_⟩
      cbv
      repeat' (first
       | exact True.intro
       | (refine And.intro ?_ True.intro)
       | (fail_if_success have := E11
          refine And.intro (fun _ => ⟨_, rfl, hs10⟩) ?_
          rintro ⟨(c : Int), ⟨⟩⟩ ⟨z11, zz11, ⟨⟩⟩ hpost - -
          obtain ⟨⟨b11, p11, st11, ⟨⟩⟩, hz11, E11, hs11, hr11⟩ := hpost _ rfl
          have hz11 : z11 = some (b11, p11, st11, unit) := hz11
          subst hz11
          clear hpost hz11
          have E11 : nextV (b10, p10, st10, unit) (bl - 2) = (c, (b11, p11, st11, unit)) := (by rw [← hb2]; exact E11); have hr11 : 0 ≤ c ∧ c < bl - 2 := (by rw [← hb2]; exact hr11 hb2p)
          cbv)
       | (refine And.intro (hroom _) ?_)
       | (refine And.intro ?_ ?_))
      all_goals exact key c b11 p11 st11 ⟨E11, hs11, hr11⟩
     rintro c b11 p11 st11 ⟨E11, hs11, hr11⟩
     have hh := root_step hg hne hni hbl hr10 hr11 hin hrl hj hNN E10 E11 ht
     subst hM
     exact ⟨_, hh.1, i + 1, _, _, _, b11, p11, st11, hh.2.1, hin, hh.2.2.1, hs11, hh.2.2.2.1, hh.2.2.2.2.1, hh.2.2.2.2.2.1, hh.2.2.2.2.2.2, rfl, .inr rfl⟩
    ·have hin : i = (wrap .i64 (1 + n0)).toNat := by
      have : ¬ j < M.wrap .i64 (M.add 1 n0) := by
       subst hM
       intro hh
       exact absurd ((show real.dec (real.lt j _) = true from dec_iff.2 hh).symm.trans h9) (by decide)
      rw [hnM] at this
      (try simp only [jqn] at hj); (try simp only [jqi] at hj)
      omega
     clear h9
     refine ⟨fun _ => ⟨_, rfl, hs9⟩, ?_⟩
     rintro ⟨(e : Int), ⟨⟩⟩ ⟨z14, zz14, ⟨⟩⟩ hpost - -
     obtain ⟨⟨b14, p14, st14, ⟨⟩⟩, hz14, E14, hs14, hr14⟩ := hpost _ rfl
     have hz14 : z14 = some (b14, p14, st14, unit) := hz14
     subst hz14
     clear hpost hz14
     have E14 : nextV (b9, p9, st9, unit) 8 = (e, (b14, p14, st14, unit)) := E14
     have hr14 : 0 ≤ e ∧ e < 8 := hr14 (show (0 : Int) < 8 by decide)
     cbv
     refine splM (fun h9 => ?_) (fun h9 => ?_) <;> cbv
     ·have he : e = 0 := by subst hM; exact dec_iff.1 h9
      clear h9
      rintro - s hs
      cases hs
      have hent := ht.symm.trans (congrArg (fun z => rootsV z bl ne (b9, p9, st9, unit) ([] : List RootD)) (show (wrap .i64 (1 + n0)).toNat - i = 0 by omega))
      have hlv : lastV bl (wrap .i64 (1099511627776 - gq)) (wrap .i64 (2 + t)) ((ne, ([] : List RootD)), (b9, p9, st9, unit)) = ((bl, wrap .i64 (1099511627776 - gq), 65535, wrap .i64 (2 + t), ([] : List RootD), unit), (b14, p14, st14, unit)) := by
       unfold lastV
       show ((bl, wrap .i64 (1099511627776 - gq), (if (nextV (b9, p9, st9, unit) 8).1 = 0 then 65535 else ne), wrap .i64 (2 + t), ([] : List RootD), unit), (nextV (b9, p9, st9, unit) 8).2) = _
       rw [E14]
       show ((bl, wrap .i64 (1099511627776 - gq), (if e = 0 then 65535 else ne), wrap .i64 (2 + t), ([] : List RootD), unit), (b14, p14, st14, unit)) = _
       rw [if_pos he]
      have hlen : 1 ≤ (([] : List RootD)).length ∧ (([] : List RootD)).length ≤ 16 := by omega
      have hok := last_ok (ge := wrap .i64 (1099511627776 - gq)) (ta := wrap .i64 (2 + t)) (r := ((ne, ([] : List RootD)), (b9, p9, st9, unit))) hbl hger htar hne hlen hg
      rw [hlv] at hok
      have hsv := (hnode _ hent).trans hlv
      subst hM
      exact ⟨(b14, p14, st14, unit), rfl, hsv, hs14, hok⟩
     ·have he : ¬ e = 0 := by
       subst hM
       intro hh
       exact absurd ((show real.dec (real.eq e 0) = true from dec_iff.2 hh).symm.trans h9) (by decide)
      clear h9
      rintro - s hs
      cases hs
      have hent := ht.symm.trans (congrArg (fun z => rootsV z bl ne (b9, p9, st9, unit) ([] : List RootD)) (show (wrap .i64 (1 + n0)).toNat - i = 0 by omega))
      have hlv : lastV bl (wrap .i64 (1099511627776 - gq)) (wrap .i64 (2 + t)) ((ne, ([] : List RootD)), (b9, p9, st9, unit)) = ((bl, wrap .i64 (1099511627776 - gq), ne, wrap .i64 (2 + t), ([] : List RootD), unit), (b14, p14, st14, unit)) := by
       unfold lastV
       show ((bl, wrap .i64 (1099511627776 - gq), (if (nextV (b9, p9, st9, unit) 8).1 = 0 then 65535 else ne), wrap .i64 (2 + t), ([] : List RootD), unit), (nextV (b9, p9, st9, unit) 8).2) = _
       rw [E14]
       show ((bl, wrap .i64 (1099511627776 - gq), (if e = 0 then 65535 else ne), wrap .i64 (2 + t), ([] : List RootD), unit), (b14, p14, st14, unit)) = _
       rw [if_neg he]
      have hlen : 1 ≤ (([] : List RootD)).length ∧ (([] : List RootD)).length ≤ 16 := by omega
      have hok := last_ok (ge := wrap .i64 (1099511627776 - gq)) (ta := wrap .i64 (2 + t)) (r := ((ne, ([] : List RootD)), (b9, p9, st9, unit))) hbl hger htar hne hlen hg
      rw [hlv] at hok
      have hsv := (hnode _ hent).trans hlv
      subst hM
      exact ⟨(b14, p14, st14, unit), rfl, hsv, hs14, hok⟩
   ·skip
    cbv
    refine splM (fun h9 => ?_) (fun h9 => ?_) <;> cbv
    ·have hin : i < (wrap .i64 (1 + n0)).toNat := by
      have : j < M.wrap .i64 (M.add 1 n0) := by subst hM; exact dec_iff.1 h9
      rw [hnM] at this
      (try simp only [jqn] at hj); (try simp only [jqi] at hj)
      omega
     clear h9
     have hroom : ∀ x : RootD, M.room (rs) [x] := fun x => by
      subst hM
      show (rs).length + 1 ≤ 2 ^ 36
      omega
     have hlt : (wrap .i64 (1 + n0)).toNat - (i + 1) < (wrap .i64 (1 + n0)).toNat - i := by omega
     apply cut4 (P := fun (a : Int) (b10 : List Int) (p10 st10 : Int) => nextV (b9, p9, st9, unit) 3 = (a, (b10, p10, st10, unit)) ∧ SrcOK (b10, p10, st10, unit) ∧ (0 ≤ a ∧ a < 3))
     ·intro key
      refine ⟨ox35_11, (fun _ => by kernel_rfl), ?_⟩
      cbv
      repeat' (first
       | exact True.intro
       | (refine And.intro ?_ True.intro)
       | (fail_if_success have := E10
          refine And.intro (fun _ => ⟨_, rfl, hs9⟩) ?_
          rintro ⟨(a : Int), ⟨⟩⟩ ⟨z10, zz10, ⟨⟩⟩ hpost - -
          obtain ⟨⟨b10, p10, st10, ⟨⟩⟩, hz10, E10, hs10, hr10⟩ := hpost _ rfl
          have hz10 : z10 = some (b10, p10, st10, unit) := hz10
          subst hz10
          clear hpost hz10
          have E10 : nextV (b9, p9, st9, unit) 3 = (a, (b10, p10, st10, unit)) := E10; have hr10 : 0 ≤ a ∧ a < 3 := hr10 (show (0 : Int) < 3 by decide)
          cbv)
       | (refine And.intro ?_ ?_))
      all_goals exact key a b10 p10 st10 ⟨E10, hs10, hr10⟩
     rintro a b10 p10 st10 ⟨E10, hs10, hr10⟩
     apply cut4 (P := fun (c : Int) (b11 : List Int) (p11 st11 : Int) => nextV (b10, p10, st10, unit) (bl - 2) = (c, (b11, p11, st11, unit)) ∧ SrcOK (b11, p11, st11, unit) ∧ (0 ≤ c ∧ c < bl - 2))
     ·intro key
      refine ⟨ox35_12, (fun _ => by kernel_rfl), ?_⟩
      cbv
      repeat' (first
       | exact True.intro
       | (refine And.intro ?_ True.intro)
       | (fail_if_success have := E11
          refine And.intro (fun _ => ⟨_, rfl, hs10⟩) ?_
          rintro ⟨(c : Int), ⟨⟩⟩ ⟨z11, zz11, ⟨⟩⟩ hpost - -
          obtain ⟨⟨b11, p11, st11, ⟨⟩⟩, hz11, E11, hs11, hr11⟩ := hpost _ rfl
          have hz11 : z11 = some (b11, p11, st11, unit) := hz11
          subst hz11
          clear hpost hz11
          have E11 : nextV (b10, p10, st10, unit) (bl - 2) = (c, (b11, p11, st11, unit)) := (by rw [← hb2]; exact E11); have hr11 : 0 ≤ c ∧ c < bl - 2 := (by rw [← hb2]; exact hr11 hb2p)
          cbv)
       | (refine And.intro (hroom _) ?_)
       | (refine And.intro ?_ ?_))
      all_goals exact key c b11 p11 st11 ⟨E11, hs11, hr11⟩
     rintro c b11 p11 st11 ⟨E11, hs11, hr11⟩
     have hh := root_step hg hne hni hbl hr10 hr11 hin hrl hj hNN E10 E11 ht
     subst hM
     exact ⟨_, hh.1, i + 1, _, _, _, b11, p11, st11, hh.2.1, hin, hh.2.2.1, hs11, hh.2.2.2.1, hh.2.2.2.2.1, hh.2.2.2.2.2.1, hh.2.2.2.2.2.2, rfl, .inr rfl⟩
    ·have hin : i = (wrap .i64 (1 + n0)).toNat := by
      have : ¬ j < M.wrap .i64 (M.add 1 n0) := by
       subst hM
       intro hh
       exact absurd ((show real.dec (real.lt j _) = true from dec_iff.2 hh).symm.trans h9) (by decide)
      rw [hnM] at this
      (try simp only [jqn] at hj); (try simp only [jqi] at hj)
      omega
     clear h9
     refine ⟨fun _ => ⟨_, rfl, hs9⟩, ?_⟩
     rintro ⟨(e : Int), ⟨⟩⟩ ⟨z14, zz14, ⟨⟩⟩ hpost - -
     obtain ⟨⟨b14, p14, st14, ⟨⟩⟩, hz14, E14, hs14, hr14⟩ := hpost _ rfl
     have hz14 : z14 = some (b14, p14, st14, unit) := hz14
     subst hz14
     clear hpost hz14
     have E14 : nextV (b9, p9, st9, unit) 8 = (e, (b14, p14, st14, unit)) := E14
     have hr14 : 0 ≤ e ∧ e < 8 := hr14 (show (0 : Int) < 8 by decide)
     cbv
     refine splM (fun h9 => ?_) (fun h9 => ?_) <;> cbv
     ·have he : e = 0 := by subst hM; exact dec_iff.1 h9
      clear h9
      rintro - s hs
      cases hs
      have hent := ht.symm.trans (congrArg (fun z => rootsV z bl ne (b9, p9, st9, unit) rs) (show (wrap .i64 (1 + n0)).toNat - i = 0 by omega))
      have hlv : lastV bl (wrap .i64 (1099511627776 - gq)) (wrap .i64 (2 + t)) ((ne, rs), (b9, p9, st9, unit)) = ((bl, wrap .i64 (1099511627776 - gq), 65535, wrap .i64 (2 + t), rs, unit), (b14, p14, st14, unit)) := by
       unfold lastV
       show ((bl, wrap .i64 (1099511627776 - gq), (if (nextV (b9, p9, st9, unit) 8).1 = 0 then 65535 else ne), wrap .i64 (2 + t), rs, unit), (nextV (b9, p9, st9, unit) 8).2) = _
       rw [E14]
       show ((bl, wrap .i64 (1099511627776 - gq), (if e = 0 then 65535 else ne), wrap .i64 (2 + t), rs, unit), (b14, p14, st14, unit)) = _
       rw [if_pos he]
      have hlen : 1 ≤ (rs).length ∧ (rs).length ≤ 16 := by omega
      have hok := last_ok (ge := wrap .i64 (1099511627776 - gq)) (ta := wrap .i64 (2 + t)) (r := ((ne, rs), (b9, p9, st9, unit))) hbl hger htar hne hlen hg
      rw [hlv] at hok
      have hsv := (hnode _ hent).trans hlv
      subst hM
      exact ⟨(b14, p14, st14, unit), rfl, hsv, hs14, hok⟩
     ·have he : ¬ e = 0 := by
       subst hM
       intro hh
       exact absurd ((show real.dec (real.eq e 0) = true from dec_iff.2 hh).symm.trans h9) (by decide)
      clear h9
      rintro - s hs
      cases hs
      have hent := ht.symm.trans (congrArg (fun z => rootsV z bl ne (b9, p9, st9, unit) rs) (show (wrap .i64 (1 + n0)).toNat - i = 0 by omega))
      have hlv : lastV bl (wrap .i64 (1099511627776 - gq)) (wrap .i64 (2 + t)) ((ne, rs), (b9, p9, st9, unit)) = ((bl, wrap .i64 (1099511627776 - gq), ne, wrap .i64 (2 + t), rs, unit), (b14, p14, st14, unit)) := by
       unfold lastV
       show ((bl, wrap .i64 (1099511627776 - gq), (if (nextV (b9, p9, st9, unit) 8).1 = 0 then 65535 else ne), wrap .i64 (2 + t), rs, unit), (nextV (b9, p9, st9, unit) 8).2) = _
       rw [E14]
       show ((bl, wrap .i64 (1099511627776 - gq), (if e = 0 then 65535 else ne), wrap .i64 (2 + t), rs, unit), (b14, p14, st14, unit)) = _
       rw [if_neg he]
      have hlen : 1 ≤ (rs).length ∧ (rs).length ≤ 16 := by omega
      have hok := last_ok (ge := wrap .i64 (1099511627776 - gq)) (ta := wrap .i64 (2 + t)) (r := ((ne, rs), (b9, p9, st9, unit))) hbl hger htar hne hlen hg
      rw [hlv] at hok
      have hsv := (hnode _ hent).trans hlv
      subst hM
      exact ⟨(b14, p14, st14, unit), rfl, hsv, hs14, hok⟩
 ·have hgz : ¬ g = 0 := by
   subst hM
   intro hh
   exact absurd ((show real.dec (real.eq g 0) = true from dec_iff.2 hh).symm.trans h) (by decide)
  clear h
  have hgen : genV (ge, (b2, p2, st2, unit)) = (wrap .i64 (1 + ge), (b3, p3, st3, unit)) := by
   unfold genV
   show (if (nextV (b2, p2, st2, unit) 8).1 = 0 then _ else (wrap .i64 (1 + ge), (nextV (b2, p2, st2, unit) 8).2)) = _
   rw [E3]
   show (if g = 0 then _ else (wrap .i64 (1 + ge), (b3, p3, st3, unit))) = _
   rw [if_neg hgz]
  have hger : 1 ≤ wrap .i64 (1 + ge) ∧ wrap .i64 (1 + ge) ≤ 1099511627776 := by rw [w64 (by omega)]; omega
  refine ⟨fun _ => ⟨_, rfl, hs3⟩, ?_⟩
  rintro ⟨(t : Int), ⟨⟩⟩ ⟨z4, zz4, ⟨⟩⟩ hpost - -
  obtain ⟨⟨b4, p4, st4, ⟨⟩⟩, hz4, E4, hs4, hr4⟩ := hpost _ rfl
  have hz4 : z4 = some (b4, p4, st4, unit) := hz4
  subst hz4
  clear hpost hz4
  have E4 : nextV (b3, p3, st3, unit) (bl - 2) = (t, (b4, p4, st4, unit)) := by rw [← hb2]; exact E4
  have hr4 : (0 : Int) < bl - 2 → 0 ≤ t ∧ t < bl - 2 := by rw [← hb2]; exact hr4
  cbv
  have hr4 := hr4 (by omega)
  have htar : 2 ≤ wrap .i64 (2 + t) ∧ wrap .i64 (2 + t) < bl := by rw [w64 (by omega)]; omega
  refine ⟨fun _ => ⟨_, rfl, hs4⟩, ?_⟩
  rintro ⟨(n0 : Int), ⟨⟩⟩ ⟨z5, zz5, ⟨⟩⟩ hpost - -
  obtain ⟨⟨b5, p5, st5, ⟨⟩⟩, hz5, E5, hs5, hr5⟩ := hpost _ rfl
  have hz5 : z5 = some (b5, p5, st5, unit) := hz5
  subst hz5
  clear hpost hz5
  have E5 : nextV (b4, p4, st4, unit) 4 = (n0, (b5, p5, st5, unit)) := E5
  have hr5 : 0 ≤ n0 ∧ n0 < 4 := hr5 (show (0 : Int) < 4 by decide)
  cbv
  refine ⟨fun _ => ⟨_, rfl, hs5⟩, ?_⟩
  rintro ⟨(mm : Int), ⟨⟩⟩ ⟨z6, zz6, ⟨⟩⟩ hpost - -
  obtain ⟨⟨b6, p6, st6, ⟨⟩⟩, hz6, E6, hs6, hr6⟩ := hpost _ rfl
  have hz6 : z6 = some (b6, p6, st6, unit) := hz6
  subst hz6
  clear hpost hz6
  have E6 : nextV (b5, p5, st5, unit) 6 = (mm, (b6, p6, st6, unit)) := E6
  have hr6 : 0 ≤ mm ∧ mm < 6 := hr6 (show (0 : Int) < 6 by decide)
  cbv
  refine splM (fun h => ?_) (fun h => ?_) <;> cbv
  ·have hm : mm = 0 := by subst hM; exact dec_iff.1 h
   clear h
   have hnM : (16 : Int) = 16 := rfl
   have hNN : (16 : Int).toNat ≤ 16 := by decide
   have hnode : ∀ r, rootsV ((16 : Int)).toNat bl 1 (b6, p6, st6, unit) [] = r → superV (b0, p0, st0, unit) = lastV bl (wrap .i64 (1 + ge)) (wrap .i64 (2 + t)) r := fun r hr => by
    unfold superV
    rw [E1]
    show super1 bl (genV (nextV (b1, p1, st1, unit) 300)) = _
    rw [E2, hgen]
    unfold super1
    show lastV bl (wrap .i64 (1 + ge)) (wrap .i64 (2 + (nextV (b3, p3, st3, unit) (wrap .i64 (bl - 2))).1)) (rootsV (numV (nextV (b3, p3, st3, unit) (wrap .i64 (bl - 2))).2).1.toNat bl 1 (numV (nextV (b3, p3, st3, unit) (wrap .i64 (bl - 2))).2).2 []) = _
    rw [hb3, E4]
    show lastV bl (wrap .i64 (1 + ge)) (wrap .i64 (2 + t)) (rootsV (numV (b4, p4, st4, unit)).1.toNat bl 1 (numV (b4, p4, st4, unit)).2 []) = _
    have hnum : numV (b4, p4, st4, unit) = ((16 : Int), (b6, p6, st6, unit)) := by
     unfold numV
     rw [E5]
     show (if (nextV (b5, p5, st5, unit) 6).1 = 0 then (16, (nextV (b5, p5, st5, unit) 6).2) else (wrap .i64 (1 + n0), (nextV (b5, p5, st5, unit) 6).2)) = _
     rw [E6]
     show (if mm = 0 then (16, (b6, p6, st6, unit)) else (wrap .i64 (1 + n0), (b6, p6, st6, unit))) = _
     rw [if_pos hm]
    rw [hnum]
    show lastV bl (wrap .i64 (1 + ge)) (wrap .i64 (2 + t)) (rootsV ((16 : Int)).toNat bl 1 (b6, p6, st6, unit) []) = _
    rw [hr]
   refine ⟨fun m Γ => ∃ (i : Nat) (j ne : Int) (rs : List RootD) (b9 : List Int) (p9 st9 : Int), j = i ∧ i ≤ ((16 : Int)).toNat ∧ rs.length = i ∧ SrcOK (b9, p9, st9, unit) ∧ (1 ≤ ne ∧ ne ≤ 1000) ∧ ne ≤ 1 + 3 * (i : Int) ∧ GoodO bl ne rs ∧ rootsV (((16 : Int)).toNat - i) bl ne (b9, p9, st9, unit) rs = rootsV ((16 : Int)).toNat bl 1 (b6, p6, st6, unit) [] ∧ m = ((16 : Int)).toNat - i ∧ ((rs = [] ∧ Γ = ⟨67, [(0, .ad 0 tySrc 0 []), (2, .ad 1 tySup 0 []), (3, .ad 2 tySup 0 []), (4, .pv [] (.int .i64) (16)), (5, .pv [] (.int .i64) j)], [(0, .box (.consA (.pv [] tyB b9) (.consA (.pv [] (.int .i64) p9) (.consA (.pv [] (.int .u64) st9) .nilA)))), (1, .box (.consA (.pv [] (.int .i64) 0) (.consA (.pv [] (.int .i64) 0) (.consA (.pv [] (.int .i64) 0) (.consA (.pv [] (.int .i64) 0) (.consA .nils .nilA)))))), (2, .box (.consA (.pv [] (.int .i64) bl) (.consA (.pv [] (.int .i64) (M.wrap .i64 (M.add 1 ge))) (.consA (.pv [] (.int .i64) ne) (.consA (.pv [] (.int .i64) (M.wrap .i64 (M.add 2 t))) (.consA .nils .nilA))))))], [.ad 0 tySrc 0 []]⟩) ∨ Γ = ⟨67, [(0, .ad 0 tySrc 0 []), (2, .ad 1 tySup 0 []), (3, .ad 2 tySup 0 []), (4, .pv [] (.int .i64) (16)), (5, .pv [] (.int .i64) j)], [(0, .box (.consA (.pv [] tyB b9) (.consA (.pv [] (.int .i64) p9) (.consA (.pv [] (.int .u64) st9) .nilA)))), (1, .box (.consA (.pv [] (.int .i64) 0) (.consA (.pv [] (.int .i64) 0) (.consA (.pv [] (.int .i64) 0) (.consA (.pv [] (.int .i64) 0) (.consA .nils .nilA)))))), (2, .box (.consA (.pv [] (.int .i64) bl) (.consA (.pv [] (.int .i64) (M.wrap .i64 (M.add 1 ge))) (.consA (.pv [] (.int .i64) ne) (.consA (.pv [] (.int .i64) (M.wrap .i64 (M.add 2 t))) (.consA (.ref 4) .nilA)))))), (4, .row 0 tyRoot rs)], [.ad 0 tySrc 0 []]⟩), ⟨_, 0, 0, 1, [], b6, p6, st6, rfl, Nat.zero_le _, rfl, hs6, ⟨by omega, by omega⟩, by omega, ⟨fun i hi => absurd hi (Nat.not_lt_zero i), fun h => absurd h (Nat.not_lt_zero 0)⟩, rfl, rfl, .inl ⟨rfl, rfl⟩⟩, ?_⟩
   rintro m _ ⟨i, j, ne, rs, b9, p9, st9, hj, hi, hrl, hs9, hne, hni, hg, ht, rfl, (⟨he0, rfl⟩ | rfl)⟩ -
   ·subst he0
    cbv
    refine splM (fun h9 => ?_) (fun h9 => ?_) <;> cbv
    ·have hin : i < ((16 : Int)).toNat := by
      have : j < 16 := by subst hM; exact dec_iff.1 h9
      rw [hnM] at this
      (try simp only [jqn] at hj); (try simp only [jqi] at hj)
      omega
     clear h9
     have hroom : ∀ x : RootD, M.room (([] : List RootD)) [x] := fun x => by
      subst hM
      show (([] : List RootD)).length + 1 ≤ 2 ^ 36
      omega
     have hlt : ((16 : Int)).toNat - (i + 1) < ((16 : Int)).toNat - i := by omega
     apply cut4 (P := fun (a : Int) (b10 : List Int) (p10 st10 : Int) => nextV (b9, p9, st9, unit) 3 = (a, (b10, p10, st10, unit)) ∧ SrcOK (b10, p10, st10, unit) ∧ (0 ≤ a ∧ a < 3))
     ·intro key
      refine ⟨ox35_11, (fun _ => by kernel_rfl), ?_⟩
      cbv
      repeat' (first
       | exact True.intro
       | (refine And.intro ?_ True.intro)
       | (fail_if_success have := E10
          refine And.intro (fun _ => ⟨_, rfl, hs9⟩) ?_
          rintro ⟨(a : Int), ⟨⟩⟩ ⟨z10, zz10, ⟨⟩⟩ hpost - -
          obtain ⟨⟨b10, p10, st10, ⟨⟩⟩, hz10, E10, hs10, hr10⟩ := hpost _ rfl
          have hz10 : z10 = some (b10, p10, st10, unit) := hz10
          subst hz10
          clear hpost hz10
          have E10 : nextV (b9, p9, st9, unit) 3 = (a, (b10, p10, st10, unit)) := E10; have hr10 : 0 ≤ a ∧ a < 3 := hr10 (show (0 : Int) < 3 by decide)
          cbv)
       | (refine And.intro ?_ ?_))
      all_goals exact key a b10 p10 st10 ⟨E10, hs10, hr10⟩
     rintro a b10 p10 st10 ⟨E10, hs10, hr10⟩
     apply cut4 (P := fun (c : Int) (b11 : List Int) (p11 st11 : Int) => nextV (b10, p10, st10, unit) (bl - 2) = (c, (b11, p11, st11, unit)) ∧ SrcOK (b11, p11, st11, unit) ∧ (0 ≤ c ∧ c < bl - 2))
     ·intro key
      refine ⟨ox35_12, (fun _ => by kernel_rfl), ?_⟩
      cbv
      repeat' (first
       | exact True.intro
       | (refine And.intro ?_ True.intro)
       | (fail_if_success have := E11
          refine And.intro (fun _ => ⟨_, rfl, hs10⟩) ?_
          rintro ⟨(c : Int), ⟨⟩⟩ ⟨z11, zz11, ⟨⟩⟩ hpost - -
          obtain ⟨⟨b11, p11, st11, ⟨⟩⟩, hz11, E11, hs11, hr11⟩ := hpost _ rfl
          have hz11 : z11 = some (b11, p11, st11, unit) := hz11
          subst hz11
          clear hpost hz11
          have E11 : nextV (b10, p10, st10, unit) (bl - 2) = (c, (b11, p11, st11, unit)) := (by rw [← hb2]; exact E11); have hr11 : 0 ≤ c ∧ c < bl - 2 := (by rw [← hb2]; exact hr11 hb2p)
          cbv)
       | (refine And.intro (hroom _) ?_)
       | (refine And.intro ?_ ?_))
      all_goals exact key c b11 p11 st11 ⟨E11, hs11, hr11⟩
     rintro c b11 p11 st11 ⟨E11, hs11, hr11⟩
     have hh := root_step hg hne hni hbl hr10 hr11 hin hrl hj hNN E10 E11 ht
     subst hM
     exact ⟨_, hh.1, i + 1, _, _, _, b11, p11, st11, hh.2.1, hin, hh.2.2.1, hs11, hh.2.2.2.1, hh.2.2.2.2.1, hh.2.2.2.2.2.1, hh.2.2.2.2.2.2, rfl, .inr rfl⟩
    ·have hin : i = ((16 : Int)).toNat := by
      have : ¬ j < 16 := by
       subst hM
       intro hh
       exact absurd ((show real.dec (real.lt j _) = true from dec_iff.2 hh).symm.trans h9) (by decide)
      rw [hnM] at this
      (try simp only [jqn] at hj); (try simp only [jqi] at hj)
      omega
     clear h9
     refine ⟨fun _ => ⟨_, rfl, hs9⟩, ?_⟩
     rintro ⟨(e : Int), ⟨⟩⟩ ⟨z14, zz14, ⟨⟩⟩ hpost - -
     obtain ⟨⟨b14, p14, st14, ⟨⟩⟩, hz14, E14, hs14, hr14⟩ := hpost _ rfl
     have hz14 : z14 = some (b14, p14, st14, unit) := hz14
     subst hz14
     clear hpost hz14
     have E14 : nextV (b9, p9, st9, unit) 8 = (e, (b14, p14, st14, unit)) := E14
     have hr14 : 0 ≤ e ∧ e < 8 := hr14 (show (0 : Int) < 8 by decide)
     cbv
     refine splM (fun h9 => ?_) (fun h9 => ?_) <;> cbv
     ·have he : e = 0 := by subst hM; exact dec_iff.1 h9
      clear h9
      rintro - s hs
      cases hs
      have hent := ht.symm.trans (congrArg (fun z => rootsV z bl ne (b9, p9, st9, unit) ([] : List RootD)) (show ((16 : Int)).toNat - i = 0 by omega))
      have hlv : lastV bl (wrap .i64 (1 + ge)) (wrap .i64 (2 + t)) ((ne, ([] : List RootD)), (b9, p9, st9, unit)) = ((bl, wrap .i64 (1 + ge), 65535, wrap .i64 (2 + t), ([] : List RootD), unit), (b14, p14, st14, unit)) := by
       unfold lastV
       show ((bl, wrap .i64 (1 + ge), (if (nextV (b9, p9, st9, unit) 8).1 = 0 then 65535 else ne), wrap .i64 (2 + t), ([] : List RootD), unit), (nextV (b9, p9, st9, unit) 8).2) = _
       rw [E14]
       show ((bl, wrap .i64 (1 + ge), (if e = 0 then 65535 else ne), wrap .i64 (2 + t), ([] : List RootD), unit), (b14, p14, st14, unit)) = _
       rw [if_pos he]
      have hlen : 1 ≤ (([] : List RootD)).length ∧ (([] : List RootD)).length ≤ 16 := by omega
      have hok := last_ok (ge := wrap .i64 (1 + ge)) (ta := wrap .i64 (2 + t)) (r := ((ne, ([] : List RootD)), (b9, p9, st9, unit))) hbl hger htar hne hlen hg
      rw [hlv] at hok
      have hsv := (hnode _ hent).trans hlv
      subst hM
      exact ⟨(b14, p14, st14, unit), rfl, hsv, hs14, hok⟩
     ·have he : ¬ e = 0 := by
       subst hM
       intro hh
       exact absurd ((show real.dec (real.eq e 0) = true from dec_iff.2 hh).symm.trans h9) (by decide)
      clear h9
      rintro - s hs
      cases hs
      have hent := ht.symm.trans (congrArg (fun z => rootsV z bl ne (b9, p9, st9, unit) ([] : List RootD)) (show ((16 : Int)).toNat - i = 0 by omega))
      have hlv : lastV bl (wrap .i64 (1 + ge)) (wrap .i64 (2 + t)) ((ne, ([] : List RootD)), (b9, p9, st9, unit)) = ((bl, wrap .i64 (1 + ge), ne, wrap .i64 (2 + t), ([] : List RootD), unit), (b14, p14, st14, unit)) := by
       unfold lastV
       show ((bl, wrap .i64 (1 + ge), (if (nextV (b9, p9, st9, unit) 8).1 = 0 then 65535 else ne), wrap .i64 (2 + t), ([] : List RootD), unit), (nextV (b9, p9, st9, unit) 8).2) = _
       rw [E14]
       show ((bl, wrap .i64 (1 + ge), (if e = 0 then 65535 else ne), wrap .i64 (2 + t), ([] : List RootD), unit), (b14, p14, st14, unit)) = _
       rw [if_neg he]
      have hlen : 1 ≤ (([] : List RootD)).length ∧ (([] : List RootD)).length ≤ 16 := by omega
      have hok := last_ok (ge := wrap .i64 (1 + ge)) (ta := wrap .i64 (2 + t)) (r := ((ne, ([] : List RootD)), (b9, p9, st9, unit))) hbl hger htar hne hlen hg
      rw [hlv] at hok
      have hsv := (hnode _ hent).trans hlv
      subst hM
      exact ⟨(b14, p14, st14, unit), rfl, hsv, hs14, hok⟩
   ·skip
    cbv
    refine splM (fun h9 => ?_) (fun h9 => ?_) <;> cbv
    ·have hin : i < ((16 : Int)).toNat := by
      have : j < 16 := by subst hM; exact dec_iff.1 h9
      rw [hnM] at this
      (try simp only [jqn] at hj); (try simp only [jqi] at hj)
      omega
     clear h9
     have hroom : ∀ x : RootD, M.room (rs) [x] := fun x => by
      subst hM
      show (rs).length + 1 ≤ 2 ^ 36
      omega
     have hlt : ((16 : Int)).toNat - (i + 1) < ((16 : Int)).toNat - i := by omega
     apply cut4 (P := fun (a : Int) (b10 : List Int) (p10 st10 : Int) => nextV (b9, p9, st9, unit) 3 = (a, (b10, p10, st10, unit)) ∧ SrcOK (b10, p10, st10, unit) ∧ (0 ≤ a ∧ a < 3))
     ·intro key
      refine ⟨ox35_11, (fun _ => by kernel_rfl), ?_⟩
      cbv
      repeat' (first
       | exact True.intro
       | (refine And.intro ?_ True.intro)
       | (fail_if_success have := E10
          refine And.intro (fun _ => ⟨_, rfl, hs9⟩) ?_
          rintro ⟨(a : Int), ⟨⟩⟩ ⟨z10, zz10, ⟨⟩⟩ hpost - -
          obtain ⟨⟨b10, p10, st10, ⟨⟩⟩, hz10, E10, hs10, hr10⟩ := hpost _ rfl
          have hz10 : z10 = some (b10, p10, st10, unit) := hz10
          subst hz10
          clear hpost hz10
          have E10 : nextV (b9, p9, st9, unit) 3 = (a, (b10, p10, st10, unit)) := E10; have hr10 : 0 ≤ a ∧ a < 3 := hr10 (show (0 : Int) < 3 by decide)
          cbv)
       | (refine And.intro ?_ ?_))
      all_goals exact key a b10 p10 st10 ⟨E10, hs10, hr10⟩
     rintro a b10 p10 st10 ⟨E10, hs10, hr10⟩
     apply cut4 (P := fun (c : Int) (b11 : List Int) (p11 st11 : Int) => nextV (b10, p10, st10, unit) (bl - 2) = (c, (b11, p11, st11, unit)) ∧ SrcOK (b11, p11, st11, unit) ∧ (0 ≤ c ∧ c < bl - 2))
     ·intro key
      refine ⟨ox35_12, (fun _ => by kernel_rfl), ?_⟩
      cbv
      repeat' (first
       | exact True.intro
       | (refine And.intro ?_ True.intro)
       | (fail_if_success have := E11
          refine And.intro (fun _ => ⟨_, rfl, hs10⟩) ?_
          rintro ⟨(c : Int), ⟨⟩⟩ ⟨z11, zz11, ⟨⟩⟩ hpost - -
          obtain ⟨⟨b11, p11, st11, ⟨⟩⟩, hz11, E11, hs11, hr11⟩ := hpost _ rfl
          have hz11 : z11 = some (b11, p11, st11, unit) := hz11
          subst hz11
          clear hpost hz11
          have E11 : nextV (b10, p10, st10, unit) (bl - 2) = (c, (b11, p11, st11, unit)) := (by rw [← hb2]; exact E11); have hr11 : 0 ≤ c ∧ c < bl - 2 := (by rw [← hb2]; exact hr11 hb2p)
          cbv)
       | (refine And.intro (hroom _) ?_)
       | (refine And.intro ?_ ?_))
      all_goals exact key c b11 p11 st11 ⟨E11, hs11, hr11⟩
     rintro c b11 p11 st11 ⟨E11, hs11, hr11⟩
     have hh := root_step hg hne hni hbl hr10 hr11 hin hrl hj hNN E10 E11 ht
     subst hM
     exact ⟨_, hh.1, i + 1, _, _, _, b11, p11, st11, hh.2.1, hin, hh.2.2.1, hs11, hh.2.2.2.1, hh.2.2.2.2.1, hh.2.2.2.2.2.1, hh.2.2.2.2.2.2, rfl, .inr rfl⟩
    ·have hin : i = ((16 : Int)).toNat := by
      have : ¬ j < 16 := by
       subst hM
       intro hh
       exact absurd ((show real.dec (real.lt j _) = true from dec_iff.2 hh).symm.trans h9) (by decide)
      rw [hnM] at this
      (try simp only [jqn] at hj); (try simp only [jqi] at hj)
      omega
     clear h9
     refine ⟨fun _ => ⟨_, rfl, hs9⟩, ?_⟩
     rintro ⟨(e : Int), ⟨⟩⟩ ⟨z14, zz14, ⟨⟩⟩ hpost - -
     obtain ⟨⟨b14, p14, st14, ⟨⟩⟩, hz14, E14, hs14, hr14⟩ := hpost _ rfl
     have hz14 : z14 = some (b14, p14, st14, unit) := hz14
     subst hz14
     clear hpost hz14
     have E14 : nextV (b9, p9, st9, unit) 8 = (e, (b14, p14, st14, unit)) := E14
     have hr14 : 0 ≤ e ∧ e < 8 := hr14 (show (0 : Int) < 8 by decide)
     cbv
     refine splM (fun h9 => ?_) (fun h9 => ?_) <;> cbv
     ·have he : e = 0 := by subst hM; exact dec_iff.1 h9
      clear h9
      rintro - s hs
      cases hs
      have hent := ht.symm.trans (congrArg (fun z => rootsV z bl ne (b9, p9, st9, unit) rs) (show ((16 : Int)).toNat - i = 0 by omega))
      have hlv : lastV bl (wrap .i64 (1 + ge)) (wrap .i64 (2 + t)) ((ne, rs), (b9, p9, st9, unit)) = ((bl, wrap .i64 (1 + ge), 65535, wrap .i64 (2 + t), rs, unit), (b14, p14, st14, unit)) := by
       unfold lastV
       show ((bl, wrap .i64 (1 + ge), (if (nextV (b9, p9, st9, unit) 8).1 = 0 then 65535 else ne), wrap .i64 (2 + t), rs, unit), (nextV (b9, p9, st9, unit) 8).2) = _
       rw [E14]
       show ((bl, wrap .i64 (1 + ge), (if e = 0 then 65535 else ne), wrap .i64 (2 + t), rs, unit), (b14, p14, st14, unit)) = _
       rw [if_pos he]
      have hlen : 1 ≤ (rs).length ∧ (rs).length ≤ 16 := by omega
      have hok := last_ok (ge := wrap .i64 (1 + ge)) (ta := wrap .i64 (2 + t)) (r := ((ne, rs), (b9, p9, st9, unit))) hbl hger htar hne hlen hg
      rw [hlv] at hok
      have hsv := (hnode _ hent).trans hlv
      subst hM
      exact ⟨(b14, p14, st14, unit), rfl, hsv, hs14, hok⟩
     ·have he : ¬ e = 0 := by
       subst hM
       intro hh
       exact absurd ((show real.dec (real.eq e 0) = true from dec_iff.2 hh).symm.trans h9) (by decide)
      clear h9
      rintro - s hs
      cases hs
      have hent := ht.symm.trans (congrArg (fun z => rootsV z bl ne (b9, p9, st9, unit) rs) (show ((16 : Int)).toNat - i = 0 by omega))
      have hlv : lastV bl (wrap .i64 (1 + ge)) (wrap .i64 (2 + t)) ((ne, rs), (b9, p9, st9, unit)) = ((bl, wrap .i64 (1 + ge), ne, wrap .i64 (2 + t), rs, unit), (b14, p14, st14, unit)) := by
       unfold lastV
       show ((bl, wrap .i64 (1 + ge), (if (nextV (b9, p9, st9, unit) 8).1 = 0 then 65535 else ne), wrap .i64 (2 + t), rs, unit), (nextV (b9, p9, st9, unit) 8).2) = _
       rw [E14]
       show ((bl, wrap .i64 (1 + ge), (if e = 0 then 65535 else ne), wrap .i64 (2 + t), rs, unit), (b14, p14, st14, unit)) = _
       rw [if_neg he]
      have hlen : 1 ≤ (rs).length ∧ (rs).length ≤ 16 := by omega
      have hok := last_ok (ge := wrap .i64 (1 + ge)) (ta := wrap .i64 (2 + t)) (r := ((ne, rs), (b9, p9, st9, unit))) hbl hger htar hne hlen hg
      rw [hlv] at hok
      have hsv := (hnode _ hent).trans hlv
      subst hM
      exact ⟨(b14, p14, st14, unit), rfl, hsv, hs14, hok⟩
  ·have hm : ¬ mm = 0 := by
    subst hM
    intro hh
    exact absurd ((show real.dec (real.eq mm 0) = true from dec_iff.2 hh).symm.trans h) (by decide)
   clear h
   have hnM : M.wrap .i64 (M.add 1 n0) = wrap .i64 (1 + n0) := by subst hM; rfl
   have hnv : wrap .i64 (1 + n0) = 1 + n0 := w64 (by omega)
   have hNN : (wrap .i64 (1 + n0)).toNat ≤ 16 := by omega
   have hnode : ∀ r, rootsV (wrap .i64 (1 + n0)).toNat bl 1 (b6, p6, st6, unit) [] = r → superV (b0, p0, st0, unit) = lastV bl (wrap .i64 (1 + ge)) (wrap .i64 (2 + t)) r := fun r hr => by
    unfold superV
    rw [E1]
    show super1 bl (genV (nextV (b1, p1, st1, unit) 300)) = _
    rw [E2, hgen]
    unfold super1
    show lastV bl (wrap .i64 (1 + ge)) (wrap .i64 (2 + (nextV (b3, p3, st3, unit) (wrap .i64 (bl - 2))).1)) (rootsV (numV (nextV (b3, p3, st3, unit) (wrap .i64 (bl - 2))).2).1.toNat bl 1 (numV (nextV (b3, p3, st3, unit) (wrap .i64 (bl - 2))).2).2 []) = _
    rw [hb3, E4]
    show lastV bl (wrap .i64 (1 + ge)) (wrap .i64 (2 + t)) (rootsV (numV (b4, p4, st4, unit)).1.toNat bl 1 (numV (b4, p4, st4, unit)).2 []) = _
    have hnum : numV (b4, p4, st4, unit) = (wrap .i64 (1 + n0), (b6, p6, st6, unit)) := by
     unfold numV
     rw [E5]
     show (if (nextV (b5, p5, st5, unit) 6).1 = 0 then (16, (nextV (b5, p5, st5, unit) 6).2) else (wrap .i64 (1 + n0), (nextV (b5, p5, st5, unit) 6).2)) = _
     rw [E6]
     show (if mm = 0 then (16, (b6, p6, st6, unit)) else (wrap .i64 (1 + n0), (b6, p6, st6, unit))) = _
     rw [if_neg hm]
    rw [hnum]
    show lastV bl (wrap .i64 (1 + ge)) (wrap .i64 (2 + t)) (rootsV (wrap .i64 (1 + n0)).toNat bl 1 (b6, p6, st6, unit) []) = _
    rw [hr]
   refine ⟨fun m Γ => ∃ (i : Nat) (j ne : Int) (rs : List RootD) (b9 : List Int) (p9 st9 : Int), j = i ∧ i ≤ (wrap .i64 (1 + n0)).toNat ∧ rs.length = i ∧ SrcOK (b9, p9, st9, unit) ∧ (1 ≤ ne ∧ ne ≤ 1000) ∧ ne ≤ 1 + 3 * (i : Int) ∧ GoodO bl ne rs ∧ rootsV ((wrap .i64 (1 + n0)).toNat - i) bl ne (b9, p9, st9, unit) rs = rootsV (wrap .i64 (1 + n0)).toNat bl 1 (b6, p6, st6, unit) [] ∧ m = (wrap .i64 (1 + n0)).toNat - i ∧ ((rs = [] ∧ Γ = ⟨67, [(0, .ad 0 tySrc 0 []), (2, .ad 1 tySup 0 []), (3, .ad 2 tySup 0 []), (4, .pv [] (.int .i64) (M.wrap .i64 (M.add 1 n0))), (5, .pv [] (.int .i64) j)], [(0, .box (.consA (.pv [] tyB b9) (.consA (.pv [] (.int .i64) p9) (.consA (.pv [] (.int .u64) st9) .nilA)))), (1, .box (.consA (.pv [] (.int .i64) 0) (.consA (.pv [] (.int .i64) 0) (.consA (.pv [] (.int .i64) 0) (.consA (.pv [] (.int .i64) 0) (.consA .nils .nilA)))))), (2, .box (.consA (.pv [] (.int .i64) bl) (.consA (.pv [] (.int .i64) (M.wrap .i64 (M.add 1 ge))) (.consA (.pv [] (.int .i64) ne) (.consA (.pv [] (.int .i64) (M.wrap .i64 (M.add 2 t))) (.consA .nils .nilA))))))], [.ad 0 tySrc 0 []]⟩) ∨ Γ = ⟨67, [(0, .ad 0 tySrc 0 []), (2, .ad 1 tySup 0 []), (3, .ad 2 tySup 0 []), (4, .pv [] (.int .i64) (M.wrap .i64 (M.add 1 n0))), (5, .pv [] (.int .i64) j)], [(0, .box (.consA (.pv [] tyB b9) (.consA (.pv [] (.int .i64) p9) (.consA (.pv [] (.int .u64) st9) .nilA)))), (1, .box (.consA (.pv [] (.int .i64) 0) (.consA (.pv [] (.int .i64) 0) (.consA (.pv [] (.int .i64) 0) (.consA (.pv [] (.int .i64) 0) (.consA .nils .nilA)))))), (2, .box (.consA (.pv [] (.int .i64) bl) (.consA (.pv [] (.int .i64) (M.wrap .i64 (M.add 1 ge))) (.consA (.pv [] (.int .i64) ne) (.consA (.pv [] (.int .i64) (M.wrap .i64 (M.add 2 t))) (.consA (.ref 4) .nilA)))))), (4, .row 0 tyRoot rs)], [.ad 0 tySrc 0 []]⟩), ⟨_, 0, 0, 1, [], b6, p6, st6, rfl, Nat.zero_le _, rfl, hs6, ⟨by omega, by omega⟩, by omega, ⟨fun i hi => absurd hi (Nat.not_lt_zero i), fun h => absurd h (Nat.not_lt_zero 0)⟩, rfl, rfl, .inl ⟨rfl, rfl⟩⟩, ?_⟩
   rintro m _ ⟨i, j, ne, rs, b9, p9, st9, hj, hi, hrl, hs9, hne, hni, hg, ht, rfl, (⟨he0, rfl⟩ | rfl)⟩ -
   ·subst he0
    cbv
    refine splM (fun h9 => ?_) (fun h9 => ?_) <;> cbv
    ·have hin : i < (wrap .i64 (1 + n0)).toNat := by
      have : j < M.wrap .i64 (M.add 1 n0) := by subst hM; exact dec_iff.1 h9
      rw [hnM] at this
      (try simp only [jqn] at hj); (try simp only [jqi] at hj)
      omega
     clear h9
     have hroom : ∀ x : RootD, M.room (([] : List RootD)) [x] := fun x => by
      subst hM
      show (([] : List RootD)).length + 1 ≤ 2 ^ 36
      omega
     have hlt : (wrap .i64 (1 + n0)).toNat - (i + 1) < (wrap .i64 (1 + n0)).toNat - i := by omega
     apply cut4 (P := fun (a : Int) (b10 : List Int) (p10 st10 : Int) => nextV (b9, p9, st9, unit) 3 = (a, (b10, p10, st10, unit)) ∧ SrcOK (b10, p10, st10, unit) ∧ (0 ≤ a ∧ a < 3))
     ·intro key
      refine ⟨ox35_11, (fun _ => by kernel_rfl), ?_⟩
      cbv
      repeat' (first
       | exact True.intro
       | (refine And.intro ?_ True.intro)
       | (fail_if_success have := E10
          refine And.intro (fun _ => ⟨_, rfl, hs9⟩) ?_
          rintro ⟨(a : Int), ⟨⟩⟩ ⟨z10, zz10, ⟨⟩⟩ hpost - -
          obtain ⟨⟨b10, p10, st10, ⟨⟩⟩, hz10, E10, hs10, hr10⟩ := hpost _ rfl
          have hz10 : z10 = some (b10, p10, st10, unit) := hz10
          subst hz10
          clear hpost hz10
          have E10 : nextV (b9, p9, st9, unit) 3 = (a, (b10, p10, st10, unit)) := E10; have hr10 : 0 ≤ a ∧ a < 3 := hr10 (show (0 : Int) < 3 by decide)
          cbv)
       | (refine And.intro ?_ ?_))
      all_goals exact key a b10 p10 st10 ⟨E10, hs10, hr10⟩
     rintro a b10 p10 st10 ⟨E10, hs10, hr10⟩
     apply cut4 (P := fun (c : Int) (b11 : List Int) (p11 st11 : Int) => nextV (b10, p10, st10, unit) (bl - 2) = (c, (b11, p11, st11, unit)) ∧ SrcOK (b11, p11, st11, unit) ∧ (0 ≤ c ∧ c < bl - 2))
     ·intro key
      refine ⟨ox35_12, (fun _ => by kernel_rfl), ?_⟩
      cbv
      repeat' (first
       | exact True.intro
       | (refine And.intro ?_ True.intro)
       | (fail_if_success have := E11
          refine And.intro (fun _ => ⟨_, rfl, hs10⟩) ?_
          rintro ⟨(c : Int), ⟨⟩⟩ ⟨z11, zz11, ⟨⟩⟩ hpost - -
          obtain ⟨⟨b11, p11, st11, ⟨⟩⟩, hz11, E11, hs11, hr11⟩ := hpost _ rfl
          have hz11 : z11 = some (b11, p11, st11, unit) := hz11
          subst hz11
          clear hpost hz11
          have E11 : nextV (b10, p10, st10, unit) (bl - 2) = (c, (b11, p11, st11, unit)) := (by rw [← hb2]; exact E11); have hr11 : 0 ≤ c ∧ c < bl - 2 := (by rw [← hb2]; exact hr11 hb2p)
          cbv)
       | (refine And.intro (hroom _) ?_)
       | (refine And.intro ?_ ?_))
      all_goals exact key c b11 p11 st11 ⟨E11, hs11, hr11⟩
     rintro c b11 p11 st11 ⟨E11, hs11, hr11⟩
     have hh := root_step hg hne hni hbl hr10 hr11 hin hrl hj hNN E10 E11 ht
     subst hM
     exact ⟨_, hh.1, i + 1, _, _, _, b11, p11, st11, hh.2.1, hin, hh.2.2.1, hs11, hh.2.2.2.1, hh.2.2.2.2.1, hh.2.2.2.2.2.1, hh.2.2.2.2.2.2, rfl, .inr rfl⟩
    ·have hin : i = (wrap .i64 (1 + n0)).toNat := by
      have : ¬ j < M.wrap .i64 (M.add 1 n0) := by
       subst hM
       intro hh
       exact absurd ((show real.dec (real.lt j _) = true from dec_iff.2 hh).symm.trans h9) (by decide)
      rw [hnM] at this
      (try simp only [jqn] at hj); (try simp only [jqi] at hj)
      omega
     clear h9
     refine ⟨fun _ => ⟨_, rfl, hs9⟩, ?_⟩
     rintro ⟨(e : Int), ⟨⟩⟩ ⟨z14, zz14, ⟨⟩⟩ hpost - -
     obtain ⟨⟨b14, p14, st14, ⟨⟩⟩, hz14, E14, hs14, hr14⟩ := hpost _ rfl
     have hz14 : z14 = some (b14, p14, st14, unit) := hz14
     subst hz14
     clear hpost hz14
     have E14 : nextV (b9, p9, st9, unit) 8 = (e, (b14, p14, st14, unit)) := E14
     have hr14 : 0 ≤ e ∧ e < 8 := hr14 (show (0 : Int) < 8 by decide)
     cbv
     refine splM (fun h9 => ?_) (fun h9 => ?_) <;> cbv
     ·have he : e = 0 := by subst hM; exact dec_iff.1 h9
      clear h9
      rintro - s hs
      cases hs
      have hent := ht.symm.trans (congrArg (fun z => rootsV z bl ne (b9, p9, st9, unit) ([] : List RootD)) (show (wrap .i64 (1 + n0)).toNat - i = 0 by omega))
      have hlv : lastV bl (wrap .i64 (1 + ge)) (wrap .i64 (2 + t)) ((ne, ([] : List RootD)), (b9, p9, st9, unit)) = ((bl, wrap .i64 (1 + ge), 65535, wrap .i64 (2 + t), ([] : List RootD), unit), (b14, p14, st14, unit)) := by
       unfold lastV
       show ((bl, wrap .i64 (1 + ge), (if (nextV (b9, p9, st9, unit) 8).1 = 0 then 65535 else ne), wrap .i64 (2 + t), ([] : List RootD), unit), (nextV (b9, p9, st9, unit) 8).2) = _
       rw [E14]
       show ((bl, wrap .i64 (1 + ge), (if e = 0 then 65535 else ne), wrap .i64 (2 + t), ([] : List RootD), unit), (b14, p14, st14, unit)) = _
       rw [if_pos he]
      have hlen : 1 ≤ (([] : List RootD)).length ∧ (([] : List RootD)).length ≤ 16 := by omega
      have hok := last_ok (ge := wrap .i64 (1 + ge)) (ta := wrap .i64 (2 + t)) (r := ((ne, ([] : List RootD)), (b9, p9, st9, unit))) hbl hger htar hne hlen hg
      rw [hlv] at hok
      have hsv := (hnode _ hent).trans hlv
      subst hM
      exact ⟨(b14, p14, st14, unit), rfl, hsv, hs14, hok⟩
     ·have he : ¬ e = 0 := by
       subst hM
       intro hh
       exact absurd ((show real.dec (real.eq e 0) = true from dec_iff.2 hh).symm.trans h9) (by decide)
      clear h9
      rintro - s hs
      cases hs
      have hent := ht.symm.trans (congrArg (fun z => rootsV z bl ne (b9, p9, st9, unit) ([] : List RootD)) (show (wrap .i64 (1 + n0)).toNat - i = 0 by omega))
      have hlv : lastV bl (wrap .i64 (1 + ge)) (wrap .i64 (2 + t)) ((ne, ([] : List RootD)), (b9, p9, st9, unit)) = ((bl, wrap .i64 (1 + ge), ne, wrap .i64 (2 + t), ([] : List RootD), unit), (b14, p14, st14, unit)) := by
       unfold lastV
       show ((bl, wrap .i64 (1 + ge), (if (nextV (b9, p9, st9, unit) 8).1 = 0 then 65535 else ne), wrap .i64 (2 + t), ([] : List RootD), unit), (nextV (b9, p9, st9, unit) 8).2) = _
       rw [E14]
       show ((bl, wrap .i64 (1 + ge), (if e = 0 then 65535 else ne), wrap .i64 (2 + t), ([] : List RootD), unit), (b14, p14, st14, unit)) = _
       rw [if_neg he]
      have hlen : 1 ≤ (([] : List RootD)).length ∧ (([] : List RootD)).length ≤ 16 := by omega
      have hok := last_ok (ge := wrap .i64 (1 + ge)) (ta := wrap .i64 (2 + t)) (r := ((ne, ([] : List RootD)), (b9, p9, st9, unit))) hbl hger htar hne hlen hg
      rw [hlv] at hok
      have hsv := (hnode _ hent).trans hlv
      subst hM
      exact ⟨(b14, p14, st14, unit), rfl, hsv, hs14, hok⟩
   ·skip
    cbv
    refine splM (fun h9 => ?_) (fun h9 => ?_) <;> cbv
    ·have hin : i < (wrap .i64 (1 + n0)).toNat := by
      have : j < M.wrap .i64 (M.add 1 n0) := by subst hM; exact dec_iff.1 h9
      rw [hnM] at this
      (try simp only [jqn] at hj); (try simp only [jqi] at hj)
      omega
     clear h9
     have hroom : ∀ x : RootD, M.room (rs) [x] := fun x => by
      subst hM
      show (rs).length + 1 ≤ 2 ^ 36
      omega
     have hlt : (wrap .i64 (1 + n0)).toNat - (i + 1) < (wrap .i64 (1 + n0)).toNat - i := by omega
     apply cut4 (P := fun (a : Int) (b10 : List Int) (p10 st10 : Int) => nextV (b9, p9, st9, unit) 3 = (a, (b10, p10, st10, unit)) ∧ SrcOK (b10, p10, st10, unit) ∧ (0 ≤ a ∧ a < 3))
     ·intro key
      refine ⟨ox35_11, (fun _ => by kernel_rfl), ?_⟩
      cbv
      repeat' (first
       | exact True.intro
       | (refine And.intro ?_ True.intro)
       | (fail_if_success have := E10
          refine And.intro (fun _ => ⟨_, rfl, hs9⟩) ?_
          rintro ⟨(a : Int), ⟨⟩⟩ ⟨z10, zz10, ⟨⟩⟩ hpost - -
          obtain ⟨⟨b10, p10, st10, ⟨⟩⟩, hz10, E10, hs10, hr10⟩ := hpost _ rfl
          have hz10 : z10 = some (b10, p10, st10, unit) := hz10
          subst hz10
          clear hpost hz10
          have E10 : nextV (b9, p9, st9, unit) 3 = (a, (b10, p10, st10, unit)) := E10; have hr10 : 0 ≤ a ∧ a < 3 := hr10 (show (0 : Int) < 3 by decide)
          cbv)
       | (refine And.intro ?_ ?_))
      all_goals exact key a b10 p10 st10 ⟨E10, hs10, hr10⟩
     rintro a b10 p10 st10 ⟨E10, hs10, hr10⟩
     apply cut4 (P := fun (c : Int) (b11 : List Int) (p11 st11 : Int) => nextV (b10, p10, st10, unit) (bl - 2) = (c, (b11, p11, st11, unit)) ∧ SrcOK (b11, p11, st11, unit) ∧ (0 ≤ c ∧ c < bl - 2))
     ·intro key
      refine ⟨ox35_12, (fun _ => by kernel_rfl), ?_⟩
      cbv
      repeat' (first
       | exact True.intro
       | (refine And.intro ?_ True.intro)
       | (fail_if_success have := E11
          refine And.intro (fun _ => ⟨_, rfl, hs10⟩) ?_
          rintro ⟨(c : Int), ⟨⟩⟩ ⟨z11, zz11, ⟨⟩⟩ hpost - -
          obtain ⟨⟨b11, p11, st11, ⟨⟩⟩, hz11, E11, hs11, hr11⟩ := hpost _ rfl
          have hz11 : z11 = some (b11, p11, st11, unit) := hz11
          subst hz11
          clear hpost hz11
          have E11 : nextV (b10, p10, st10, unit) (bl - 2) = (c, (b11, p11, st11, unit)) := (by rw [← hb2]; exact E11); have hr11 : 0 ≤ c ∧ c < bl - 2 := (by rw [← hb2]; exact hr11 hb2p)
          cbv)
       | (refine And.intro (hroom _) ?_)
       | (refine And.intro ?_ ?_))
      all_goals exact key c b11 p11 st11 ⟨E11, hs11, hr11⟩
     rintro c b11 p11 st11 ⟨E11, hs11, hr11⟩
     have hh := root_step hg hne hni hbl hr10 hr11 hin hrl hj hNN E10 E11 ht
     subst hM
     exact ⟨_, hh.1, i + 1, _, _, _, b11, p11, st11, hh.2.1, hin, hh.2.2.1, hs11, hh.2.2.2.1, hh.2.2.2.2.1, hh.2.2.2.2.2.1, hh.2.2.2.2.2.2, rfl, .inr rfl⟩
    ·have hin : i = (wrap .i64 (1 + n0)).toNat := by
      have : ¬ j < M.wrap .i64 (M.add 1 n0) := by
       subst hM
       intro hh
       exact absurd ((show real.dec (real.lt j _) = true from dec_iff.2 hh).symm.trans h9) (by decide)
      rw [hnM] at this
      (try simp only [jqn] at hj); (try simp only [jqi] at hj)
      omega
     clear h9
     refine ⟨fun _ => ⟨_, rfl, hs9⟩, ?_⟩
     rintro ⟨(e : Int), ⟨⟩⟩ ⟨z14, zz14, ⟨⟩⟩ hpost - -
     obtain ⟨⟨b14, p14, st14, ⟨⟩⟩, hz14, E14, hs14, hr14⟩ := hpost _ rfl
     have hz14 : z14 = some (b14, p14, st14, unit) := hz14
     subst hz14
     clear hpost hz14
     have E14 : nextV (b9, p9, st9, unit) 8 = (e, (b14, p14, st14, unit)) := E14
     have hr14 : 0 ≤ e ∧ e < 8 := hr14 (show (0 : Int) < 8 by decide)
     cbv
     refine splM (fun h9 => ?_) (fun h9 => ?_) <;> cbv
     ·have he : e = 0 := by subst hM; exact dec_iff.1 h9
      clear h9
      rintro - s hs
      cases hs
      have hent := ht.symm.trans (congrArg (fun z => rootsV z bl ne (b9, p9, st9, unit) rs) (show (wrap .i64 (1 + n0)).toNat - i = 0 by omega))
      have hlv : lastV bl (wrap .i64 (1 + ge)) (wrap .i64 (2 + t)) ((ne, rs), (b9, p9, st9, unit)) = ((bl, wrap .i64 (1 + ge), 65535, wrap .i64 (2 + t), rs, unit), (b14, p14, st14, unit)) := by
       unfold lastV
       show ((bl, wrap .i64 (1 + ge), (if (nextV (b9, p9, st9, unit) 8).1 = 0 then 65535 else ne), wrap .i64 (2 + t), rs, unit), (nextV (b9, p9, st9, unit) 8).2) = _
       rw [E14]
       show ((bl, wrap .i64 (1 + ge), (if e = 0 then 65535 else ne), wrap .i64 (2 + t), rs, unit), (b14, p14, st14, unit)) = _
       rw [if_pos he]
      have hlen : 1 ≤ (rs).length ∧ (rs).length ≤ 16 := by omega
      have hok := last_ok (ge := wrap .i64 (1 + ge)) (ta := wrap .i64 (2 + t)) (r := ((ne, rs), (b9, p9, st9, unit))) hbl hger htar hne hlen hg
      rw [hlv] at hok
      have hsv := (hnode _ hent).trans hlv
      subst hM
      exact ⟨(b14, p14, st14, unit), rfl, hsv, hs14, hok⟩
     ·have he : ¬ e = 0 := by
       subst hM
       intro hh
       exact absurd ((show real.dec (real.eq e 0) = true from dec_iff.2 hh).symm.trans h9) (by decide)
      clear h9
      rintro - s hs
      cases hs
      have hent := ht.symm.trans (congrArg (fun z => rootsV z bl ne (b9, p9, st9, unit) rs) (show (wrap .i64 (1 + n0)).toNat - i = 0 by omega))
      have hlv : lastV bl (wrap .i64 (1 + ge)) (wrap .i64 (2 + t)) ((ne, rs), (b9, p9, st9, unit)) = ((bl, wrap .i64 (1 + ge), ne, wrap .i64 (2 + t), rs, unit), (b14, p14, st14, unit)) := by
       unfold lastV
       show ((bl, wrap .i64 (1 + ge), (if (nextV (b9, p9, st9, unit) 8).1 = 0 then 65535 else ne), wrap .i64 (2 + t), rs, unit), (nextV (b9, p9, st9, unit) 8).2) = _
       rw [E14]
       show ((bl, wrap .i64 (1 + ge), (if e = 0 then 65535 else ne), wrap .i64 (2 + t), rs, unit), (b14, p14, st14, unit)) = _
       rw [if_neg he]
      have hlen : 1 ≤ (rs).length ∧ (rs).length ≤ 16 := by omega
      have hok := last_ok (ge := wrap .i64 (1 + ge)) (ta := wrap .i64 (2 + t)) (r := ((ne, rs), (b9, p9, st9, unit))) hbl hger htar hne hlen hg
      rw [hlv] at hok
      have hsv := (hnode _ hent).trans hlv
      subst hM
      exact ⟨(b14, p14, st14, unit), rfl, hsv, hs14, hok⟩
end Go.Proofs.YtmjeghlfmhbjdaaDoor.EngTab
