/- The draws: nodes. -/
import Derived.Test.YtmjeghlfmhbjdaaDoorDC
import Derived.Test.YtmjeghlfmhbjdaaDoorNS
namespace Go.Proofs.YtmjeghlfmhbjdaaDoor.EngTab
open Go.Proofs.YtmjeghlfmhbjdaaDoor.Eng
open PUnit (unit)
open IntKind (wrap)
set_option maxRecDepth 100000
set_option linter.unusedVariables false
set_option linter.unusedSimpArgs false
noncomputable def lastK (es : List EntD) : ByteArray := (entAt es (es.length - 1)).1
noncomputable def leS (a b : ByteArray) : Bool := real.or (real.sLt a b) (real.sEq a b)
noncomputable def keyV (es : List EntD) (t : ByteArray × SrcD) : Option (ByteArray × SrcD) :=
 if 0 < es.length ∧ leS t.1 (lastK es) = true then (if (lastK es).size < 12 then some (real.sApp (lastK es) (real.ofB [(nextV t.2 256).1]), (nextV t.2 256).2) else none) else some t
noncomputable def entsV : Nat → Int → SrcD → List EntD → List EntD × SrcD
 | 0, _, s, es => (es, s)
 | n + 1, kind, s, es => match keyV es (textV s 12) with
  | none => (es, (textV s 12).2)
  | some a => if kind = 1 then entsV n kind (textV a.2 10).2 (es ++ [(a.1, (textV a.2 10).1, 0, ())]) else entsV n kind (nextV a.2 510).2 (es ++ [(a.1, ⟨#[]⟩, 2 + (nextV a.2 510).1, ())])
noncomputable def cntV (kd : Int) (k : Int × SrcD) : Int × SrcD := if 1 + kd = 2 ∧ k.1 < 2 then (2 + (nextV k.2 2).1, (nextV k.2 2).2) else k
noncomputable def endV (kind : Int) (r : List EntD × SrcD) : (Int × List EntD × Unit) × SrcD := if kind = 2 ∧ r.1.length < 2 then ((1, [], ()), r.2) else ((kind, r.1, ()), r.2)
noncomputable def nodeV (s : SrcD) : (Int × List EntD × Unit) × SrcD :=
 endV (1 + (nextV s 2).1) (entsV (cntV (nextV s 2).1 (nextV (nextV s 2).2 6)).1.toNat (1 + (nextV s 2).1) (cntV (nextV s 2).1 (nextV (nextV s 2).2 6)).2 [])
theorem less_total : ∀ a b : List UInt8, Op.bytesLess a b = false → (a == b) = false → Op.bytesLess b a = true
 | [], [], _, h => by simp at h
 | [], _ :: _, h, _ => by simp [Op.bytesLess] at h
 | _ :: _, [], _, _ => by simp [Op.bytesLess]
 | x :: a, y :: b, h1, h2 => by
  simp only [Op.bytesLess, Bool.or_eq_false_iff, decide_eq_false_iff_not, Bool.and_eq_false_iff] at h1
  simp only [Op.bytesLess, Bool.or_eq_true, decide_eq_true_eq, Bool.and_eq_true]
  by_cases e : x = y
  ·subst e
   refine .inr ⟨by simp, less_total a b ?_ ?_⟩
   ·rcases h1.2 with h | h
    ·simp at h
    ·exact h
   ·simpa using h2
  ·left
   have h3 := h1.1
   rw [UInt8.not_lt, UInt8.le_iff_lt_or_eq] at h3
   rcases h3 with h3 | h3
   ·exact h3
   ·exact absurd h3.symm e
theorem less_app : ∀ (a : List UInt8) (c : UInt8), Op.bytesLess a (a ++ [c]) = true
 | [], c => by simp [Op.bytesLess]
 | x :: a, c => by
  simp only [List.cons_append, Op.bytesLess, Bool.or_eq_true, Bool.and_eq_true]
  exact .inr ⟨by simp, less_app a c⟩
theorem leS_not {a b : ByteArray} (h : leS a b = false) : keyLt b a = true := by
 have h' : (Op.bytesLess a.toList b.toList || (a.toList == b.toList)) = false := h
 simp only [Bool.or_eq_false_iff] at h'
 exact less_total _ _ h'.1 h'.2
theorem lt_app (a : ByteArray) (z : Int) : keyLt a (real.sApp a (real.ofB [z])) = true := by
 show Op.bytesLess a.toList (a ++ real.ofB [z]).toList = true
 have e : (a ++ real.ofB [z]).toList = a.toList ++ [UInt8.ofNat z.toNat] := by
  rw [ByteArray.toList_eq, ByteArray.toList_eq, ByteArray.data_append, Array.toList_append]; rfl
 rw [e]
 exact less_app _ _
theorem keyV_some {es : List EntD} {t a : ByteArray × SrcD} (h : keyV es t = some a) (hs : t.1.size ≤ 12) : a.1.size ≤ 12 ∧ (0 < es.length → keyLt (lastK es) a.1 = true) := by
 unfold keyV at h
 split at h
 ·split at h
  ·rename_i h12
   simp only [Option.some.injEq] at h
   subst h
   refine ⟨?_, fun _ => lt_app _ _⟩
   show (lastK es ++ real.ofB [(nextV t.2 256).1]).size ≤ 12
   rw [ByteArray.size_append]
   show (lastK es).size + 1 ≤ 12
   omega
  ·cases h
 ·rename_i hn
  simp only [Option.some.injEq] at h
  subst h
  refine ⟨hs, fun hl => leS_not ?_⟩
  cases hb : leS t.1 (lastK es) with
  | false => rfl
  | true => exact absurd ⟨hl, hb⟩ hn
def Good (kind : Int) (es : List EntD) : Prop := ∀ i, i < es.length → entOK kind es i
theorem entAt_app {es : List EntD} {e : EntD} {i : Nat} (h : i < es.length) : entAt (es ++ [e]) i = entAt es i := by
 unfold entAt
 simp [List.getD, List.getElem?_append_left h]
theorem entAt_end {es : List EntD} {e : EntD} : entAt (es ++ [e]) es.length = e := by
 unfold entAt
 simp [List.getD]
theorem good_add {kind : Int} {es : List EntD} {e : EntD} (h : Good kind es) (h1 : e.1.size ≤ 12) (h2 : 0 < es.length → keyLt (lastK es) e.1 = true) (h3 : kind = 1 → e.2.2.1 = 0 ∧ e.2.1.size ≤ 10) (h4 : kind = 2 → e.2.1.size = 0 ∧ 2 ≤ e.2.2.1 ∧ e.2.2.1 < 512) : Good kind (es ++ [e]) := by
 intro i hi
 simp only [List.length_append, List.length_cons, List.length_nil] at hi
 by_cases hl : i < es.length
 ·have := h i hl
  unfold entOK ascOK at this ⊢
  rw [entAt_app hl]
  refine ⟨⟨this.1.1, fun h0 => ?_⟩, this.2⟩
  rw [entAt_app (by omega)]
  exact this.1.2 h0
 ·obtain rfl : i = es.length := by omega
  unfold entOK ascOK
  rw [entAt_end]
  refine ⟨⟨h1, fun h0 => ?_⟩, h3, h4⟩
  rw [entAt_app (by omega)]
  exact h2 h0
theorem good_ok {s : SrcD} {kind : Int} {es : List EntD} (hk : kind = 1 ∨ kind = 2) (h : Good kind es) (h5 : es.length ≤ 5) : nodeOK (endV kind (es, s)).1.1 (endV kind (es, s)).1.2.1 := by
 unfold endV
 split
 ·exact nodeOK_iff.2 ⟨.inl rfl, Nat.zero_le _, (fun e => by have e' : (1 : Int) = 2 := e; omega), fun i hi => absurd hi (Nat.not_lt_zero i)⟩
 ·rename_i hn
  exact nodeOK_iff.2 ⟨hk, h5, fun e => by
   have : ¬ es.length < 2 := fun h2 => hn ⟨e, h2⟩
   show 2 ≤ es.length
   omega, h⟩
theorem keyV_first {es : List EntD} {t : ByteArray × SrcD} (h : ¬ 0 < es.length) : keyV es t = some t := by
 unfold keyV
 rw [if_neg (fun e => h e.1)]
theorem keyV_gt {es : List EntD} {t : ByteArray × SrcD} (h : ¬ leS t.1 (lastK es) = true) : keyV es t = some t := by
 unfold keyV
 rw [if_neg (fun e => h e.2)]
theorem keyV_app {es : List EntD} {t : ByteArray × SrcD} {q : Int} {s : SrcD} (h0 : 0 < es.length) (h1 : leS t.1 (lastK es) = true) (h2 : (lastK es).size < 12) (e : nextV t.2 256 = (q, s)) : keyV es t = some (real.sApp (lastK es) (real.ofB [q]), s) := by
 unfold keyV
 rw [if_pos ⟨h0, h1⟩, if_pos h2, e]
theorem keyV_stop {es : List EntD} {t : ByteArray × SrcD} (h0 : 0 < es.length) (h1 : leS t.1 (lastK es) = true) (h2 : ¬ (lastK es).size < 12) : keyV es t = none := by
 unfold keyV
 rw [if_pos ⟨h0, h1⟩, if_neg h2]
theorem entsV_leaf {n : Nat} {kind : Int} {s s1 s2 : SrcD} {es : List EntD} {key v : ByteArray} (h : keyV es (textV s 12) = some (key, s1)) (hk : kind = 1) (hv : textV s1 10 = (v, s2)) : entsV (n + 1) kind s es = entsV n kind s2 (es ++ [(key, v, 0, ())]) := by
 conv => lhs; unfold entsV
 rw [h]
 show (if kind = 1 then _ else _) = _
 rw [if_pos hk, hv]
theorem entsV_inner {n : Nat} {kind c : Int} {s s1 s2 : SrcD} {es : List EntD} {key : ByteArray} (h : keyV es (textV s 12) = some (key, s1)) (hk : ¬ kind = 1) (hv : nextV s1 510 = (c, s2)) : entsV (n + 1) kind s es = entsV n kind s2 (es ++ [(key, ⟨#[]⟩, 2 + c, ())]) := by
 conv => lhs; unfold entsV
 rw [h]
 show (if kind = 1 then _ else _) = _
 rw [if_neg hk, hv]
theorem entsV_stop {n : Nat} {kind : Int} {s s1 : SrcD} {es : List EntD} {t : ByteArray} (h : keyV es (textV s 12) = none) (hv : textV s 12 = (t, s1)) : entsV (n + 1) kind s es = (es, s1) := by
 conv => lhs; unfold entsV
 rw [h]
 show (es, (textV s 12).2) = _
 rw [hv]
def c25 : Con := Con.of ⟨[(true, 1, .ptr tySrc)], [(1, tyNode)], fun x => ∃ s, x.1 = some s ∧ SrcOK s, fun x y x' => ∀ s, x.1 = some s → ∃ s' : SrcD, x'.1 = some s' ∧ nodeV s = (y.1, s') ∧ SrcOK s' ∧ nodeOK y.1.1 y.1.2.1⟩
set_option maxHeartbeats 16000000 in
theorem ok25 : FnOK Tryd.prog 25 c25 := by
 refine FnOK.of_vc mixed tabOk (.cons en26 ok26 (.cons en41 ok41 .nil)) Tryd.func25 rfl (by decide) lv25 hd25 ?_
 rintro ⟨(_ | ⟨(b0 : List Int), (p0 : Int), (st0 : Int), ⟨⟩⟩), ⟨⟩⟩ hpre hwf
 ·obtain ⟨s, e, _⟩ := hpre
  cases e
 have hs0 : SrcOK (b0, p0, st0, unit) := by
  obtain ⟨s, e, h⟩ := hpre
  cases e
  exact h
 clear hpre
 generalize hM : real = M
 cbv
 refine ⟨fun _ => ⟨_, rfl, hs0⟩, ?_⟩
 rintro ⟨(kd : Int), ⟨⟩⟩ ⟨z1, zz1, ⟨⟩⟩ hpost - -
 obtain ⟨⟨b1, p1, st1, ⟨⟩⟩, hz1, E1, hs1, hr1⟩ := hpost _ rfl
 have hz1 : z1 = some (b1, p1, st1, unit) := hz1
 subst hz1
 clear hpost hz1
 have E1 : nextV (b0, p0, st0, unit) 2 = (kd, (b1, p1, st1, unit)) := E1
 have hr1 : 0 ≤ kd ∧ kd < 2 := hr1 (show (0 : Int) < 2 by decide)
 cbv
 refine ⟨fun _ => ⟨_, rfl, hs1⟩, ?_⟩
 rintro ⟨(k : Int), ⟨⟩⟩ ⟨z2, zz2, ⟨⟩⟩ hpost - -
 obtain ⟨⟨b2, p2, st2, ⟨⟩⟩, hz2, E2, hs2, hr2⟩ := hpost _ rfl
 have hz2 : z2 = some (b2, p2, st2, unit) := hz2
 subst hz2
 clear hpost hz2
 have E2 : nextV (b1, p1, st1, unit) 6 = (k, (b2, p2, st2, unit)) := E2
 have hr2 : 0 ≤ k ∧ k < 6 := hr2 (show (0 : Int) < 6 by decide)
 cbv
 have hkv : M.wrap .i64 (M.add 1 kd) = 1 + kd := by subst hM; show wrap .i64 (1 + kd) = 1 + kd; exact w64 (by omega)
 have hk12 : 1 + kd = 1 ∨ 1 + kd = 2 := by omega
 refine splM (fun h => ?_) (fun h => ?_) <;> cbv
 ·have hk2 : 1 + kd = 2 := by
   subst hM
   have e : wrap .i64 (1 + kd) = 2 := dec_iff.1 h
   rw [w64 (by omega)] at e
   exact e
  clear h
  refine splM (fun h => ?_) (fun h => ?_) <;> cbv
  ·have hklt : k < 2 := by subst hM; exact dec_iff.1 h
   clear h
   refine ⟨fun _ => ⟨_, rfl, hs2⟩, ?_⟩
   rintro ⟨(k2 : Int), ⟨⟩⟩ ⟨z3, zz3, ⟨⟩⟩ hpost - -
   obtain ⟨⟨b3, p3, st3, ⟨⟩⟩, hz3, E3, hs3, hr3⟩ := hpost _ rfl
   have hz3 : z3 = some (b3, p3, st3, unit) := hz3
   subst hz3
   clear hpost hz3
   have E3 : nextV (b2, p2, st2, unit) 2 = (k2, (b3, p3, st3, unit)) := E3
   have hr3 : 0 ≤ k2 ∧ k2 < 2 := hr3 (show (0 : Int) < 2 by decide)
   cbv
   have hnode : ∀ r, entsV (2 + k2).toNat (1 + kd) (b3, p3, st3, unit) [] = r → nodeV (b0, p0, st0, unit) = endV (1 + kd) r := fun r hr => by
    unfold nodeV
    rw [E1]
    show endV (1 + kd) (entsV (cntV kd (nextV (b1, p1, st1, unit) 6)).1.toNat (1 + kd) (cntV kd (nextV (b1, p1, st1, unit) 6)).2 []) = _
    rw [E2]
    unfold cntV
    rw [if_pos ⟨hk2, hklt⟩]
    show endV (1 + kd) (entsV (2 + (nextV (b2, p2, st2, unit) 2).1).toNat (1 + kd) (nextV (b2, p2, st2, unit) 2).2 []) = _
    rw [E3]
    rw [← hr]
   have hkk : M.wrap .i64 (M.add 2 k2) = 2 + k2 := (by subst hM; show wrap .i64 (2 + k2) = 2 + k2; exact w64 (by omega))
   have h05 : 0 ≤ 2 + k2 ∧ 2 + k2 ≤ 5 := by omega
   refine ⟨fun m Γ => ∃ (j : Int) (es : List EntD) (b9 : List Int) (p9 st9 : Int), j = es.length ∧ (es.length : Int) ≤ 2 + k2 ∧ SrcOK (b9, p9, st9, unit) ∧ entsV ((2 + k2).toNat - es.length) (1 + kd) (b9, p9, st9, unit) es = entsV (2 + k2).toNat (1 + kd) (b3, p3, st3, unit) [] ∧ Good (1 + kd) es ∧ m = (2 + k2).toNat - es.length ∧ ((es = [] ∧ Γ = ⟨91, [(0, .ad 0 tySrc 0 []), (2, .ad 1 tyNode 0 []), (3, .ad 2 tyNode 0 []), (4, .pv [] (.int .i64) (M.wrap .i64 (M.add 2 k2))), (5, .pv [] (.int .i64) j)], [(0, .box (.consA (.pv [] tyB b9) (.consA (.pv [] (.int .i64) p9) (.consA (.pv [] (.int .u64) st9) .nilA)))), (1, .box (.consA (.pv [] (.int .i64) 0) (.consA .nils .nilA))), (2, .box (.consA (.pv [] (.int .i64) (M.wrap .i64 (M.add 1 kd))) (.consA .nils .nilA)))], [.ad 0 tySrc 0 []]⟩) ∨ Γ = ⟨91, [(0, .ad 0 tySrc 0 []), (2, .ad 1 tyNode 0 []), (3, .ad 2 tyNode 0 []), (4, .pv [] (.int .i64) (M.wrap .i64 (M.add 2 k2))), (5, .pv [] (.int .i64) j)], [(0, .box (.consA (.pv [] tyB b9) (.consA (.pv [] (.int .i64) p9) (.consA (.pv [] (.int .u64) st9) .nilA)))), (1, .box (.consA (.pv [] (.int .i64) 0) (.consA .nils .nilA))), (2, .box (.consA (.pv [] (.int .i64) (M.wrap .i64 (M.add 1 kd))) (.consA (.ref 5) .nilA))), (5, .row 0 tyEnt es)], [.ad 0 tySrc 0 []]⟩), ⟨_, 0, [], b3, p3, st3, rfl, h05.1, hs3, rfl, (fun i hi => absurd hi (Nat.not_lt_zero i)), rfl, .inl ⟨rfl, rfl⟩⟩, ?_⟩
   rintro m _ ⟨j, es, b9, p9, st9, hj, hi, hs9, ht, hg, rfl, (⟨he0, rfl⟩ | rfl)⟩ -
   ·subst he0
    have h5 : ([] : List EntD).length ≤ 5 := by (try simp only [jqn] at hi); (try simp only [jqi] at hi); omega
    cbv
    skip
    refine splM (fun h9 => ?_) (fun h9 => ?_) <;> cbv
    ·have hin : ([] : List EntD).length < (2 + k2).toNat := by
      have : j < M.wrap .i64 (M.add 2 k2) := by subst hM; exact dec_iff.1 h9
      (try simp only [jqn] at hj); (try simp only [jqi] at hj)
      omega
     clear h9
     refine ⟨fun _ => ⟨⟨_, rfl, hs9⟩, (by show (0 : Int) ≤ 12; omega), (by show (12 : Int) ≤ 20; omega)⟩, ?_⟩
     rintro ⟨(ky : ByteArray), ⟨⟩⟩ ⟨z10, zz10, ⟨⟩⟩ hpost - -
     obtain ⟨⟨b10, p10, st10, ⟨⟩⟩, hz10, E10, hs10, hr10⟩ := hpost _ rfl
     have hz10 : z10 = some (b10, p10, st10, unit) := hz10
     subst hz10
     clear hpost hz10
     have E10 : textV (b9, p9, st9, unit) 12 = (ky, (b10, p10, st10, unit)) := E10
     have hr10 : (ky.size : Int) ≤ 12 := hr10
     have hr10 : ky.size ≤ 12 := by omega
     cbv
     refine ⟨(fun _ => by first | exact drawRd rfl (by decide +kernel) | exact drawTail (by decide +kernel)), ?_⟩
     refine splM (fun h6 => ?_) (fun h6 => ?_) <;> cbv
     ·skip
      exfalso
      have : (0 : Int) < j := by subst hM; exact dec_iff.1 h6
      (try simp only [jqn] at hj); (try simp only [jqi] at hj)
      simp at hj
      omega
     ·have hj0 : ¬ 0 < ([] : List EntD).length := by
       intro hh
       (try simp only [jqn] at hj); (try simp only [jqi] at hj)
       have : (0 : Int) < j := by rw [hj]; omega
       subst hM
       exact absurd ((show real.dec (real.lt 0 j) = true from dec_iff.2 this).symm.trans h6) (by decide)
      clear h6
      have hkey : keyV ([] : List EntD) (textV (b9, p9, st9, unit) 12) = some (ky, (b10, p10, st10, unit)) := (by rw [E10]; exact keyV_first hj0)
      have hks := keyV_some hkey (by rw [E10]; show ky.size ≤ 12; omega)
      refine splM (fun h7 => ?_) (fun h7 => ?_) <;> cbv
      ·have hk1 : 1 + kd = 1 := by
        subst hM
        have e : wrap .i64 (1 + kd) = 1 := dec_iff.1 h7
        rw [w64 (by omega)] at e
        exact e
       clear h7
       refine ⟨fun _ => ⟨⟨_, rfl, hs10⟩, (by show (0 : Int) ≤ 10; omega), (by show (10 : Int) ≤ 20; omega)⟩, ?_⟩
       rintro ⟨(vl : ByteArray), ⟨⟩⟩ ⟨z11, zz11, ⟨⟩⟩ hpost - -
       obtain ⟨⟨b11, p11, st11, ⟨⟩⟩, hz11, E11, hs11, hr11⟩ := hpost _ rfl
       have hz11 : z11 = some (b11, p11, st11, unit) := hz11
       subst hz11
       clear hpost hz11
       have E11 : textV (b10, p10, st10, unit) 10 = (vl, (b11, p11, st11, unit)) := E11
       have hr11 : (vl.size : Int) ≤ 10 := hr11
       have hr11 : vl.size ≤ 10 := by omega
       cbv
       have hent : entsV ((2 + k2).toNat - (([] : List EntD) ++ [(ky, vl, 0, unit)]).length) (1 + kd) (b11, p11, st11, unit) (([] : List EntD) ++ [(ky, vl, 0, unit)]) = entsV (2 + k2).toNat (1 + kd) (b3, p3, st3, unit) [] := by
        rw [← ht, show (2 + k2).toNat - ([] : List EntD).length = ((2 + k2).toNat - (([] : List EntD) ++ [(ky, vl, 0, unit)]).length) + 1 by simp; omega]
        exact (entsV_leaf hkey hk1 E11).symm
       have hgd : Good (1 + kd) (([] : List EntD) ++ [(ky, vl, 0, unit)]) := good_add hg hks.1 hks.2 (fun _ => ⟨rfl, (by show vl.size ≤ 10; omega)⟩) (fun e => by omega)
       have hlt : (2 + k2).toNat - (([] : List EntD) ++ [(ky, vl, 0, unit)]).length < (2 + k2).toNat - ([] : List EntD).length := by simp; omega
       have hle : (((([] : List EntD) ++ [(ky, vl, 0, unit)]).length : Nat) : Int) ≤ 2 + k2 := by simp; omega
       (try simp only [jqn] at hj); (try simp only [jqi] at hj)
       have hjn : wrap .i64 (j + 1) = (((([] : List EntD) ++ [(ky, vl, 0, unit)]).length : Nat) : Int) := by rw [hj, w64 (by omega)]; simp
       have hroom : ([] : List EntD).length + 1 ≤ 2 ^ 36 := by omega
       subst hM
       refine ⟨hroom, _, hlt, _, ([] : List EntD) ++ [(ky, vl, 0, unit)], b11, p11, st11, hjn, hle, hs11, hent, hgd, rfl, .inr rfl⟩
      ·have hk1 : ¬ 1 + kd = 1 := by
        subst hM
        intro hh
        have e : real.eq (wrap .i64 (1 + kd)) 1 := by
         show wrap .i64 (1 + kd) = 1
         rw [w64 (by omega)]; exact hh
        exact absurd ((show real.dec (real.eq (wrap .i64 (1 + kd)) 1) = true from dec_iff.2 e).symm.trans h7) (by decide)
       clear h7
       refine ⟨fun _ => ⟨_, rfl, hs10⟩, ?_⟩
       rintro ⟨(ch : Int), ⟨⟩⟩ ⟨z11, zz11, ⟨⟩⟩ hpost - -
       obtain ⟨⟨b11, p11, st11, ⟨⟩⟩, hz11, E11, hs11, hr11⟩ := hpost _ rfl
       have hz11 : z11 = some (b11, p11, st11, unit) := hz11
       subst hz11
       clear hpost hz11
       have E11 : nextV (b10, p10, st10, unit) 510 = (ch, (b11, p11, st11, unit)) := E11
       have hr11 : 0 ≤ ch ∧ ch < 510 := hr11 (show (0 : Int) < 510 by decide)
       cbv
       have hcw : wrap .i64 (2 + ch) = 2 + ch := w64 (by omega)
       have hent : entsV ((2 + k2).toNat - (([] : List EntD) ++ [(ky, (⟨#[]⟩ : ByteArray), 2 + ch, unit)]).length) (1 + kd) (b11, p11, st11, unit) (([] : List EntD) ++ [(ky, (⟨#[]⟩ : ByteArray), 2 + ch, unit)]) = entsV (2 + k2).toNat (1 + kd) (b3, p3, st3, unit) [] := by
        rw [← ht, show (2 + k2).toNat - ([] : List EntD).length = ((2 + k2).toNat - (([] : List EntD) ++ [(ky, (⟨#[]⟩ : ByteArray), 2 + ch, unit)]).length) + 1 by simp; omega]
        exact (entsV_inner hkey hk1 E11).symm
       have hgd : Good (1 + kd) (([] : List EntD) ++ [(ky, (⟨#[]⟩ : ByteArray), 2 + ch, unit)]) := good_add hg hks.1 hks.2 (fun e => absurd e hk1) (fun _ => ⟨rfl, (by show 2 ≤ 2 + ch; omega), (by show 2 + ch < 512; omega)⟩)
       have hlt : (2 + k2).toNat - (([] : List EntD) ++ [(ky, (⟨#[]⟩ : ByteArray), 2 + ch, unit)]).length < (2 + k2).toNat - ([] : List EntD).length := by simp; omega
       have hle : (((([] : List EntD) ++ [(ky, (⟨#[]⟩ : ByteArray), 2 + ch, unit)]).length : Nat) : Int) ≤ 2 + k2 := by simp; omega
       (try simp only [jqn] at hj); (try simp only [jqi] at hj)
       have hjn : wrap .i64 (j + 1) = (((([] : List EntD) ++ [(ky, (⟨#[]⟩ : ByteArray), 2 + ch, unit)]).length : Nat) : Int) := by rw [hj, w64 (by omega)]; simp
       have hroom : ([] : List EntD).length + 1 ≤ 2 ^ 36 := by omega
       rw [← hcw] at hent hgd hlt hle hjn
       subst hM
       refine ⟨hroom, _, hlt, _, ([] : List EntD) ++ [(ky, (⟨#[]⟩ : ByteArray), wrap .i64 (2 + ch), unit)], b11, p11, st11, hjn, hle, hs11, hent, hgd, rfl, .inr rfl⟩
    ·have hin : (([] : List EntD).length : Int) = 2 + k2 := by
      have : ¬ j < M.wrap .i64 (M.add 2 k2) := by
       subst hM
       intro hh
       exact absurd ((show real.dec (real.lt j _) = true from dec_iff.2 hh).symm.trans h9) (by decide)
      (try simp only [jqn] at hj hi); (try simp only [jqi] at hj hi)
      omega
     clear h9
     have hent := ht.symm.trans (congrArg (fun z => entsV z (1 + kd) (b9, p9, st9, unit) ([] : List EntD)) (show (2 + k2).toNat - ([] : List EntD).length = 0 by omega))
     refine splM (fun h7 => ?_) (fun h7 => ?_) <;> cbv
     ·have hk2 : 1 + kd = 2 := by
       subst hM
       have e : wrap .i64 (1 + kd) = 2 := dec_iff.1 h7
       rw [w64 (by omega)] at e
       exact e
      clear h7
      refine splM (fun h7 => ?_) (fun h7 => ?_) <;> cbv
      ·have hl2 : (([] : List EntD)).length < 2 := by
        subst hM
        have e : (((([] : List EntD)).length : Nat) : Int) < 2 := dec_iff.1 h7
        omega
       rintro - s hs
       cases hs
       have hend : endV (1 + kd) (([] : List EntD), (b9, p9, st9, unit)) = ((1, [], unit), (b9, p9, st9, unit)) := by
        unfold endV
        rw [if_pos ⟨hk2, hl2⟩]
       have hok := good_ok (s := (b9, p9, st9, unit)) hk12 hg h5
       rw [hend] at hok
       have hnd := (hnode _ hent).trans hend
       exact ⟨(b9, p9, st9, unit), rfl, hnd, hs9, hok⟩
      ·have hl2 : ¬ (([] : List EntD)).length < 2 := by
        subst hM
        intro hh
        exact absurd ((show real.dec (real.lt (((([] : List EntD)).length : Nat) : Int) 2) = true from dec_iff.2 (show (((([] : List EntD)).length : Nat) : Int) < 2 by omega)).symm.trans h7) (by decide)
       rintro - s hs
       cases hs
       have hend : endV (1 + kd) (([] : List EntD), (b9, p9, st9, unit)) = ((1 + kd, ([] : List EntD), unit), (b9, p9, st9, unit)) := by
        unfold endV
        rw [if_neg (fun h => hl2 h.2)]
       have hok := good_ok (s := (b9, p9, st9, unit)) hk12 hg h5
       rw [hend] at hok
       have hnd := (hnode _ hent).trans hend
       rw [← hkv] at hnd hok
       exact ⟨(b9, p9, st9, unit), rfl, hnd, hs9, hok⟩
     ·have hk2 : ¬ 1 + kd = 2 := by
       subst hM
       intro hh
       have e : real.eq (wrap .i64 (1 + kd)) 2 := by
        show wrap .i64 (1 + kd) = 2
        rw [w64 (by omega)]; exact hh
       exact absurd ((show real.dec (real.eq (wrap .i64 (1 + kd)) 2) = true from dec_iff.2 e).symm.trans h7) (by decide)
      rintro - s hs
      cases hs
      have hend : endV (1 + kd) (([] : List EntD), (b9, p9, st9, unit)) = ((1 + kd, ([] : List EntD), unit), (b9, p9, st9, unit)) := by
       unfold endV
       rw [if_neg (fun h => hk2 h.1)]
      have hok := good_ok (s := (b9, p9, st9, unit)) hk12 hg h5
      rw [hend] at hok
      have hnd := (hnode _ hent).trans hend
      rw [← hkv] at hnd hok
      exact ⟨(b9, p9, st9, unit), rfl, hnd, hs9, hok⟩
   ·skip
    have h5 : es.length ≤ 5 := by (try simp only [jqn] at hi); (try simp only [jqi] at hi); omega
    cbv
    skip
    refine splM (fun h9 => ?_) (fun h9 => ?_) <;> cbv
    ·have hin : es.length < (2 + k2).toNat := by
      have : j < M.wrap .i64 (M.add 2 k2) := by subst hM; exact dec_iff.1 h9
      (try simp only [jqn] at hj); (try simp only [jqi] at hj)
      omega
     clear h9
     refine ⟨fun _ => ⟨⟨_, rfl, hs9⟩, (by show (0 : Int) ≤ 12; omega), (by show (12 : Int) ≤ 20; omega)⟩, ?_⟩
     rintro ⟨(ky : ByteArray), ⟨⟩⟩ ⟨z10, zz10, ⟨⟩⟩ hpost - -
     obtain ⟨⟨b10, p10, st10, ⟨⟩⟩, hz10, E10, hs10, hr10⟩ := hpost _ rfl
     have hz10 : z10 = some (b10, p10, st10, unit) := hz10
     subst hz10
     clear hpost hz10
     have E10 : textV (b9, p9, st9, unit) 12 = (ky, (b10, p10, st10, unit)) := E10
     have hr10 : (ky.size : Int) ≤ 12 := hr10
     have hr10 : ky.size ≤ 12 := by omega
     cbv
     refine ⟨(fun _ => by first | exact drawRd rfl (by decide +kernel) | exact drawTail (by decide +kernel)), ?_⟩
     refine splM (fun h6 => ?_) (fun h6 => ?_) <;> cbv
     ·skip
      have hj0 : 0 < es.length := by
       have : (0 : Int) < j := by subst hM; exact dec_iff.1 h6
       (try simp only [jqn] at hj); (try simp only [jqi] at hj)
       omega
      have hjm : wrap .i64 (j - 1) = ((es.length - 1 : Nat) : Int) := by
       (try simp only [jqn] at hj); (try simp only [jqi] at hj)
       rw [hj, w64 (by omega)]; omega
      have hb0 : 0 ≤ wrap .i64 (j - 1) := by rw [hjm]; omega
      have hb1 : wrap .i64 (j - 1) < (es.length : Int) := by rw [hjm]; omega
      have hla : (es.getD (wrap .i64 (j - 1)).toNat (ByteArray.empty, ByteArray.empty, 0, ())).1 = lastK es := by
       rw [hjm]; rfl
      clear h6
      repeat (first | (refine And.intro (by subst hM; exact hb0) ?_) | (refine And.intro (by subst hM; exact hb1) ?_))
      refine splM (fun h6 => ?_) (fun h6 => ?_) <;> cbv
      ·have hle : leS ky (lastK es) = true := by
        subst hM
        rw [← hla]
        exact h6
       clear h6
       repeat (first | (refine And.intro (by subst hM; exact hb0) ?_) | (refine And.intro (by subst hM; exact hb1) ?_))
       refine splM (fun h6 => ?_) (fun h6 => ?_) <;> cbv
       ·have hl12 : (lastK es).size < 12 := by
         rw [← hla]
         subst hM
         have : ((es.getD (wrap .i64 (j - 1)).toNat (ByteArray.empty, ByteArray.empty, 0, ())).1.size : Int) < ((12 : Nat) : Int) := dec_iff.1 h6
         exact Int.ofNat_lt.1 this
        clear h6
        refine ⟨fun _ => ⟨_, rfl, hs10⟩, ?_⟩
        rintro ⟨(c : Int), ⟨⟩⟩ ⟨z11, zz11, ⟨⟩⟩ hpost - -
        obtain ⟨⟨b11, p11, st11, ⟨⟩⟩, hz11, E11, hs11, hr11⟩ := hpost _ rfl
        have hz11 : z11 = some (b11, p11, st11, unit) := hz11
        subst hz11
        clear hpost hz11
        have E11 : nextV (b10, p10, st10, unit) 256 = (c, (b11, p11, st11, unit)) := E11
        have hr11 : 0 ≤ c ∧ c < 256 := hr11 (show (0 : Int) < 256 by decide)
        cbv
        have hc8 : wrap .u8 c = c := w8 (by omega)
        have hroom1 : real.sRoom (es.getD (wrap .i64 (j - 1)).toNat (ByteArray.empty, ByteArray.empty, 0, ())).1 (real.ofB [wrap .u8 c]) := by
         rw [hla]
         show (lastK es).size + 1 ≤ maxL
         rw [maxL_eq]; omega
        have hkx : M.sApp (M.get es (M.wrap .i64 (M.sub j 1)) (ByteArray.empty, ByteArray.empty, 0, ())).1 (M.ofB [M.wrap .u8 c]) = real.sApp (lastK es) (real.ofB [c]) := by
         subst hM
         show real.sApp (es.getD (wrap .i64 (j - 1)).toNat (ByteArray.empty, ByteArray.empty, 0, ())).1 (real.ofB [wrap .u8 c]) = _
         rw [hla, hc8]
        refine ⟨by subst hM; exact hroom1, ?_⟩
        have hkey : keyV es (textV (b9, p9, st9, unit) 12) = some (M.sApp (M.get es (M.wrap .i64 (M.sub j 1)) (ByteArray.empty, ByteArray.empty, 0, ())).1 (M.ofB [M.wrap .u8 c]), (b11, p11, st11, unit)) := (by rw [hkx, E10]; exact keyV_app hj0 hle hl12 E11)
        have hks := keyV_some hkey (by rw [E10]; show ky.size ≤ 12; omega)
        refine splM (fun h7 => ?_) (fun h7 => ?_) <;> cbv
        ·have hk1 : 1 + kd = 1 := by
          subst hM
          have e : wrap .i64 (1 + kd) = 1 := dec_iff.1 h7
          rw [w64 (by omega)] at e
          exact e
         clear h7
         refine ⟨fun _ => ⟨⟨_, rfl, hs11⟩, (by show (0 : Int) ≤ 10; omega), (by show (10 : Int) ≤ 20; omega)⟩, ?_⟩
         rintro ⟨(vl : ByteArray), ⟨⟩⟩ ⟨z12, zz12, ⟨⟩⟩ hpost - -
         obtain ⟨⟨b12, p12, st12, ⟨⟩⟩, hz12, E12, hs12, hr12⟩ := hpost _ rfl
         have hz12 : z12 = some (b12, p12, st12, unit) := hz12
         subst hz12
         clear hpost hz12
         have E12 : textV (b11, p11, st11, unit) 10 = (vl, (b12, p12, st12, unit)) := E12
         have hr12 : (vl.size : Int) ≤ 10 := hr12
         have hr12 : vl.size ≤ 10 := by omega
         cbv
         have hent : entsV ((2 + k2).toNat - (es ++ [(M.sApp (M.get es (M.wrap .i64 (M.sub j 1)) (ByteArray.empty, ByteArray.empty, 0, ())).1 (M.ofB [M.wrap .u8 c]), vl, 0, unit)]).length) (1 + kd) (b12, p12, st12, unit) (es ++ [(M.sApp (M.get es (M.wrap .i64 (M.sub j 1)) (ByteArray.empty, ByteArray.empty, 0, ())).1 (M.ofB [M.wrap .u8 c]), vl, 0, unit)]) = entsV (2 + k2).toNat (1 + kd) (b3, p3, st3, unit) [] := by
          rw [← ht, show (2 + k2).toNat - es.length = ((2 + k2).toNat - (es ++ [(M.sApp (M.get es (M.wrap .i64 (M.sub j 1)) (ByteArray.empty, ByteArray.empty, 0, ())).1 (M.ofB [M.wrap .u8 c]), vl, 0, unit)]).length) + 1 by simp; omega]
          exact (entsV_leaf hkey hk1 E12).symm
         have hgd : Good (1 + kd) (es ++ [(M.sApp (M.get es (M.wrap .i64 (M.sub j 1)) (ByteArray.empty, ByteArray.empty, 0, ())).1 (M.ofB [M.wrap .u8 c]), vl, 0, unit)]) := good_add hg hks.1 hks.2 (fun _ => ⟨rfl, (by show vl.size ≤ 10; omega)⟩) (fun e => by omega)
         have hlt : (2 + k2).toNat - (es ++ [(M.sApp (M.get es (M.wrap .i64 (M.sub j 1)) (ByteArray.empty, ByteArray.empty, 0, ())).1 (M.ofB [M.wrap .u8 c]), vl, 0, unit)]).length < (2 + k2).toNat - es.length := by simp; omega
         have hle : (((es ++ [(M.sApp (M.get es (M.wrap .i64 (M.sub j 1)) (ByteArray.empty, ByteArray.empty, 0, ())).1 (M.ofB [M.wrap .u8 c]), vl, 0, unit)]).length : Nat) : Int) ≤ 2 + k2 := by simp; omega
         (try simp only [jqn] at hj); (try simp only [jqi] at hj)
         have hjn : wrap .i64 (j + 1) = (((es ++ [(M.sApp (M.get es (M.wrap .i64 (M.sub j 1)) (ByteArray.empty, ByteArray.empty, 0, ())).1 (M.ofB [M.wrap .u8 c]), vl, 0, unit)]).length : Nat) : Int) := by rw [hj, w64 (by omega)]; simp
         have hroom : es.length + 1 ≤ 2 ^ 36 := by omega
         subst hM
         refine ⟨hroom, _, hlt, _, es ++ [(real.sApp (real.get es (real.wrap .i64 (real.sub j 1)) (ByteArray.empty, ByteArray.empty, 0, ())).1 (real.ofB [real.wrap .u8 c]), vl, 0, unit)], b12, p12, st12, hjn, hle, hs12, hent, hgd, rfl, .inr rfl⟩
        ·have hk1 : ¬ 1 + kd = 1 := by
          subst hM
          intro hh
          have e : real.eq (wrap .i64 (1 + kd)) 1 := by
           show wrap .i64 (1 + kd) = 1
           rw [w64 (by omega)]; exact hh
          exact absurd ((show real.dec (real.eq (wrap .i64 (1 + kd)) 1) = true from dec_iff.2 e).symm.trans h7) (by decide)
         clear h7
         refine ⟨fun _ => ⟨_, rfl, hs11⟩, ?_⟩
         rintro ⟨(ch : Int), ⟨⟩⟩ ⟨z12, zz12, ⟨⟩⟩ hpost - -
         obtain ⟨⟨b12, p12, st12, ⟨⟩⟩, hz12, E12, hs12, hr12⟩ := hpost _ rfl
         have hz12 : z12 = some (b12, p12, st12, unit) := hz12
         subst hz12
         clear hpost hz12
         have E12 : nextV (b11, p11, st11, unit) 510 = (ch, (b12, p12, st12, unit)) := E12
         have hr12 : 0 ≤ ch ∧ ch < 510 := hr12 (show (0 : Int) < 510 by decide)
         cbv
         have hcw : wrap .i64 (2 + ch) = 2 + ch := w64 (by omega)
         have hent : entsV ((2 + k2).toNat - (es ++ [(M.sApp (M.get es (M.wrap .i64 (M.sub j 1)) (ByteArray.empty, ByteArray.empty, 0, ())).1 (M.ofB [M.wrap .u8 c]), (⟨#[]⟩ : ByteArray), 2 + ch, unit)]).length) (1 + kd) (b12, p12, st12, unit) (es ++ [(M.sApp (M.get es (M.wrap .i64 (M.sub j 1)) (ByteArray.empty, ByteArray.empty, 0, ())).1 (M.ofB [M.wrap .u8 c]), (⟨#[]⟩ : ByteArray), 2 + ch, unit)]) = entsV (2 + k2).toNat (1 + kd) (b3, p3, st3, unit) [] := by
          rw [← ht, show (2 + k2).toNat - es.length = ((2 + k2).toNat - (es ++ [(M.sApp (M.get es (M.wrap .i64 (M.sub j 1)) (ByteArray.empty, ByteArray.empty, 0, ())).1 (M.ofB [M.wrap .u8 c]), (⟨#[]⟩ : ByteArray), 2 + ch, unit)]).length) + 1 by simp; omega]
          exact (entsV_inner hkey hk1 E12).symm
         have hgd : Good (1 + kd) (es ++ [(M.sApp (M.get es (M.wrap .i64 (M.sub j 1)) (ByteArray.empty, ByteArray.empty, 0, ())).1 (M.ofB [M.wrap .u8 c]), (⟨#[]⟩ : ByteArray), 2 + ch, unit)]) := good_add hg hks.1 hks.2 (fun e => absurd e hk1) (fun _ => ⟨rfl, (by show 2 ≤ 2 + ch; omega), (by show 2 + ch < 512; omega)⟩)
         have hlt : (2 + k2).toNat - (es ++ [(M.sApp (M.get es (M.wrap .i64 (M.sub j 1)) (ByteArray.empty, ByteArray.empty, 0, ())).1 (M.ofB [M.wrap .u8 c]), (⟨#[]⟩ : ByteArray), 2 + ch, unit)]).length < (2 + k2).toNat - es.length := by simp; omega
         have hle : (((es ++ [(M.sApp (M.get es (M.wrap .i64 (M.sub j 1)) (ByteArray.empty, ByteArray.empty, 0, ())).1 (M.ofB [M.wrap .u8 c]), (⟨#[]⟩ : ByteArray), 2 + ch, unit)]).length : Nat) : Int) ≤ 2 + k2 := by simp; omega
         (try simp only [jqn] at hj); (try simp only [jqi] at hj)
         have hjn : wrap .i64 (j + 1) = (((es ++ [(M.sApp (M.get es (M.wrap .i64 (M.sub j 1)) (ByteArray.empty, ByteArray.empty, 0, ())).1 (M.ofB [M.wrap .u8 c]), (⟨#[]⟩ : ByteArray), 2 + ch, unit)]).length : Nat) : Int) := by rw [hj, w64 (by omega)]; simp
         have hroom : es.length + 1 ≤ 2 ^ 36 := by omega
         rw [← hcw] at hent hgd hlt hle hjn
         subst hM
         refine ⟨hroom, _, hlt, _, es ++ [(real.sApp (real.get es (real.wrap .i64 (real.sub j 1)) (ByteArray.empty, ByteArray.empty, 0, ())).1 (real.ofB [real.wrap .u8 c]), (⟨#[]⟩ : ByteArray), wrap .i64 (2 + ch), unit)], b12, p12, st12, hjn, hle, hs12, hent, hgd, rfl, .inr rfl⟩
       ·have hl12 : ¬ (lastK es).size < 12 := by
         rw [← hla]
         subst hM
         intro hh
         exact absurd ((show real.dec (real.lt (((es.getD (wrap .i64 (j - 1)).toNat (ByteArray.empty, ByteArray.empty, 0, ())).1.size : Nat) : Int) 12) = true from dec_iff.2 (show (((es.getD (wrap .i64 (j - 1)).toNat (ByteArray.empty, ByteArray.empty, 0, ())).1.size : Nat) : Int) < ((12 : Nat) : Int) from Int.ofNat_lt.2 hh)).symm.trans h6) (by decide)
        clear h6
        have hent := ht.symm.trans ((congrArg (fun z => entsV z (1 + kd) (b9, p9, st9, unit) es) (show (2 + k2).toNat - es.length = ((2 + k2).toNat - es.length - 1) + 1 by omega)).trans (entsV_stop (by rw [E10]; exact keyV_stop hj0 hle hl12) E10))
        refine splM (fun h7 => ?_) (fun h7 => ?_) <;> cbv
        ·have hk2 : 1 + kd = 2 := by
          subst hM
          have e : wrap .i64 (1 + kd) = 2 := dec_iff.1 h7
          rw [w64 (by omega)] at e
          exact e
         clear h7
         refine splM (fun h7 => ?_) (fun h7 => ?_) <;> cbv
         ·have hl2 : (es).length < 2 := by
           subst hM
           have e : (((es).length : Nat) : Int) < 2 := dec_iff.1 h7
           omega
          rintro - s hs
          cases hs
          have hend : endV (1 + kd) (es, (b10, p10, st10, unit)) = ((1, [], unit), (b10, p10, st10, unit)) := by
           unfold endV
           rw [if_pos ⟨hk2, hl2⟩]
          have hok := good_ok (s := (b10, p10, st10, unit)) hk12 hg h5
          rw [hend] at hok
          have hnd := (hnode _ hent).trans hend
          exact ⟨(b10, p10, st10, unit), rfl, hnd, hs10, hok⟩
         ·have hl2 : ¬ (es).length < 2 := by
           subst hM
           intro hh
           exact absurd ((show real.dec (real.lt (((es).length : Nat) : Int) 2) = true from dec_iff.2 (show (((es).length : Nat) : Int) < 2 by omega)).symm.trans h7) (by decide)
          rintro - s hs
          cases hs
          have hend : endV (1 + kd) (es, (b10, p10, st10, unit)) = ((1 + kd, es, unit), (b10, p10, st10, unit)) := by
           unfold endV
           rw [if_neg (fun h => hl2 h.2)]
          have hok := good_ok (s := (b10, p10, st10, unit)) hk12 hg h5
          rw [hend] at hok
          have hnd := (hnode _ hent).trans hend
          rw [← hkv] at hnd hok
          exact ⟨(b10, p10, st10, unit), rfl, hnd, hs10, hok⟩
        ·have hk2 : ¬ 1 + kd = 2 := by
          subst hM
          intro hh
          have e : real.eq (wrap .i64 (1 + kd)) 2 := by
           show wrap .i64 (1 + kd) = 2
           rw [w64 (by omega)]; exact hh
          exact absurd ((show real.dec (real.eq (wrap .i64 (1 + kd)) 2) = true from dec_iff.2 e).symm.trans h7) (by decide)
         rintro - s hs
         cases hs
         have hend : endV (1 + kd) (es, (b10, p10, st10, unit)) = ((1 + kd, es, unit), (b10, p10, st10, unit)) := by
          unfold endV
          rw [if_neg (fun h => hk2 h.1)]
         have hok := good_ok (s := (b10, p10, st10, unit)) hk12 hg h5
         rw [hend] at hok
         have hnd := (hnode _ hent).trans hend
         rw [← hkv] at hnd hok
         exact ⟨(b10, p10, st10, unit), rfl, hnd, hs10, hok⟩
      ·have hle : ¬ leS ky (lastK es) = true := by
        intro hh
        rw [← hla] at hh
        subst hM
        exact absurd (hh.symm.trans h6) (by decide)
       clear h6
       have hkey : keyV es (textV (b9, p9, st9, unit) 12) = some (ky, (b10, p10, st10, unit)) := (by rw [E10]; exact keyV_gt hle)
       have hks := keyV_some hkey (by rw [E10]; show ky.size ≤ 12; omega)
       refine splM (fun h7 => ?_) (fun h7 => ?_) <;> cbv
       ·have hk1 : 1 + kd = 1 := by
         subst hM
         have e : wrap .i64 (1 + kd) = 1 := dec_iff.1 h7
         rw [w64 (by omega)] at e
         exact e
        clear h7
        refine ⟨fun _ => ⟨⟨_, rfl, hs10⟩, (by show (0 : Int) ≤ 10; omega), (by show (10 : Int) ≤ 20; omega)⟩, ?_⟩
        rintro ⟨(vl : ByteArray), ⟨⟩⟩ ⟨z11, zz11, ⟨⟩⟩ hpost - -
        obtain ⟨⟨b11, p11, st11, ⟨⟩⟩, hz11, E11, hs11, hr11⟩ := hpost _ rfl
        have hz11 : z11 = some (b11, p11, st11, unit) := hz11
        subst hz11
        clear hpost hz11
        have E11 : textV (b10, p10, st10, unit) 10 = (vl, (b11, p11, st11, unit)) := E11
        have hr11 : (vl.size : Int) ≤ 10 := hr11
        have hr11 : vl.size ≤ 10 := by omega
        cbv
        have hent : entsV ((2 + k2).toNat - (es ++ [(ky, vl, 0, unit)]).length) (1 + kd) (b11, p11, st11, unit) (es ++ [(ky, vl, 0, unit)]) = entsV (2 + k2).toNat (1 + kd) (b3, p3, st3, unit) [] := by
         rw [← ht, show (2 + k2).toNat - es.length = ((2 + k2).toNat - (es ++ [(ky, vl, 0, unit)]).length) + 1 by simp; omega]
         exact (entsV_leaf hkey hk1 E11).symm
        have hgd : Good (1 + kd) (es ++ [(ky, vl, 0, unit)]) := good_add hg hks.1 hks.2 (fun _ => ⟨rfl, (by show vl.size ≤ 10; omega)⟩) (fun e => by omega)
        have hlt : (2 + k2).toNat - (es ++ [(ky, vl, 0, unit)]).length < (2 + k2).toNat - es.length := by simp; omega
        have hle : (((es ++ [(ky, vl, 0, unit)]).length : Nat) : Int) ≤ 2 + k2 := by simp; omega
        (try simp only [jqn] at hj); (try simp only [jqi] at hj)
        have hjn : wrap .i64 (j + 1) = (((es ++ [(ky, vl, 0, unit)]).length : Nat) : Int) := by rw [hj, w64 (by omega)]; simp
        have hroom : es.length + 1 ≤ 2 ^ 36 := by omega
        subst hM
        refine ⟨hroom, _, hlt, _, es ++ [(ky, vl, 0, unit)], b11, p11, st11, hjn, hle, hs11, hent, hgd, rfl, .inr rfl⟩
       ·have hk1 : ¬ 1 + kd = 1 := by
         subst hM
         intro hh
         have e : real.eq (wrap .i64 (1 + kd)) 1 := by
          show wrap .i64 (1 + kd) = 1
          rw [w64 (by omega)]; exact hh
         exact absurd ((show real.dec (real.eq (wrap .i64 (1 + kd)) 1) = true from dec_iff.2 e).symm.trans h7) (by decide)
        clear h7
        refine ⟨fun _ => ⟨_, rfl, hs10⟩, ?_⟩
        rintro ⟨(ch : Int), ⟨⟩⟩ ⟨z11, zz11, ⟨⟩⟩ hpost - -
        obtain ⟨⟨b11, p11, st11, ⟨⟩⟩, hz11, E11, hs11, hr11⟩ := hpost _ rfl
        have hz11 : z11 = some (b11, p11, st11, unit) := hz11
        subst hz11
        clear hpost hz11
        have E11 : nextV (b10, p10, st10, unit) 510 = (ch, (b11, p11, st11, unit)) := E11
        have hr11 : 0 ≤ ch ∧ ch < 510 := hr11 (show (0 : Int) < 510 by decide)
        cbv
        have hcw : wrap .i64 (2 + ch) = 2 + ch := w64 (by omega)
        have hent : entsV ((2 + k2).toNat - (es ++ [(ky, (⟨#[]⟩ : ByteArray), 2 + ch, unit)]).length) (1 + kd) (b11, p11, st11, unit) (es ++ [(ky, (⟨#[]⟩ : ByteArray), 2 + ch, unit)]) = entsV (2 + k2).toNat (1 + kd) (b3, p3, st3, unit) [] := by
         rw [← ht, show (2 + k2).toNat - es.length = ((2 + k2).toNat - (es ++ [(ky, (⟨#[]⟩ : ByteArray), 2 + ch, unit)]).length) + 1 by simp; omega]
         exact (entsV_inner hkey hk1 E11).symm
        have hgd : Good (1 + kd) (es ++ [(ky, (⟨#[]⟩ : ByteArray), 2 + ch, unit)]) := good_add hg hks.1 hks.2 (fun e => absurd e hk1) (fun _ => ⟨rfl, (by show 2 ≤ 2 + ch; omega), (by show 2 + ch < 512; omega)⟩)
        have hlt : (2 + k2).toNat - (es ++ [(ky, (⟨#[]⟩ : ByteArray), 2 + ch, unit)]).length < (2 + k2).toNat - es.length := by simp; omega
        have hle : (((es ++ [(ky, (⟨#[]⟩ : ByteArray), 2 + ch, unit)]).length : Nat) : Int) ≤ 2 + k2 := by simp; omega
        (try simp only [jqn] at hj); (try simp only [jqi] at hj)
        have hjn : wrap .i64 (j + 1) = (((es ++ [(ky, (⟨#[]⟩ : ByteArray), 2 + ch, unit)]).length : Nat) : Int) := by rw [hj, w64 (by omega)]; simp
        have hroom : es.length + 1 ≤ 2 ^ 36 := by omega
        rw [← hcw] at hent hgd hlt hle hjn
        subst hM
        refine ⟨hroom, _, hlt, _, es ++ [(ky, (⟨#[]⟩ : ByteArray), wrap .i64 (2 + ch), unit)], b11, p11, st11, hjn, hle, hs11, hent, hgd, rfl, .inr rfl⟩
     ·have hj0 : ¬ 0 < es.length := by
       intro hh
       (try simp only [jqn] at hj); (try simp only [jqi] at hj)
       have : (0 : Int) < j := by rw [hj]; omega
       subst hM
       exact absurd ((show real.dec (real.lt 0 j) = true from dec_iff.2 this).symm.trans h6) (by decide)
      clear h6
      have hkey : keyV es (textV (b9, p9, st9, unit) 12) = some (ky, (b10, p10, st10, unit)) := (by rw [E10]; exact keyV_first hj0)
      have hks := keyV_some hkey (by rw [E10]; show ky.size ≤ 12; omega)
      refine splM (fun h7 => ?_) (fun h7 => ?_) <;> cbv
      ·have hk1 : 1 + kd = 1 := by
        subst hM
        have e : wrap .i64 (1 + kd) = 1 := dec_iff.1 h7
        rw [w64 (by omega)] at e
        exact e
       clear h7
       refine ⟨fun _ => ⟨⟨_, rfl, hs10⟩, (by show (0 : Int) ≤ 10; omega), (by show (10 : Int) ≤ 20; omega)⟩, ?_⟩
       rintro ⟨(vl : ByteArray), ⟨⟩⟩ ⟨z11, zz11, ⟨⟩⟩ hpost - -
       obtain ⟨⟨b11, p11, st11, ⟨⟩⟩, hz11, E11, hs11, hr11⟩ := hpost _ rfl
       have hz11 : z11 = some (b11, p11, st11, unit) := hz11
       subst hz11
       clear hpost hz11
       have E11 : textV (b10, p10, st10, unit) 10 = (vl, (b11, p11, st11, unit)) := E11
       have hr11 : (vl.size : Int) ≤ 10 := hr11
       have hr11 : vl.size ≤ 10 := by omega
       cbv
       have hent : entsV ((2 + k2).toNat - (es ++ [(ky, vl, 0, unit)]).length) (1 + kd) (b11, p11, st11, unit) (es ++ [(ky, vl, 0, unit)]) = entsV (2 + k2).toNat (1 + kd) (b3, p3, st3, unit) [] := by
        rw [← ht, show (2 + k2).toNat - es.length = ((2 + k2).toNat - (es ++ [(ky, vl, 0, unit)]).length) + 1 by simp; omega]
        exact (entsV_leaf hkey hk1 E11).symm
       have hgd : Good (1 + kd) (es ++ [(ky, vl, 0, unit)]) := good_add hg hks.1 hks.2 (fun _ => ⟨rfl, (by show vl.size ≤ 10; omega)⟩) (fun e => by omega)
       have hlt : (2 + k2).toNat - (es ++ [(ky, vl, 0, unit)]).length < (2 + k2).toNat - es.length := by simp; omega
       have hle : (((es ++ [(ky, vl, 0, unit)]).length : Nat) : Int) ≤ 2 + k2 := by simp; omega
       (try simp only [jqn] at hj); (try simp only [jqi] at hj)
       have hjn : wrap .i64 (j + 1) = (((es ++ [(ky, vl, 0, unit)]).length : Nat) : Int) := by rw [hj, w64 (by omega)]; simp
       have hroom : es.length + 1 ≤ 2 ^ 36 := by omega
       subst hM
       refine ⟨hroom, _, hlt, _, es ++ [(ky, vl, 0, unit)], b11, p11, st11, hjn, hle, hs11, hent, hgd, rfl, .inr rfl⟩
      ·have hk1 : ¬ 1 + kd = 1 := by
        subst hM
        intro hh
        have e : real.eq (wrap .i64 (1 + kd)) 1 := by
         show wrap .i64 (1 + kd) = 1
         rw [w64 (by omega)]; exact hh
        exact absurd ((show real.dec (real.eq (wrap .i64 (1 + kd)) 1) = true from dec_iff.2 e).symm.trans h7) (by decide)
       clear h7
       refine ⟨fun _ => ⟨_, rfl, hs10⟩, ?_⟩
       rintro ⟨(ch : Int), ⟨⟩⟩ ⟨z11, zz11, ⟨⟩⟩ hpost - -
       obtain ⟨⟨b11, p11, st11, ⟨⟩⟩, hz11, E11, hs11, hr11⟩ := hpost _ rfl
       have hz11 : z11 = some (b11, p11, st11, unit) := hz11
       subst hz11
       clear hpost hz11
       have E11 : nextV (b10, p10, st10, unit) 510 = (ch, (b11, p11, st11, unit)) := E11
       have hr11 : 0 ≤ ch ∧ ch < 510 := hr11 (show (0 : Int) < 510 by decide)
       cbv
       have hcw : wrap .i64 (2 + ch) = 2 + ch := w64 (by omega)
       have hent : entsV ((2 + k2).toNat - (es ++ [(ky, (⟨#[]⟩ : ByteArray), 2 + ch, unit)]).length) (1 + kd) (b11, p11, st11, unit) (es ++ [(ky, (⟨#[]⟩ : ByteArray), 2 + ch, unit)]) = entsV (2 + k2).toNat (1 + kd) (b3, p3, st3, unit) [] := by
        rw [← ht, show (2 + k2).toNat - es.length = ((2 + k2).toNat - (es ++ [(ky, (⟨#[]⟩ : ByteArray), 2 + ch, unit)]).length) + 1 by simp; omega]
        exact (entsV_inner hkey hk1 E11).symm
       have hgd : Good (1 + kd) (es ++ [(ky, (⟨#[]⟩ : ByteArray), 2 + ch, unit)]) := good_add hg hks.1 hks.2 (fun e => absurd e hk1) (fun _ => ⟨rfl, (by show 2 ≤ 2 + ch; omega), (by show 2 + ch < 512; omega)⟩)
       have hlt : (2 + k2).toNat - (es ++ [(ky, (⟨#[]⟩ : ByteArray), 2 + ch, unit)]).length < (2 + k2).toNat - es.length := by simp; omega
       have hle : (((es ++ [(ky, (⟨#[]⟩ : ByteArray), 2 + ch, unit)]).length : Nat) : Int) ≤ 2 + k2 := by simp; omega
       (try simp only [jqn] at hj); (try simp only [jqi] at hj)
       have hjn : wrap .i64 (j + 1) = (((es ++ [(ky, (⟨#[]⟩ : ByteArray), 2 + ch, unit)]).length : Nat) : Int) := by rw [hj, w64 (by omega)]; simp
       have hroom : es.length + 1 ≤ 2 ^ 36 := by omega
       rw [← hcw] at hent hgd hlt hle hjn
       subst hM
       refine ⟨hroom, _, hlt, _, es ++ [(ky, (⟨#[]⟩ : ByteArray), wrap .i64 (2 + ch), unit)], b11, p11, st11, hjn, hle, hs11, hent, hgd, rfl, .inr rfl⟩
    ·have hin : (es.length : Int) = 2 + k2 := by
      have : ¬ j < M.wrap .i64 (M.add 2 k2) := by
       subst hM
       intro hh
       exact absurd ((show real.dec (real.lt j _) = true from dec_iff.2 hh).symm.trans h9) (by decide)
      (try simp only [jqn] at hj hi); (try simp only [jqi] at hj hi)
      omega
     clear h9
     have hent := ht.symm.trans (congrArg (fun z => entsV z (1 + kd) (b9, p9, st9, unit) es) (show (2 + k2).toNat - es.length = 0 by omega))
     refine splM (fun h7 => ?_) (fun h7 => ?_) <;> cbv
     ·have hk2 : 1 + kd = 2 := by
       subst hM
       have e : wrap .i64 (1 + kd) = 2 := dec_iff.1 h7
       rw [w64 (by omega)] at e
       exact e
      clear h7
      refine splM (fun h7 => ?_) (fun h7 => ?_) <;> cbv
      ·have hl2 : (es).length < 2 := by
        subst hM
        have e : (((es).length : Nat) : Int) < 2 := dec_iff.1 h7
        omega
       rintro - s hs
       cases hs
       have hend : endV (1 + kd) (es, (b9, p9, st9, unit)) = ((1, [], unit), (b9, p9, st9, unit)) := by
        unfold endV
        rw [if_pos ⟨hk2, hl2⟩]
       have hok := good_ok (s := (b9, p9, st9, unit)) hk12 hg h5
       rw [hend] at hok
       have hnd := (hnode _ hent).trans hend
       exact ⟨(b9, p9, st9, unit), rfl, hnd, hs9, hok⟩
      ·have hl2 : ¬ (es).length < 2 := by
        subst hM
        intro hh
        exact absurd ((show real.dec (real.lt (((es).length : Nat) : Int) 2) = true from dec_iff.2 (show (((es).length : Nat) : Int) < 2 by omega)).symm.trans h7) (by decide)
       rintro - s hs
       cases hs
       have hend : endV (1 + kd) (es, (b9, p9, st9, unit)) = ((1 + kd, es, unit), (b9, p9, st9, unit)) := by
        unfold endV
        rw [if_neg (fun h => hl2 h.2)]
       have hok := good_ok (s := (b9, p9, st9, unit)) hk12 hg h5
       rw [hend] at hok
       have hnd := (hnode _ hent).trans hend
       rw [← hkv] at hnd hok
       exact ⟨(b9, p9, st9, unit), rfl, hnd, hs9, hok⟩
     ·have hk2 : ¬ 1 + kd = 2 := by
       subst hM
       intro hh
       have e : real.eq (wrap .i64 (1 + kd)) 2 := by
        show wrap .i64 (1 + kd) = 2
        rw [w64 (by omega)]; exact hh
       exact absurd ((show real.dec (real.eq (wrap .i64 (1 + kd)) 2) = true from dec_iff.2 e).symm.trans h7) (by decide)
      rintro - s hs
      cases hs
      have hend : endV (1 + kd) (es, (b9, p9, st9, unit)) = ((1 + kd, es, unit), (b9, p9, st9, unit)) := by
       unfold endV
       rw [if_neg (fun h => hk2 h.1)]
      have hok := good_ok (s := (b9, p9, st9, unit)) hk12 hg h5
      rw [hend] at hok
      have hnd := (hnode _ hent).trans hend
      rw [← hkv] at hnd hok
      exact ⟨(b9, p9, st9, unit), rfl, hnd, hs9, hok⟩
  ·have hklt : ¬ k < 2 := by
    subst hM
    intro hh
    exact absurd ((show real.dec (real.lt k 2) = true from dec_iff.2 hh).symm.trans h) (by decide)
   clear h
   have hnode : ∀ r, entsV (k).toNat (1 + kd) (b2, p2, st2, unit) [] = r → nodeV (b0, p0, st0, unit) = endV (1 + kd) r := fun r hr => by
    unfold nodeV
    rw [E1]
    show endV (1 + kd) (entsV (cntV kd (nextV (b1, p1, st1, unit) 6)).1.toNat (1 + kd) (cntV kd (nextV (b1, p1, st1, unit) 6)).2 []) = _
    rw [E2]
    unfold cntV
    rw [if_neg (fun h => hklt h.2)]
    skip
    rw [← hr]
   have hkk : k = k := rfl
   have h05 : 0 ≤ k ∧ k ≤ 5 := by omega
   refine ⟨fun m Γ => ∃ (j : Int) (es : List EntD) (b9 : List Int) (p9 st9 : Int), j = es.length ∧ (es.length : Int) ≤ k ∧ SrcOK (b9, p9, st9, unit) ∧ entsV ((k).toNat - es.length) (1 + kd) (b9, p9, st9, unit) es = entsV (k).toNat (1 + kd) (b2, p2, st2, unit) [] ∧ Good (1 + kd) es ∧ m = (k).toNat - es.length ∧ ((es = [] ∧ Γ = ⟨91, [(0, .ad 0 tySrc 0 []), (2, .ad 1 tyNode 0 []), (3, .ad 2 tyNode 0 []), (4, .pv [] (.int .i64) (k)), (5, .pv [] (.int .i64) j)], [(0, .box (.consA (.pv [] tyB b9) (.consA (.pv [] (.int .i64) p9) (.consA (.pv [] (.int .u64) st9) .nilA)))), (1, .box (.consA (.pv [] (.int .i64) 0) (.consA .nils .nilA))), (2, .box (.consA (.pv [] (.int .i64) (M.wrap .i64 (M.add 1 kd))) (.consA .nils .nilA)))], [.ad 0 tySrc 0 []]⟩) ∨ Γ = ⟨91, [(0, .ad 0 tySrc 0 []), (2, .ad 1 tyNode 0 []), (3, .ad 2 tyNode 0 []), (4, .pv [] (.int .i64) (k)), (5, .pv [] (.int .i64) j)], [(0, .box (.consA (.pv [] tyB b9) (.consA (.pv [] (.int .i64) p9) (.consA (.pv [] (.int .u64) st9) .nilA)))), (1, .box (.consA (.pv [] (.int .i64) 0) (.consA .nils .nilA))), (2, .box (.consA (.pv [] (.int .i64) (M.wrap .i64 (M.add 1 kd))) (.consA (.ref 5) .nilA))), (5, .row 0 tyEnt es)], [.ad 0 tySrc 0 []]⟩), ⟨_, 0, [], b2, p2, st2, rfl, h05.1, hs2, rfl, (fun i hi => absurd hi (Nat.not_lt_zero i)), rfl, .inl ⟨rfl, rfl⟩⟩, ?_⟩
   rintro m _ ⟨j, es, b9, p9, st9, hj, hi, hs9, ht, hg, rfl, (⟨he0, rfl⟩ | rfl)⟩ -
   ·subst he0
    have h5 : ([] : List EntD).length ≤ 5 := by (try simp only [jqn] at hi); (try simp only [jqi] at hi); omega
    cbv
    skip
    refine splM (fun h9 => ?_) (fun h9 => ?_) <;> cbv
    ·have hin : ([] : List EntD).length < (k).toNat := by
      have : j < k := by subst hM; exact dec_iff.1 h9
      (try simp only [jqn] at hj); (try simp only [jqi] at hj)
      omega
     clear h9
     refine ⟨fun _ => ⟨⟨_, rfl, hs9⟩, (by show (0 : Int) ≤ 12; omega), (by show (12 : Int) ≤ 20; omega)⟩, ?_⟩
     rintro ⟨(ky : ByteArray), ⟨⟩⟩ ⟨z10, zz10, ⟨⟩⟩ hpost - -
     obtain ⟨⟨b10, p10, st10, ⟨⟩⟩, hz10, E10, hs10, hr10⟩ := hpost _ rfl
     have hz10 : z10 = some (b10, p10, st10, unit) := hz10
     subst hz10
     clear hpost hz10
     have E10 : textV (b9, p9, st9, unit) 12 = (ky, (b10, p10, st10, unit)) := E10
     have hr10 : (ky.size : Int) ≤ 12 := hr10
     have hr10 : ky.size ≤ 12 := by omega
     cbv
     refine ⟨(fun _ => by first | exact drawRd rfl (by decide +kernel) | exact drawTail (by decide +kernel)), ?_⟩
     refine splM (fun h6 => ?_) (fun h6 => ?_) <;> cbv
     ·skip
      exfalso
      have : (0 : Int) < j := by subst hM; exact dec_iff.1 h6
      (try simp only [jqn] at hj); (try simp only [jqi] at hj)
      simp at hj
      omega
     ·have hj0 : ¬ 0 < ([] : List EntD).length := by
       intro hh
       (try simp only [jqn] at hj); (try simp only [jqi] at hj)
       have : (0 : Int) < j := by rw [hj]; omega
       subst hM
       exact absurd ((show real.dec (real.lt 0 j) = true from dec_iff.2 this).symm.trans h6) (by decide)
      clear h6
      have hkey : keyV ([] : List EntD) (textV (b9, p9, st9, unit) 12) = some (ky, (b10, p10, st10, unit)) := (by rw [E10]; exact keyV_first hj0)
      have hks := keyV_some hkey (by rw [E10]; show ky.size ≤ 12; omega)
      refine splM (fun h7 => ?_) (fun h7 => ?_) <;> cbv
      ·have hk1 : 1 + kd = 1 := by
        subst hM
        have e : wrap .i64 (1 + kd) = 1 := dec_iff.1 h7
        rw [w64 (by omega)] at e
        exact e
       clear h7
       refine ⟨fun _ => ⟨⟨_, rfl, hs10⟩, (by show (0 : Int) ≤ 10; omega), (by show (10 : Int) ≤ 20; omega)⟩, ?_⟩
       rintro ⟨(vl : ByteArray), ⟨⟩⟩ ⟨z11, zz11, ⟨⟩⟩ hpost - -
       obtain ⟨⟨b11, p11, st11, ⟨⟩⟩, hz11, E11, hs11, hr11⟩ := hpost _ rfl
       have hz11 : z11 = some (b11, p11, st11, unit) := hz11
       subst hz11
       clear hpost hz11
       have E11 : textV (b10, p10, st10, unit) 10 = (vl, (b11, p11, st11, unit)) := E11
       have hr11 : (vl.size : Int) ≤ 10 := hr11
       have hr11 : vl.size ≤ 10 := by omega
       cbv
       have hent : entsV ((k).toNat - (([] : List EntD) ++ [(ky, vl, 0, unit)]).length) (1 + kd) (b11, p11, st11, unit) (([] : List EntD) ++ [(ky, vl, 0, unit)]) = entsV (k).toNat (1 + kd) (b2, p2, st2, unit) [] := by
        rw [← ht, show (k).toNat - ([] : List EntD).length = ((k).toNat - (([] : List EntD) ++ [(ky, vl, 0, unit)]).length) + 1 by simp; omega]
        exact (entsV_leaf hkey hk1 E11).symm
       have hgd : Good (1 + kd) (([] : List EntD) ++ [(ky, vl, 0, unit)]) := good_add hg hks.1 hks.2 (fun _ => ⟨rfl, (by show vl.size ≤ 10; omega)⟩) (fun e => by omega)
       have hlt : (k).toNat - (([] : List EntD) ++ [(ky, vl, 0, unit)]).length < (k).toNat - ([] : List EntD).length := by simp; omega
       have hle : (((([] : List EntD) ++ [(ky, vl, 0, unit)]).length : Nat) : Int) ≤ k := by simp; omega
       (try simp only [jqn] at hj); (try simp only [jqi] at hj)
       have hjn : wrap .i64 (j + 1) = (((([] : List EntD) ++ [(ky, vl, 0, unit)]).length : Nat) : Int) := by rw [hj, w64 (by omega)]; simp
       have hroom : ([] : List EntD).length + 1 ≤ 2 ^ 36 := by omega
       subst hM
       refine ⟨hroom, _, hlt, _, ([] : List EntD) ++ [(ky, vl, 0, unit)], b11, p11, st11, hjn, hle, hs11, hent, hgd, rfl, .inr rfl⟩
      ·have hk1 : ¬ 1 + kd = 1 := by
        subst hM
        intro hh
        have e : real.eq (wrap .i64 (1 + kd)) 1 := by
         show wrap .i64 (1 + kd) = 1
         rw [w64 (by omega)]; exact hh
        exact absurd ((show real.dec (real.eq (wrap .i64 (1 + kd)) 1) = true from dec_iff.2 e).symm.trans h7) (by decide)
       clear h7
       refine ⟨fun _ => ⟨_, rfl, hs10⟩, ?_⟩
       rintro ⟨(ch : Int), ⟨⟩⟩ ⟨z11, zz11, ⟨⟩⟩ hpost - -
       obtain ⟨⟨b11, p11, st11, ⟨⟩⟩, hz11, E11, hs11, hr11⟩ := hpost _ rfl
       have hz11 : z11 = some (b11, p11, st11, unit) := hz11
       subst hz11
       clear hpost hz11
       have E11 : nextV (b10, p10, st10, unit) 510 = (ch, (b11, p11, st11, unit)) := E11
       have hr11 : 0 ≤ ch ∧ ch < 510 := hr11 (show (0 : Int) < 510 by decide)
       cbv
       have hcw : wrap .i64 (2 + ch) = 2 + ch := w64 (by omega)
       have hent : entsV ((k).toNat - (([] : List EntD) ++ [(ky, (⟨#[]⟩ : ByteArray), 2 + ch, unit)]).length) (1 + kd) (b11, p11, st11, unit) (([] : List EntD) ++ [(ky, (⟨#[]⟩ : ByteArray), 2 + ch, unit)]) = entsV (k).toNat (1 + kd) (b2, p2, st2, unit) [] := by
        rw [← ht, show (k).toNat - ([] : List EntD).length = ((k).toNat - (([] : List EntD) ++ [(ky, (⟨#[]⟩ : ByteArray), 2 + ch, unit)]).length) + 1 by simp; omega]
        exact (entsV_inner hkey hk1 E11).symm
       have hgd : Good (1 + kd) (([] : List EntD) ++ [(ky, (⟨#[]⟩ : ByteArray), 2 + ch, unit)]) := good_add hg hks.1 hks.2 (fun e => absurd e hk1) (fun _ => ⟨rfl, (by show 2 ≤ 2 + ch; omega), (by show 2 + ch < 512; omega)⟩)
       have hlt : (k).toNat - (([] : List EntD) ++ [(ky, (⟨#[]⟩ : ByteArray), 2 + ch, unit)]).length < (k).toNat - ([] : List EntD).length := by simp; omega
       have hle : (((([] : List EntD) ++ [(ky, (⟨#[]⟩ : ByteArray), 2 + ch, unit)]).length : Nat) : Int) ≤ k := by simp; omega
       (try simp only [jqn] at hj); (try simp only [jqi] at hj)
       have hjn : wrap .i64 (j + 1) = (((([] : List EntD) ++ [(ky, (⟨#[]⟩ : ByteArray), 2 + ch, unit)]).length : Nat) : Int) := by rw [hj, w64 (by omega)]; simp
       have hroom : ([] : List EntD).length + 1 ≤ 2 ^ 36 := by omega
       rw [← hcw] at hent hgd hlt hle hjn
       subst hM
       refine ⟨hroom, _, hlt, _, ([] : List EntD) ++ [(ky, (⟨#[]⟩ : ByteArray), wrap .i64 (2 + ch), unit)], b11, p11, st11, hjn, hle, hs11, hent, hgd, rfl, .inr rfl⟩
    ·have hin : (([] : List EntD).length : Int) = k := by
      have : ¬ j < k := by
       subst hM
       intro hh
       exact absurd ((show real.dec (real.lt j _) = true from dec_iff.2 hh).symm.trans h9) (by decide)
      (try simp only [jqn] at hj hi); (try simp only [jqi] at hj hi)
      omega
     clear h9
     have hent := ht.symm.trans (congrArg (fun z => entsV z (1 + kd) (b9, p9, st9, unit) ([] : List EntD)) (show (k).toNat - ([] : List EntD).length = 0 by omega))
     refine splM (fun h7 => ?_) (fun h7 => ?_) <;> cbv
     ·have hk2 : 1 + kd = 2 := by
       subst hM
       have e : wrap .i64 (1 + kd) = 2 := dec_iff.1 h7
       rw [w64 (by omega)] at e
       exact e
      clear h7
      refine splM (fun h7 => ?_) (fun h7 => ?_) <;> cbv
      ·have hl2 : (([] : List EntD)).length < 2 := by
        subst hM
        have e : (((([] : List EntD)).length : Nat) : Int) < 2 := dec_iff.1 h7
        omega
       rintro - s hs
       cases hs
       have hend : endV (1 + kd) (([] : List EntD), (b9, p9, st9, unit)) = ((1, [], unit), (b9, p9, st9, unit)) := by
        unfold endV
        rw [if_pos ⟨hk2, hl2⟩]
       have hok := good_ok (s := (b9, p9, st9, unit)) hk12 hg h5
       rw [hend] at hok
       have hnd := (hnode _ hent).trans hend
       exact ⟨(b9, p9, st9, unit), rfl, hnd, hs9, hok⟩
      ·have hl2 : ¬ (([] : List EntD)).length < 2 := by
        subst hM
        intro hh
        exact absurd ((show real.dec (real.lt (((([] : List EntD)).length : Nat) : Int) 2) = true from dec_iff.2 (show (((([] : List EntD)).length : Nat) : Int) < 2 by omega)).symm.trans h7) (by decide)
       rintro - s hs
       cases hs
       have hend : endV (1 + kd) (([] : List EntD), (b9, p9, st9, unit)) = ((1 + kd, ([] : List EntD), unit), (b9, p9, st9, unit)) := by
        unfold endV
        rw [if_neg (fun h => hl2 h.2)]
       have hok := good_ok (s := (b9, p9, st9, unit)) hk12 hg h5
       rw [hend] at hok
       have hnd := (hnode _ hent).trans hend
       rw [← hkv] at hnd hok
       exact ⟨(b9, p9, st9, unit), rfl, hnd, hs9, hok⟩
     ·have hk2 : ¬ 1 + kd = 2 := by
       subst hM
       intro hh
       have e : real.eq (wrap .i64 (1 + kd)) 2 := by
        show wrap .i64 (1 + kd) = 2
        rw [w64 (by omega)]; exact hh
       exact absurd ((show real.dec (real.eq (wrap .i64 (1 + kd)) 2) = true from dec_iff.2 e).symm.trans h7) (by decide)
      rintro - s hs
      cases hs
      have hend : endV (1 + kd) (([] : List EntD), (b9, p9, st9, unit)) = ((1 + kd, ([] : List EntD), unit), (b9, p9, st9, unit)) := by
       unfold endV
       rw [if_neg (fun h => hk2 h.1)]
      have hok := good_ok (s := (b9, p9, st9, unit)) hk12 hg h5
      rw [hend] at hok
      have hnd := (hnode _ hent).trans hend
      rw [← hkv] at hnd hok
      exact ⟨(b9, p9, st9, unit), rfl, hnd, hs9, hok⟩
   ·skip
    have h5 : es.length ≤ 5 := by (try simp only [jqn] at hi); (try simp only [jqi] at hi); omega
    cbv
    skip
    refine splM (fun h9 => ?_) (fun h9 => ?_) <;> cbv
    ·have hin : es.length < (k).toNat := by
      have : j < k := by subst hM; exact dec_iff.1 h9
      (try simp only [jqn] at hj); (try simp only [jqi] at hj)
      omega
     clear h9
     refine ⟨fun _ => ⟨⟨_, rfl, hs9⟩, (by show (0 : Int) ≤ 12; omega), (by show (12 : Int) ≤ 20; omega)⟩, ?_⟩
     rintro ⟨(ky : ByteArray), ⟨⟩⟩ ⟨z10, zz10, ⟨⟩⟩ hpost - -
     obtain ⟨⟨b10, p10, st10, ⟨⟩⟩, hz10, E10, hs10, hr10⟩ := hpost _ rfl
     have hz10 : z10 = some (b10, p10, st10, unit) := hz10
     subst hz10
     clear hpost hz10
     have E10 : textV (b9, p9, st9, unit) 12 = (ky, (b10, p10, st10, unit)) := E10
     have hr10 : (ky.size : Int) ≤ 12 := hr10
     have hr10 : ky.size ≤ 12 := by omega
     cbv
     refine ⟨(fun _ => by first | exact drawRd rfl (by decide +kernel) | exact drawTail (by decide +kernel)), ?_⟩
     refine splM (fun h6 => ?_) (fun h6 => ?_) <;> cbv
     ·skip
      have hj0 : 0 < es.length := by
       have : (0 : Int) < j := by subst hM; exact dec_iff.1 h6
       (try simp only [jqn] at hj); (try simp only [jqi] at hj)
       omega
      have hjm : wrap .i64 (j - 1) = ((es.length - 1 : Nat) : Int) := by
       (try simp only [jqn] at hj); (try simp only [jqi] at hj)
       rw [hj, w64 (by omega)]; omega
      have hb0 : 0 ≤ wrap .i64 (j - 1) := by rw [hjm]; omega
      have hb1 : wrap .i64 (j - 1) < (es.length : Int) := by rw [hjm]; omega
      have hla : (es.getD (wrap .i64 (j - 1)).toNat (ByteArray.empty, ByteArray.empty, 0, ())).1 = lastK es := by
       rw [hjm]; rfl
      clear h6
      repeat (first | (refine And.intro (by subst hM; exact hb0) ?_) | (refine And.intro (by subst hM; exact hb1) ?_))
      refine splM (fun h6 => ?_) (fun h6 => ?_) <;> cbv
      ·have hle : leS ky (lastK es) = true := by
        subst hM
        rw [← hla]
        exact h6
       clear h6
       repeat (first | (refine And.intro (by subst hM; exact hb0) ?_) | (refine And.intro (by subst hM; exact hb1) ?_))
       refine splM (fun h6 => ?_) (fun h6 => ?_) <;> cbv
       ·have hl12 : (lastK es).size < 12 := by
         rw [← hla]
         subst hM
         have : ((es.getD (wrap .i64 (j - 1)).toNat (ByteArray.empty, ByteArray.empty, 0, ())).1.size : Int) < ((12 : Nat) : Int) := dec_iff.1 h6
         exact Int.ofNat_lt.1 this
        clear h6
        refine ⟨fun _ => ⟨_, rfl, hs10⟩, ?_⟩
        rintro ⟨(c : Int), ⟨⟩⟩ ⟨z11, zz11, ⟨⟩⟩ hpost - -
        obtain ⟨⟨b11, p11, st11, ⟨⟩⟩, hz11, E11, hs11, hr11⟩ := hpost _ rfl
        have hz11 : z11 = some (b11, p11, st11, unit) := hz11
        subst hz11
        clear hpost hz11
        have E11 : nextV (b10, p10, st10, unit) 256 = (c, (b11, p11, st11, unit)) := E11
        have hr11 : 0 ≤ c ∧ c < 256 := hr11 (show (0 : Int) < 256 by decide)
        cbv
        have hc8 : wrap .u8 c = c := w8 (by omega)
        have hroom1 : real.sRoom (es.getD (wrap .i64 (j - 1)).toNat (ByteArray.empty, ByteArray.empty, 0, ())).1 (real.ofB [wrap .u8 c]) := by
         rw [hla]
         show (lastK es).size + 1 ≤ maxL
         rw [maxL_eq]; omega
        have hkx : M.sApp (M.get es (M.wrap .i64 (M.sub j 1)) (ByteArray.empty, ByteArray.empty, 0, ())).1 (M.ofB [M.wrap .u8 c]) = real.sApp (lastK es) (real.ofB [c]) := by
         subst hM
         show real.sApp (es.getD (wrap .i64 (j - 1)).toNat (ByteArray.empty, ByteArray.empty, 0, ())).1 (real.ofB [wrap .u8 c]) = _
         rw [hla, hc8]
        refine ⟨by subst hM; exact hroom1, ?_⟩
        have hkey : keyV es (textV (b9, p9, st9, unit) 12) = some (M.sApp (M.get es (M.wrap .i64 (M.sub j 1)) (ByteArray.empty, ByteArray.empty, 0, ())).1 (M.ofB [M.wrap .u8 c]), (b11, p11, st11, unit)) := (by rw [hkx, E10]; exact keyV_app hj0 hle hl12 E11)
        have hks := keyV_some hkey (by rw [E10]; show ky.size ≤ 12; omega)
        refine splM (fun h7 => ?_) (fun h7 => ?_) <;> cbv
        ·have hk1 : 1 + kd = 1 := by
          subst hM
          have e : wrap .i64 (1 + kd) = 1 := dec_iff.1 h7
          rw [w64 (by omega)] at e
          exact e
         clear h7
         refine ⟨fun _ => ⟨⟨_, rfl, hs11⟩, (by show (0 : Int) ≤ 10; omega), (by show (10 : Int) ≤ 20; omega)⟩, ?_⟩
         rintro ⟨(vl : ByteArray), ⟨⟩⟩ ⟨z12, zz12, ⟨⟩⟩ hpost - -
         obtain ⟨⟨b12, p12, st12, ⟨⟩⟩, hz12, E12, hs12, hr12⟩ := hpost _ rfl
         have hz12 : z12 = some (b12, p12, st12, unit) := hz12
         subst hz12
         clear hpost hz12
         have E12 : textV (b11, p11, st11, unit) 10 = (vl, (b12, p12, st12, unit)) := E12
         have hr12 : (vl.size : Int) ≤ 10 := hr12
         have hr12 : vl.size ≤ 10 := by omega
         cbv
         have hent : entsV ((k).toNat - (es ++ [(M.sApp (M.get es (M.wrap .i64 (M.sub j 1)) (ByteArray.empty, ByteArray.empty, 0, ())).1 (M.ofB [M.wrap .u8 c]), vl, 0, unit)]).length) (1 + kd) (b12, p12, st12, unit) (es ++ [(M.sApp (M.get es (M.wrap .i64 (M.sub j 1)) (ByteArray.empty, ByteArray.empty, 0, ())).1 (M.ofB [M.wrap .u8 c]), vl, 0, unit)]) = entsV (k).toNat (1 + kd) (b2, p2, st2, unit) [] := by
          rw [← ht, show (k).toNat - es.length = ((k).toNat - (es ++ [(M.sApp (M.get es (M.wrap .i64 (M.sub j 1)) (ByteArray.empty, ByteArray.empty, 0, ())).1 (M.ofB [M.wrap .u8 c]), vl, 0, unit)]).length) + 1 by simp; omega]
          exact (entsV_leaf hkey hk1 E12).symm
         have hgd : Good (1 + kd) (es ++ [(M.sApp (M.get es (M.wrap .i64 (M.sub j 1)) (ByteArray.empty, ByteArray.empty, 0, ())).1 (M.ofB [M.wrap .u8 c]), vl, 0, unit)]) := good_add hg hks.1 hks.2 (fun _ => ⟨rfl, (by show vl.size ≤ 10; omega)⟩) (fun e => by omega)
         have hlt : (k).toNat - (es ++ [(M.sApp (M.get es (M.wrap .i64 (M.sub j 1)) (ByteArray.empty, ByteArray.empty, 0, ())).1 (M.ofB [M.wrap .u8 c]), vl, 0, unit)]).length < (k).toNat - es.length := by simp; omega
         have hle : (((es ++ [(M.sApp (M.get es (M.wrap .i64 (M.sub j 1)) (ByteArray.empty, ByteArray.empty, 0, ())).1 (M.ofB [M.wrap .u8 c]), vl, 0, unit)]).length : Nat) : Int) ≤ k := by simp; omega
         (try simp only [jqn] at hj); (try simp only [jqi] at hj)
         have hjn : wrap .i64 (j + 1) = (((es ++ [(M.sApp (M.get es (M.wrap .i64 (M.sub j 1)) (ByteArray.empty, ByteArray.empty, 0, ())).1 (M.ofB [M.wrap .u8 c]), vl, 0, unit)]).length : Nat) : Int) := by rw [hj, w64 (by omega)]; simp
         have hroom : es.length + 1 ≤ 2 ^ 36 := by omega
         subst hM
         refine ⟨hroom, _, hlt, _, es ++ [(real.sApp (real.get es (real.wrap .i64 (real.sub j 1)) (ByteArray.empty, ByteArray.empty, 0, ())).1 (real.ofB [real.wrap .u8 c]), vl, 0, unit)], b12, p12, st12, hjn, hle, hs12, hent, hgd, rfl, .inr rfl⟩
        ·have hk1 : ¬ 1 + kd = 1 := by
          subst hM
          intro hh
          have e : real.eq (wrap .i64 (1 + kd)) 1 := by
           show wrap .i64 (1 + kd) = 1
           rw [w64 (by omega)]; exact hh
          exact absurd ((show real.dec (real.eq (wrap .i64 (1 + kd)) 1) = true from dec_iff.2 e).symm.trans h7) (by decide)
         clear h7
         refine ⟨fun _ => ⟨_, rfl, hs11⟩, ?_⟩
         rintro ⟨(ch : Int), ⟨⟩⟩ ⟨z12, zz12, ⟨⟩⟩ hpost - -
         obtain ⟨⟨b12, p12, st12, ⟨⟩⟩, hz12, E12, hs12, hr12⟩ := hpost _ rfl
         have hz12 : z12 = some (b12, p12, st12, unit) := hz12
         subst hz12
         clear hpost hz12
         have E12 : nextV (b11, p11, st11, unit) 510 = (ch, (b12, p12, st12, unit)) := E12
         have hr12 : 0 ≤ ch ∧ ch < 510 := hr12 (show (0 : Int) < 510 by decide)
         cbv
         have hcw : wrap .i64 (2 + ch) = 2 + ch := w64 (by omega)
         have hent : entsV ((k).toNat - (es ++ [(M.sApp (M.get es (M.wrap .i64 (M.sub j 1)) (ByteArray.empty, ByteArray.empty, 0, ())).1 (M.ofB [M.wrap .u8 c]), (⟨#[]⟩ : ByteArray), 2 + ch, unit)]).length) (1 + kd) (b12, p12, st12, unit) (es ++ [(M.sApp (M.get es (M.wrap .i64 (M.sub j 1)) (ByteArray.empty, ByteArray.empty, 0, ())).1 (M.ofB [M.wrap .u8 c]), (⟨#[]⟩ : ByteArray), 2 + ch, unit)]) = entsV (k).toNat (1 + kd) (b2, p2, st2, unit) [] := by
          rw [← ht, show (k).toNat - es.length = ((k).toNat - (es ++ [(M.sApp (M.get es (M.wrap .i64 (M.sub j 1)) (ByteArray.empty, ByteArray.empty, 0, ())).1 (M.ofB [M.wrap .u8 c]), (⟨#[]⟩ : ByteArray), 2 + ch, unit)]).length) + 1 by simp; omega]
          exact (entsV_inner hkey hk1 E12).symm
         have hgd : Good (1 + kd) (es ++ [(M.sApp (M.get es (M.wrap .i64 (M.sub j 1)) (ByteArray.empty, ByteArray.empty, 0, ())).1 (M.ofB [M.wrap .u8 c]), (⟨#[]⟩ : ByteArray), 2 + ch, unit)]) := good_add hg hks.1 hks.2 (fun e => absurd e hk1) (fun _ => ⟨rfl, (by show 2 ≤ 2 + ch; omega), (by show 2 + ch < 512; omega)⟩)
         have hlt : (k).toNat - (es ++ [(M.sApp (M.get es (M.wrap .i64 (M.sub j 1)) (ByteArray.empty, ByteArray.empty, 0, ())).1 (M.ofB [M.wrap .u8 c]), (⟨#[]⟩ : ByteArray), 2 + ch, unit)]).length < (k).toNat - es.length := by simp; omega
         have hle : (((es ++ [(M.sApp (M.get es (M.wrap .i64 (M.sub j 1)) (ByteArray.empty, ByteArray.empty, 0, ())).1 (M.ofB [M.wrap .u8 c]), (⟨#[]⟩ : ByteArray), 2 + ch, unit)]).length : Nat) : Int) ≤ k := by simp; omega
         (try simp only [jqn] at hj); (try simp only [jqi] at hj)
         have hjn : wrap .i64 (j + 1) = (((es ++ [(M.sApp (M.get es (M.wrap .i64 (M.sub j 1)) (ByteArray.empty, ByteArray.empty, 0, ())).1 (M.ofB [M.wrap .u8 c]), (⟨#[]⟩ : ByteArray), 2 + ch, unit)]).length : Nat) : Int) := by rw [hj, w64 (by omega)]; simp
         have hroom : es.length + 1 ≤ 2 ^ 36 := by omega
         rw [← hcw] at hent hgd hlt hle hjn
         subst hM
         refine ⟨hroom, _, hlt, _, es ++ [(real.sApp (real.get es (real.wrap .i64 (real.sub j 1)) (ByteArray.empty, ByteArray.empty, 0, ())).1 (real.ofB [real.wrap .u8 c]), (⟨#[]⟩ : ByteArray), wrap .i64 (2 + ch), unit)], b12, p12, st12, hjn, hle, hs12, hent, hgd, rfl, .inr rfl⟩
       ·have hl12 : ¬ (lastK es).size < 12 := by
         rw [← hla]
         subst hM
         intro hh
         exact absurd ((show real.dec (real.lt (((es.getD (wrap .i64 (j - 1)).toNat (ByteArray.empty, ByteArray.empty, 0, ())).1.size : Nat) : Int) 12) = true from dec_iff.2 (show (((es.getD (wrap .i64 (j - 1)).toNat (ByteArray.empty, ByteArray.empty, 0, ())).1.size : Nat) : Int) < ((12 : Nat) : Int) from Int.ofNat_lt.2 hh)).symm.trans h6) (by decide)
        clear h6
        have hent := ht.symm.trans ((congrArg (fun z => entsV z (1 + kd) (b9, p9, st9, unit) es) (show (k).toNat - es.length = ((k).toNat - es.length - 1) + 1 by omega)).trans (entsV_stop (by rw [E10]; exact keyV_stop hj0 hle hl12) E10))
        refine splM (fun h7 => ?_) (fun h7 => ?_) <;> cbv
        ·have hk2 : 1 + kd = 2 := by
          subst hM
          have e : wrap .i64 (1 + kd) = 2 := dec_iff.1 h7
          rw [w64 (by omega)] at e
          exact e
         clear h7
         refine splM (fun h7 => ?_) (fun h7 => ?_) <;> cbv
         ·have hl2 : (es).length < 2 := by
           subst hM
           have e : (((es).length : Nat) : Int) < 2 := dec_iff.1 h7
           omega
          rintro - s hs
          cases hs
          have hend : endV (1 + kd) (es, (b10, p10, st10, unit)) = ((1, [], unit), (b10, p10, st10, unit)) := by
           unfold endV
           rw [if_pos ⟨hk2, hl2⟩]
          have hok := good_ok (s := (b10, p10, st10, unit)) hk12 hg h5
          rw [hend] at hok
          have hnd := (hnode _ hent).trans hend
          exact ⟨(b10, p10, st10, unit), rfl, hnd, hs10, hok⟩
         ·have hl2 : ¬ (es).length < 2 := by
           subst hM
           intro hh
           exact absurd ((show real.dec (real.lt (((es).length : Nat) : Int) 2) = true from dec_iff.2 (show (((es).length : Nat) : Int) < 2 by omega)).symm.trans h7) (by decide)
          rintro - s hs
          cases hs
          have hend : endV (1 + kd) (es, (b10, p10, st10, unit)) = ((1 + kd, es, unit), (b10, p10, st10, unit)) := by
           unfold endV
           rw [if_neg (fun h => hl2 h.2)]
          have hok := good_ok (s := (b10, p10, st10, unit)) hk12 hg h5
          rw [hend] at hok
          have hnd := (hnode _ hent).trans hend
          rw [← hkv] at hnd hok
          exact ⟨(b10, p10, st10, unit), rfl, hnd, hs10, hok⟩
        ·have hk2 : ¬ 1 + kd = 2 := by
          subst hM
          intro hh
          have e : real.eq (wrap .i64 (1 + kd)) 2 := by
           show wrap .i64 (1 + kd) = 2
           rw [w64 (by omega)]; exact hh
          exact absurd ((show real.dec (real.eq (wrap .i64 (1 + kd)) 2) = true from dec_iff.2 e).symm.trans h7) (by decide)
         rintro - s hs
         cases hs
         have hend : endV (1 + kd) (es, (b10, p10, st10, unit)) = ((1 + kd, es, unit), (b10, p10, st10, unit)) := by
          unfold endV
          rw [if_neg (fun h => hk2 h.1)]
         have hok := good_ok (s := (b10, p10, st10, unit)) hk12 hg h5
         rw [hend] at hok
         have hnd := (hnode _ hent).trans hend
         rw [← hkv] at hnd hok
         exact ⟨(b10, p10, st10, unit), rfl, hnd, hs10, hok⟩
      ·have hle : ¬ leS ky (lastK es) = true := by
        intro hh
        rw [← hla] at hh
        subst hM
        exact absurd (hh.symm.trans h6) (by decide)
       clear h6
       have hkey : keyV es (textV (b9, p9, st9, unit) 12) = some (ky, (b10, p10, st10, unit)) := (by rw [E10]; exact keyV_gt hle)
       have hks := keyV_some hkey (by rw [E10]; show ky.size ≤ 12; omega)
       refine splM (fun h7 => ?_) (fun h7 => ?_) <;> cbv
       ·have hk1 : 1 + kd = 1 := by
         subst hM
         have e : wrap .i64 (1 + kd) = 1 := dec_iff.1 h7
         rw [w64 (by omega)] at e
         exact e
        clear h7
        refine ⟨fun _ => ⟨⟨_, rfl, hs10⟩, (by show (0 : Int) ≤ 10; omega), (by show (10 : Int) ≤ 20; omega)⟩, ?_⟩
        rintro ⟨(vl : ByteArray), ⟨⟩⟩ ⟨z11, zz11, ⟨⟩⟩ hpost - -
        obtain ⟨⟨b11, p11, st11, ⟨⟩⟩, hz11, E11, hs11, hr11⟩ := hpost _ rfl
        have hz11 : z11 = some (b11, p11, st11, unit) := hz11
        subst hz11
        clear hpost hz11
        have E11 : textV (b10, p10, st10, unit) 10 = (vl, (b11, p11, st11, unit)) := E11
        have hr11 : (vl.size : Int) ≤ 10 := hr11
        have hr11 : vl.size ≤ 10 := by omega
        cbv
        have hent : entsV ((k).toNat - (es ++ [(ky, vl, 0, unit)]).length) (1 + kd) (b11, p11, st11, unit) (es ++ [(ky, vl, 0, unit)]) = entsV (k).toNat (1 + kd) (b2, p2, st2, unit) [] := by
         rw [← ht, show (k).toNat - es.length = ((k).toNat - (es ++ [(ky, vl, 0, unit)]).length) + 1 by simp; omega]
         exact (entsV_leaf hkey hk1 E11).symm
        have hgd : Good (1 + kd) (es ++ [(ky, vl, 0, unit)]) := good_add hg hks.1 hks.2 (fun _ => ⟨rfl, (by show vl.size ≤ 10; omega)⟩) (fun e => by omega)
        have hlt : (k).toNat - (es ++ [(ky, vl, 0, unit)]).length < (k).toNat - es.length := by simp; omega
        have hle : (((es ++ [(ky, vl, 0, unit)]).length : Nat) : Int) ≤ k := by simp; omega
        (try simp only [jqn] at hj); (try simp only [jqi] at hj)
        have hjn : wrap .i64 (j + 1) = (((es ++ [(ky, vl, 0, unit)]).length : Nat) : Int) := by rw [hj, w64 (by omega)]; simp
        have hroom : es.length + 1 ≤ 2 ^ 36 := by omega
        subst hM
        refine ⟨hroom, _, hlt, _, es ++ [(ky, vl, 0, unit)], b11, p11, st11, hjn, hle, hs11, hent, hgd, rfl, .inr rfl⟩
       ·have hk1 : ¬ 1 + kd = 1 := by
         subst hM
         intro hh
         have e : real.eq (wrap .i64 (1 + kd)) 1 := by
          show wrap .i64 (1 + kd) = 1
          rw [w64 (by omega)]; exact hh
         exact absurd ((show real.dec (real.eq (wrap .i64 (1 + kd)) 1) = true from dec_iff.2 e).symm.trans h7) (by decide)
        clear h7
        refine ⟨fun _ => ⟨_, rfl, hs10⟩, ?_⟩
        rintro ⟨(ch : Int), ⟨⟩⟩ ⟨z11, zz11, ⟨⟩⟩ hpost - -
        obtain ⟨⟨b11, p11, st11, ⟨⟩⟩, hz11, E11, hs11, hr11⟩ := hpost _ rfl
        have hz11 : z11 = some (b11, p11, st11, unit) := hz11
        subst hz11
        clear hpost hz11
        have E11 : nextV (b10, p10, st10, unit) 510 = (ch, (b11, p11, st11, unit)) := E11
        have hr11 : 0 ≤ ch ∧ ch < 510 := hr11 (show (0 : Int) < 510 by decide)
        cbv
        have hcw : wrap .i64 (2 + ch) = 2 + ch := w64 (by omega)
        have hent : entsV ((k).toNat - (es ++ [(ky, (⟨#[]⟩ : ByteArray), 2 + ch, unit)]).length) (1 + kd) (b11, p11, st11, unit) (es ++ [(ky, (⟨#[]⟩ : ByteArray), 2 + ch, unit)]) = entsV (k).toNat (1 + kd) (b2, p2, st2, unit) [] := by
         rw [← ht, show (k).toNat - es.length = ((k).toNat - (es ++ [(ky, (⟨#[]⟩ : ByteArray), 2 + ch, unit)]).length) + 1 by simp; omega]
         exact (entsV_inner hkey hk1 E11).symm
        have hgd : Good (1 + kd) (es ++ [(ky, (⟨#[]⟩ : ByteArray), 2 + ch, unit)]) := good_add hg hks.1 hks.2 (fun e => absurd e hk1) (fun _ => ⟨rfl, (by show 2 ≤ 2 + ch; omega), (by show 2 + ch < 512; omega)⟩)
        have hlt : (k).toNat - (es ++ [(ky, (⟨#[]⟩ : ByteArray), 2 + ch, unit)]).length < (k).toNat - es.length := by simp; omega
        have hle : (((es ++ [(ky, (⟨#[]⟩ : ByteArray), 2 + ch, unit)]).length : Nat) : Int) ≤ k := by simp; omega
        (try simp only [jqn] at hj); (try simp only [jqi] at hj)
        have hjn : wrap .i64 (j + 1) = (((es ++ [(ky, (⟨#[]⟩ : ByteArray), 2 + ch, unit)]).length : Nat) : Int) := by rw [hj, w64 (by omega)]; simp
        have hroom : es.length + 1 ≤ 2 ^ 36 := by omega
        rw [← hcw] at hent hgd hlt hle hjn
        subst hM
        refine ⟨hroom, _, hlt, _, es ++ [(ky, (⟨#[]⟩ : ByteArray), wrap .i64 (2 + ch), unit)], b11, p11, st11, hjn, hle, hs11, hent, hgd, rfl, .inr rfl⟩
     ·have hj0 : ¬ 0 < es.length := by
       intro hh
       (try simp only [jqn] at hj); (try simp only [jqi] at hj)
       have : (0 : Int) < j := by rw [hj]; omega
       subst hM
       exact absurd ((show real.dec (real.lt 0 j) = true from dec_iff.2 this).symm.trans h6) (by decide)
      clear h6
      have hkey : keyV es (textV (b9, p9, st9, unit) 12) = some (ky, (b10, p10, st10, unit)) := (by rw [E10]; exact keyV_first hj0)
      have hks := keyV_some hkey (by rw [E10]; show ky.size ≤ 12; omega)
      refine splM (fun h7 => ?_) (fun h7 => ?_) <;> cbv
      ·have hk1 : 1 + kd = 1 := by
        subst hM
        have e : wrap .i64 (1 + kd) = 1 := dec_iff.1 h7
        rw [w64 (by omega)] at e
        exact e
       clear h7
       refine ⟨fun _ => ⟨⟨_, rfl, hs10⟩, (by show (0 : Int) ≤ 10; omega), (by show (10 : Int) ≤ 20; omega)⟩, ?_⟩
       rintro ⟨(vl : ByteArray), ⟨⟩⟩ ⟨z11, zz11, ⟨⟩⟩ hpost - -
       obtain ⟨⟨b11, p11, st11, ⟨⟩⟩, hz11, E11, hs11, hr11⟩ := hpost _ rfl
       have hz11 : z11 = some (b11, p11, st11, unit) := hz11
       subst hz11
       clear hpost hz11
       have E11 : textV (b10, p10, st10, unit) 10 = (vl, (b11, p11, st11, unit)) := E11
       have hr11 : (vl.size : Int) ≤ 10 := hr11
       have hr11 : vl.size ≤ 10 := by omega
       cbv
       have hent : entsV ((k).toNat - (es ++ [(ky, vl, 0, unit)]).length) (1 + kd) (b11, p11, st11, unit) (es ++ [(ky, vl, 0, unit)]) = entsV (k).toNat (1 + kd) (b2, p2, st2, unit) [] := by
        rw [← ht, show (k).toNat - es.length = ((k).toNat - (es ++ [(ky, vl, 0, unit)]).length) + 1 by simp; omega]
        exact (entsV_leaf hkey hk1 E11).symm
       have hgd : Good (1 + kd) (es ++ [(ky, vl, 0, unit)]) := good_add hg hks.1 hks.2 (fun _ => ⟨rfl, (by show vl.size ≤ 10; omega)⟩) (fun e => by omega)
       have hlt : (k).toNat - (es ++ [(ky, vl, 0, unit)]).length < (k).toNat - es.length := by simp; omega
       have hle : (((es ++ [(ky, vl, 0, unit)]).length : Nat) : Int) ≤ k := by simp; omega
       (try simp only [jqn] at hj); (try simp only [jqi] at hj)
       have hjn : wrap .i64 (j + 1) = (((es ++ [(ky, vl, 0, unit)]).length : Nat) : Int) := by rw [hj, w64 (by omega)]; simp
       have hroom : es.length + 1 ≤ 2 ^ 36 := by omega
       subst hM
       refine ⟨hroom, _, hlt, _, es ++ [(ky, vl, 0, unit)], b11, p11, st11, hjn, hle, hs11, hent, hgd, rfl, .inr rfl⟩
      ·have hk1 : ¬ 1 + kd = 1 := by
        subst hM
        intro hh
        have e : real.eq (wrap .i64 (1 + kd)) 1 := by
         show wrap .i64 (1 + kd) = 1
         rw [w64 (by omega)]; exact hh
        exact absurd ((show real.dec (real.eq (wrap .i64 (1 + kd)) 1) = true from dec_iff.2 e).symm.trans h7) (by decide)
       clear h7
       refine ⟨fun _ => ⟨_, rfl, hs10⟩, ?_⟩
       rintro ⟨(ch : Int), ⟨⟩⟩ ⟨z11, zz11, ⟨⟩⟩ hpost - -
       obtain ⟨⟨b11, p11, st11, ⟨⟩⟩, hz11, E11, hs11, hr11⟩ := hpost _ rfl
       have hz11 : z11 = some (b11, p11, st11, unit) := hz11
       subst hz11
       clear hpost hz11
       have E11 : nextV (b10, p10, st10, unit) 510 = (ch, (b11, p11, st11, unit)) := E11
       have hr11 : 0 ≤ ch ∧ ch < 510 := hr11 (show (0 : Int) < 510 by decide)
       cbv
       have hcw : wrap .i64 (2 + ch) = 2 + ch := w64 (by omega)
       have hent : entsV ((k).toNat - (es ++ [(ky, (⟨#[]⟩ : ByteArray), 2 + ch, unit)]).length) (1 + kd) (b11, p11, st11, unit) (es ++ [(ky, (⟨#[]⟩ : ByteArray), 2 + ch, unit)]) = entsV (k).toNat (1 + kd) (b2, p2, st2, unit) [] := by
        rw [← ht, show (k).toNat - es.length = ((k).toNat - (es ++ [(ky, (⟨#[]⟩ : ByteArray), 2 + ch, unit)]).length) + 1 by simp; omega]
        exact (entsV_inner hkey hk1 E11).symm
       have hgd : Good (1 + kd) (es ++ [(ky, (⟨#[]⟩ : ByteArray), 2 + ch, unit)]) := good_add hg hks.1 hks.2 (fun e => absurd e hk1) (fun _ => ⟨rfl, (by show 2 ≤ 2 + ch; omega), (by show 2 + ch < 512; omega)⟩)
       have hlt : (k).toNat - (es ++ [(ky, (⟨#[]⟩ : ByteArray), 2 + ch, unit)]).length < (k).toNat - es.length := by simp; omega
       have hle : (((es ++ [(ky, (⟨#[]⟩ : ByteArray), 2 + ch, unit)]).length : Nat) : Int) ≤ k := by simp; omega
       (try simp only [jqn] at hj); (try simp only [jqi] at hj)
       have hjn : wrap .i64 (j + 1) = (((es ++ [(ky, (⟨#[]⟩ : ByteArray), 2 + ch, unit)]).length : Nat) : Int) := by rw [hj, w64 (by omega)]; simp
       have hroom : es.length + 1 ≤ 2 ^ 36 := by omega
       rw [← hcw] at hent hgd hlt hle hjn
       subst hM
       refine ⟨hroom, _, hlt, _, es ++ [(ky, (⟨#[]⟩ : ByteArray), wrap .i64 (2 + ch), unit)], b11, p11, st11, hjn, hle, hs11, hent, hgd, rfl, .inr rfl⟩
    ·have hin : (es.length : Int) = k := by
      have : ¬ j < k := by
       subst hM
       intro hh
       exact absurd ((show real.dec (real.lt j _) = true from dec_iff.2 hh).symm.trans h9) (by decide)
      (try simp only [jqn] at hj hi); (try simp only [jqi] at hj hi)
      omega
     clear h9
     have hent := ht.symm.trans (congrArg (fun z => entsV z (1 + kd) (b9, p9, st9, unit) es) (show (k).toNat - es.length = 0 by omega))
     refine splM (fun h7 => ?_) (fun h7 => ?_) <;> cbv
     ·have hk2 : 1 + kd = 2 := by
       subst hM
       have e : wrap .i64 (1 + kd) = 2 := dec_iff.1 h7
       rw [w64 (by omega)] at e
       exact e
      clear h7
      refine splM (fun h7 => ?_) (fun h7 => ?_) <;> cbv
      ·have hl2 : (es).length < 2 := by
        subst hM
        have e : (((es).length : Nat) : Int) < 2 := dec_iff.1 h7
        omega
       rintro - s hs
       cases hs
       have hend : endV (1 + kd) (es, (b9, p9, st9, unit)) = ((1, [], unit), (b9, p9, st9, unit)) := by
        unfold endV
        rw [if_pos ⟨hk2, hl2⟩]
       have hok := good_ok (s := (b9, p9, st9, unit)) hk12 hg h5
       rw [hend] at hok
       have hnd := (hnode _ hent).trans hend
       exact ⟨(b9, p9, st9, unit), rfl, hnd, hs9, hok⟩
      ·have hl2 : ¬ (es).length < 2 := by
        subst hM
        intro hh
        exact absurd ((show real.dec (real.lt (((es).length : Nat) : Int) 2) = true from dec_iff.2 (show (((es).length : Nat) : Int) < 2 by omega)).symm.trans h7) (by decide)
       rintro - s hs
       cases hs
       have hend : endV (1 + kd) (es, (b9, p9, st9, unit)) = ((1 + kd, es, unit), (b9, p9, st9, unit)) := by
        unfold endV
        rw [if_neg (fun h => hl2 h.2)]
       have hok := good_ok (s := (b9, p9, st9, unit)) hk12 hg h5
       rw [hend] at hok
       have hnd := (hnode _ hent).trans hend
       rw [← hkv] at hnd hok
       exact ⟨(b9, p9, st9, unit), rfl, hnd, hs9, hok⟩
     ·have hk2 : ¬ 1 + kd = 2 := by
       subst hM
       intro hh
       have e : real.eq (wrap .i64 (1 + kd)) 2 := by
        show wrap .i64 (1 + kd) = 2
        rw [w64 (by omega)]; exact hh
       exact absurd ((show real.dec (real.eq (wrap .i64 (1 + kd)) 2) = true from dec_iff.2 e).symm.trans h7) (by decide)
      rintro - s hs
      cases hs
      have hend : endV (1 + kd) (es, (b9, p9, st9, unit)) = ((1 + kd, es, unit), (b9, p9, st9, unit)) := by
       unfold endV
       rw [if_neg (fun h => hk2 h.1)]
      have hok := good_ok (s := (b9, p9, st9, unit)) hk12 hg h5
      rw [hend] at hok
      have hnd := (hnode _ hent).trans hend
      rw [← hkv] at hnd hok
      exact ⟨(b9, p9, st9, unit), rfl, hnd, hs9, hok⟩
 ·have hk2 : ¬ 1 + kd = 2 := by
   subst hM
   intro hh
   have e : real.eq (wrap .i64 (1 + kd)) 2 := by
    show wrap .i64 (1 + kd) = 2
    rw [w64 (by omega)]; exact hh
   exact absurd ((show real.dec (real.eq (wrap .i64 (1 + kd)) 2) = true from dec_iff.2 e).symm.trans h) (by decide)
  clear h
  have hnode : ∀ r, entsV (k).toNat (1 + kd) (b2, p2, st2, unit) [] = r → nodeV (b0, p0, st0, unit) = endV (1 + kd) r := fun r hr => by
   unfold nodeV
   rw [E1]
   show endV (1 + kd) (entsV (cntV kd (nextV (b1, p1, st1, unit) 6)).1.toNat (1 + kd) (cntV kd (nextV (b1, p1, st1, unit) 6)).2 []) = _
   rw [E2]
   unfold cntV
   rw [if_neg (fun h => hk2 h.1)]
   skip
   rw [← hr]
  have hkk : k = k := rfl
  have h05 : 0 ≤ k ∧ k ≤ 5 := by omega
  refine ⟨fun m Γ => ∃ (j : Int) (es : List EntD) (b9 : List Int) (p9 st9 : Int), j = es.length ∧ (es.length : Int) ≤ k ∧ SrcOK (b9, p9, st9, unit) ∧ entsV ((k).toNat - es.length) (1 + kd) (b9, p9, st9, unit) es = entsV (k).toNat (1 + kd) (b2, p2, st2, unit) [] ∧ Good (1 + kd) es ∧ m = (k).toNat - es.length ∧ ((es = [] ∧ Γ = ⟨91, [(0, .ad 0 tySrc 0 []), (2, .ad 1 tyNode 0 []), (3, .ad 2 tyNode 0 []), (4, .pv [] (.int .i64) (k)), (5, .pv [] (.int .i64) j)], [(0, .box (.consA (.pv [] tyB b9) (.consA (.pv [] (.int .i64) p9) (.consA (.pv [] (.int .u64) st9) .nilA)))), (1, .box (.consA (.pv [] (.int .i64) 0) (.consA .nils .nilA))), (2, .box (.consA (.pv [] (.int .i64) (M.wrap .i64 (M.add 1 kd))) (.consA .nils .nilA)))], [.ad 0 tySrc 0 []]⟩) ∨ Γ = ⟨91, [(0, .ad 0 tySrc 0 []), (2, .ad 1 tyNode 0 []), (3, .ad 2 tyNode 0 []), (4, .pv [] (.int .i64) (k)), (5, .pv [] (.int .i64) j)], [(0, .box (.consA (.pv [] tyB b9) (.consA (.pv [] (.int .i64) p9) (.consA (.pv [] (.int .u64) st9) .nilA)))), (1, .box (.consA (.pv [] (.int .i64) 0) (.consA .nils .nilA))), (2, .box (.consA (.pv [] (.int .i64) (M.wrap .i64 (M.add 1 kd))) (.consA (.ref 5) .nilA))), (5, .row 0 tyEnt es)], [.ad 0 tySrc 0 []]⟩), ⟨_, 0, [], b2, p2, st2, rfl, h05.1, hs2, rfl, (fun i hi => absurd hi (Nat.not_lt_zero i)), rfl, .inl ⟨rfl, rfl⟩⟩, ?_⟩
  rintro m _ ⟨j, es, b9, p9, st9, hj, hi, hs9, ht, hg, rfl, (⟨he0, rfl⟩ | rfl)⟩ -
  ·subst he0
   have h5 : ([] : List EntD).length ≤ 5 := by (try simp only [jqn] at hi); (try simp only [jqi] at hi); omega
   cbv
   skip
   refine splM (fun h9 => ?_) (fun h9 => ?_) <;> cbv
   ·have hin : ([] : List EntD).length < (k).toNat := by
     have : j < k := by subst hM; exact dec_iff.1 h9
     (try simp only [jqn] at hj); (try simp only [jqi] at hj)
     omega
    clear h9
    refine ⟨fun _ => ⟨⟨_, rfl, hs9⟩, (by show (0 : Int) ≤ 12; omega), (by show (12 : Int) ≤ 20; omega)⟩, ?_⟩
    rintro ⟨(ky : ByteArray), ⟨⟩⟩ ⟨z10, zz10, ⟨⟩⟩ hpost - -
    obtain ⟨⟨b10, p10, st10, ⟨⟩⟩, hz10, E10, hs10, hr10⟩ := hpost _ rfl
    have hz10 : z10 = some (b10, p10, st10, unit) := hz10
    subst hz10
    clear hpost hz10
    have E10 : textV (b9, p9, st9, unit) 12 = (ky, (b10, p10, st10, unit)) := E10
    have hr10 : (ky.size : Int) ≤ 12 := hr10
    have hr10 : ky.size ≤ 12 := by omega
    cbv
    refine ⟨(fun _ => by first | exact drawRd rfl (by decide +kernel) | exact drawTail (by decide +kernel)), ?_⟩
    refine splM (fun h6 => ?_) (fun h6 => ?_) <;> cbv
    ·skip
     exfalso
     have : (0 : Int) < j := by subst hM; exact dec_iff.1 h6
     (try simp only [jqn] at hj); (try simp only [jqi] at hj)
     simp at hj
     omega
    ·have hj0 : ¬ 0 < ([] : List EntD).length := by
      intro hh
      (try simp only [jqn] at hj); (try simp only [jqi] at hj)
      have : (0 : Int) < j := by rw [hj]; omega
      subst hM
      exact absurd ((show real.dec (real.lt 0 j) = true from dec_iff.2 this).symm.trans h6) (by decide)
     clear h6
     have hkey : keyV ([] : List EntD) (textV (b9, p9, st9, unit) 12) = some (ky, (b10, p10, st10, unit)) := (by rw [E10]; exact keyV_first hj0)
     have hks := keyV_some hkey (by rw [E10]; show ky.size ≤ 12; omega)
     refine splM (fun h7 => ?_) (fun h7 => ?_) <;> cbv
     ·have hk1 : 1 + kd = 1 := by
       subst hM
       have e : wrap .i64 (1 + kd) = 1 := dec_iff.1 h7
       rw [w64 (by omega)] at e
       exact e
      clear h7
      refine ⟨fun _ => ⟨⟨_, rfl, hs10⟩, (by show (0 : Int) ≤ 10; omega), (by show (10 : Int) ≤ 20; omega)⟩, ?_⟩
      rintro ⟨(vl : ByteArray), ⟨⟩⟩ ⟨z11, zz11, ⟨⟩⟩ hpost - -
      obtain ⟨⟨b11, p11, st11, ⟨⟩⟩, hz11, E11, hs11, hr11⟩ := hpost _ rfl
      have hz11 : z11 = some (b11, p11, st11, unit) := hz11
      subst hz11
      clear hpost hz11
      have E11 : textV (b10, p10, st10, unit) 10 = (vl, (b11, p11, st11, unit)) := E11
      have hr11 : (vl.size : Int) ≤ 10 := hr11
      have hr11 : vl.size ≤ 10 := by omega
      cbv
      have hent : entsV ((k).toNat - (([] : List EntD) ++ [(ky, vl, 0, unit)]).length) (1 + kd) (b11, p11, st11, unit) (([] : List EntD) ++ [(ky, vl, 0, unit)]) = entsV (k).toNat (1 + kd) (b2, p2, st2, unit) [] := by
       rw [← ht, show (k).toNat - ([] : List EntD).length = ((k).toNat - (([] : List EntD) ++ [(ky, vl, 0, unit)]).length) + 1 by simp; omega]
       exact (entsV_leaf hkey hk1 E11).symm
      have hgd : Good (1 + kd) (([] : List EntD) ++ [(ky, vl, 0, unit)]) := good_add hg hks.1 hks.2 (fun _ => ⟨rfl, (by show vl.size ≤ 10; omega)⟩) (fun e => by omega)
      have hlt : (k).toNat - (([] : List EntD) ++ [(ky, vl, 0, unit)]).length < (k).toNat - ([] : List EntD).length := by simp; omega
      have hle : (((([] : List EntD) ++ [(ky, vl, 0, unit)]).length : Nat) : Int) ≤ k := by simp; omega
      (try simp only [jqn] at hj); (try simp only [jqi] at hj)
      have hjn : wrap .i64 (j + 1) = (((([] : List EntD) ++ [(ky, vl, 0, unit)]).length : Nat) : Int) := by rw [hj, w64 (by omega)]; simp
      have hroom : ([] : List EntD).length + 1 ≤ 2 ^ 36 := by omega
      subst hM
      refine ⟨hroom, _, hlt, _, ([] : List EntD) ++ [(ky, vl, 0, unit)], b11, p11, st11, hjn, hle, hs11, hent, hgd, rfl, .inr rfl⟩
     ·have hk1 : ¬ 1 + kd = 1 := by
       subst hM
       intro hh
       have e : real.eq (wrap .i64 (1 + kd)) 1 := by
        show wrap .i64 (1 + kd) = 1
        rw [w64 (by omega)]; exact hh
       exact absurd ((show real.dec (real.eq (wrap .i64 (1 + kd)) 1) = true from dec_iff.2 e).symm.trans h7) (by decide)
      clear h7
      refine ⟨fun _ => ⟨_, rfl, hs10⟩, ?_⟩
      rintro ⟨(ch : Int), ⟨⟩⟩ ⟨z11, zz11, ⟨⟩⟩ hpost - -
      obtain ⟨⟨b11, p11, st11, ⟨⟩⟩, hz11, E11, hs11, hr11⟩ := hpost _ rfl
      have hz11 : z11 = some (b11, p11, st11, unit) := hz11
      subst hz11
      clear hpost hz11
      have E11 : nextV (b10, p10, st10, unit) 510 = (ch, (b11, p11, st11, unit)) := E11
      have hr11 : 0 ≤ ch ∧ ch < 510 := hr11 (show (0 : Int) < 510 by decide)
      cbv
      have hcw : wrap .i64 (2 + ch) = 2 + ch := w64 (by omega)
      have hent : entsV ((k).toNat - (([] : List EntD) ++ [(ky, (⟨#[]⟩ : ByteArray), 2 + ch, unit)]).length) (1 + kd) (b11, p11, st11, unit) (([] : List EntD) ++ [(ky, (⟨#[]⟩ : ByteArray), 2 + ch, unit)]) = entsV (k).toNat (1 + kd) (b2, p2, st2, unit) [] := by
       rw [← ht, show (k).toNat - ([] : List EntD).length = ((k).toNat - (([] : List EntD) ++ [(ky, (⟨#[]⟩ : ByteArray), 2 + ch, unit)]).length) + 1 by simp; omega]
       exact (entsV_inner hkey hk1 E11).symm
      have hgd : Good (1 + kd) (([] : List EntD) ++ [(ky, (⟨#[]⟩ : ByteArray), 2 + ch, unit)]) := good_add hg hks.1 hks.2 (fun e => absurd e hk1) (fun _ => ⟨rfl, (by show 2 ≤ 2 + ch; omega), (by show 2 + ch < 512; omega)⟩)
      have hlt : (k).toNat - (([] : List EntD) ++ [(ky, (⟨#[]⟩ : ByteArray), 2 + ch, unit)]).length < (k).toNat - ([] : List EntD).length := by simp; omega
      have hle : (((([] : List EntD) ++ [(ky, (⟨#[]⟩ : ByteArray), 2 + ch, unit)]).length : Nat) : Int) ≤ k := by simp; omega
      (try simp only [jqn] at hj); (try simp only [jqi] at hj)
      have hjn : wrap .i64 (j + 1) = (((([] : List EntD) ++ [(ky, (⟨#[]⟩ : ByteArray), 2 + ch, unit)]).length : Nat) : Int) := by rw [hj, w64 (by omega)]; simp
      have hroom : ([] : List EntD).length + 1 ≤ 2 ^ 36 := by omega
      rw [← hcw] at hent hgd hlt hle hjn
      subst hM
      refine ⟨hroom, _, hlt, _, ([] : List EntD) ++ [(ky, (⟨#[]⟩ : ByteArray), wrap .i64 (2 + ch), unit)], b11, p11, st11, hjn, hle, hs11, hent, hgd, rfl, .inr rfl⟩
   ·have hin : (([] : List EntD).length : Int) = k := by
     have : ¬ j < k := by
      subst hM
      intro hh
      exact absurd ((show real.dec (real.lt j _) = true from dec_iff.2 hh).symm.trans h9) (by decide)
     (try simp only [jqn] at hj hi); (try simp only [jqi] at hj hi)
     omega
    clear h9
    have hent := ht.symm.trans (congrArg (fun z => entsV z (1 + kd) (b9, p9, st9, unit) ([] : List EntD)) (show (k).toNat - ([] : List EntD).length = 0 by omega))
    refine splM (fun h7 => ?_) (fun h7 => ?_) <;> cbv
    ·have hk2 : 1 + kd = 2 := by
      subst hM
      have e : wrap .i64 (1 + kd) = 2 := dec_iff.1 h7
      rw [w64 (by omega)] at e
      exact e
     clear h7
     refine splM (fun h7 => ?_) (fun h7 => ?_) <;> cbv
     ·have hl2 : (([] : List EntD)).length < 2 := by
       subst hM
       have e : (((([] : List EntD)).length : Nat) : Int) < 2 := dec_iff.1 h7
       omega
      rintro - s hs
      cases hs
      have hend : endV (1 + kd) (([] : List EntD), (b9, p9, st9, unit)) = ((1, [], unit), (b9, p9, st9, unit)) := by
       unfold endV
       rw [if_pos ⟨hk2, hl2⟩]
      have hok := good_ok (s := (b9, p9, st9, unit)) hk12 hg h5
      rw [hend] at hok
      have hnd := (hnode _ hent).trans hend
      exact ⟨(b9, p9, st9, unit), rfl, hnd, hs9, hok⟩
     ·have hl2 : ¬ (([] : List EntD)).length < 2 := by
       subst hM
       intro hh
       exact absurd ((show real.dec (real.lt (((([] : List EntD)).length : Nat) : Int) 2) = true from dec_iff.2 (show (((([] : List EntD)).length : Nat) : Int) < 2 by omega)).symm.trans h7) (by decide)
      rintro - s hs
      cases hs
      have hend : endV (1 + kd) (([] : List EntD), (b9, p9, st9, unit)) = ((1 + kd, ([] : List EntD), unit), (b9, p9, st9, unit)) := by
       unfold endV
       rw [if_neg (fun h => hl2 h.2)]
      have hok := good_ok (s := (b9, p9, st9, unit)) hk12 hg h5
      rw [hend] at hok
      have hnd := (hnode _ hent).trans hend
      rw [← hkv] at hnd hok
      exact ⟨(b9, p9, st9, unit), rfl, hnd, hs9, hok⟩
    ·have hk2 : ¬ 1 + kd = 2 := by
      subst hM
      intro hh
      have e : real.eq (wrap .i64 (1 + kd)) 2 := by
       show wrap .i64 (1 + kd) = 2
       rw [w64 (by omega)]; exact hh
      exact absurd ((show real.dec (real.eq (wrap .i64 (1 + kd)) 2) = true from dec_iff.2 e).symm.trans h7) (by decide)
     rintro - s hs
     cases hs
     have hend : endV (1 + kd) (([] : List EntD), (b9, p9, st9, unit)) = ((1 + kd, ([] : List EntD), unit), (b9, p9, st9, unit)) := by
      unfold endV
      rw [if_neg (fun h => hk2 h.1)]
     have hok := good_ok (s := (b9, p9, st9, unit)) hk12 hg h5
     rw [hend] at hok
     have hnd := (hnode _ hent).trans hend
     rw [← hkv] at hnd hok
     exact ⟨(b9, p9, st9, unit), rfl, hnd, hs9, hok⟩
  ·skip
   have h5 : es.length ≤ 5 := by (try simp only [jqn] at hi); (try simp only [jqi] at hi); omega
   cbv
   skip
   refine splM (fun h9 => ?_) (fun h9 => ?_) <;> cbv
   ·have hin : es.length < (k).toNat := by
     have : j < k := by subst hM; exact dec_iff.1 h9
     (try simp only [jqn] at hj); (try simp only [jqi] at hj)
     omega
    clear h9
    refine ⟨fun _ => ⟨⟨_, rfl, hs9⟩, (by show (0 : Int) ≤ 12; omega), (by show (12 : Int) ≤ 20; omega)⟩, ?_⟩
    rintro ⟨(ky : ByteArray), ⟨⟩⟩ ⟨z10, zz10, ⟨⟩⟩ hpost - -
    obtain ⟨⟨b10, p10, st10, ⟨⟩⟩, hz10, E10, hs10, hr10⟩ := hpost _ rfl
    have hz10 : z10 = some (b10, p10, st10, unit) := hz10
    subst hz10
    clear hpost hz10
    have E10 : textV (b9, p9, st9, unit) 12 = (ky, (b10, p10, st10, unit)) := E10
    have hr10 : (ky.size : Int) ≤ 12 := hr10
    have hr10 : ky.size ≤ 12 := by omega
    cbv
    refine ⟨(fun _ => by first | exact drawRd rfl (by decide +kernel) | exact drawTail (by decide +kernel)), ?_⟩
    refine splM (fun h6 => ?_) (fun h6 => ?_) <;> cbv
    ·skip
     have hj0 : 0 < es.length := by
      have : (0 : Int) < j := by subst hM; exact dec_iff.1 h6
      (try simp only [jqn] at hj); (try simp only [jqi] at hj)
      omega
     have hjm : wrap .i64 (j - 1) = ((es.length - 1 : Nat) : Int) := by
      (try simp only [jqn] at hj); (try simp only [jqi] at hj)
      rw [hj, w64 (by omega)]; omega
     have hb0 : 0 ≤ wrap .i64 (j - 1) := by rw [hjm]; omega
     have hb1 : wrap .i64 (j - 1) < (es.length : Int) := by rw [hjm]; omega
     have hla : (es.getD (wrap .i64 (j - 1)).toNat (ByteArray.empty, ByteArray.empty, 0, ())).1 = lastK es := by
      rw [hjm]; rfl
     clear h6
     repeat (first | (refine And.intro (by subst hM; exact hb0) ?_) | (refine And.intro (by subst hM; exact hb1) ?_))
     refine splM (fun h6 => ?_) (fun h6 => ?_) <;> cbv
     ·have hle : leS ky (lastK es) = true := by
       subst hM
       rw [← hla]
       exact h6
      clear h6
      repeat (first | (refine And.intro (by subst hM; exact hb0) ?_) | (refine And.intro (by subst hM; exact hb1) ?_))
      refine splM (fun h6 => ?_) (fun h6 => ?_) <;> cbv
      ·have hl12 : (lastK es).size < 12 := by
        rw [← hla]
        subst hM
        have : ((es.getD (wrap .i64 (j - 1)).toNat (ByteArray.empty, ByteArray.empty, 0, ())).1.size : Int) < ((12 : Nat) : Int) := dec_iff.1 h6
        exact Int.ofNat_lt.1 this
       clear h6
       refine ⟨fun _ => ⟨_, rfl, hs10⟩, ?_⟩
       rintro ⟨(c : Int), ⟨⟩⟩ ⟨z11, zz11, ⟨⟩⟩ hpost - -
       obtain ⟨⟨b11, p11, st11, ⟨⟩⟩, hz11, E11, hs11, hr11⟩ := hpost _ rfl
       have hz11 : z11 = some (b11, p11, st11, unit) := hz11
       subst hz11
       clear hpost hz11
       have E11 : nextV (b10, p10, st10, unit) 256 = (c, (b11, p11, st11, unit)) := E11
       have hr11 : 0 ≤ c ∧ c < 256 := hr11 (show (0 : Int) < 256 by decide)
       cbv
       have hc8 : wrap .u8 c = c := w8 (by omega)
       have hroom1 : real.sRoom (es.getD (wrap .i64 (j - 1)).toNat (ByteArray.empty, ByteArray.empty, 0, ())).1 (real.ofB [wrap .u8 c]) := by
        rw [hla]
        show (lastK es).size + 1 ≤ maxL
        rw [maxL_eq]; omega
       have hkx : M.sApp (M.get es (M.wrap .i64 (M.sub j 1)) (ByteArray.empty, ByteArray.empty, 0, ())).1 (M.ofB [M.wrap .u8 c]) = real.sApp (lastK es) (real.ofB [c]) := by
        subst hM
        show real.sApp (es.getD (wrap .i64 (j - 1)).toNat (ByteArray.empty, ByteArray.empty, 0, ())).1 (real.ofB [wrap .u8 c]) = _
        rw [hla, hc8]
       refine ⟨by subst hM; exact hroom1, ?_⟩
       have hkey : keyV es (textV (b9, p9, st9, unit) 12) = some (M.sApp (M.get es (M.wrap .i64 (M.sub j 1)) (ByteArray.empty, ByteArray.empty, 0, ())).1 (M.ofB [M.wrap .u8 c]), (b11, p11, st11, unit)) := (by rw [hkx, E10]; exact keyV_app hj0 hle hl12 E11)
       have hks := keyV_some hkey (by rw [E10]; show ky.size ≤ 12; omega)
       refine splM (fun h7 => ?_) (fun h7 => ?_) <;> cbv
       ·have hk1 : 1 + kd = 1 := by
         subst hM
         have e : wrap .i64 (1 + kd) = 1 := dec_iff.1 h7
         rw [w64 (by omega)] at e
         exact e
        clear h7
        refine ⟨fun _ => ⟨⟨_, rfl, hs11⟩, (by show (0 : Int) ≤ 10; omega), (by show (10 : Int) ≤ 20; omega)⟩, ?_⟩
        rintro ⟨(vl : ByteArray), ⟨⟩⟩ ⟨z12, zz12, ⟨⟩⟩ hpost - -
        obtain ⟨⟨b12, p12, st12, ⟨⟩⟩, hz12, E12, hs12, hr12⟩ := hpost _ rfl
        have hz12 : z12 = some (b12, p12, st12, unit) := hz12
        subst hz12
        clear hpost hz12
        have E12 : textV (b11, p11, st11, unit) 10 = (vl, (b12, p12, st12, unit)) := E12
        have hr12 : (vl.size : Int) ≤ 10 := hr12
        have hr12 : vl.size ≤ 10 := by omega
        cbv
        have hent : entsV ((k).toNat - (es ++ [(M.sApp (M.get es (M.wrap .i64 (M.sub j 1)) (ByteArray.empty, ByteArray.empty, 0, ())).1 (M.ofB [M.wrap .u8 c]), vl, 0, unit)]).length) (1 + kd) (b12, p12, st12, unit) (es ++ [(M.sApp (M.get es (M.wrap .i64 (M.sub j 1)) (ByteArray.empty, ByteArray.empty, 0, ())).1 (M.ofB [M.wrap .u8 c]), vl, 0, unit)]) = entsV (k).toNat (1 + kd) (b2, p2, st2, unit) [] := by
         rw [← ht, show (k).toNat - es.length = ((k).toNat - (es ++ [(M.sApp (M.get es (M.wrap .i64 (M.sub j 1)) (ByteArray.empty, ByteArray.empty, 0, ())).1 (M.ofB [M.wrap .u8 c]), vl, 0, unit)]).length) + 1 by simp; omega]
         exact (entsV_leaf hkey hk1 E12).symm
        have hgd : Good (1 + kd) (es ++ [(M.sApp (M.get es (M.wrap .i64 (M.sub j 1)) (ByteArray.empty, ByteArray.empty, 0, ())).1 (M.ofB [M.wrap .u8 c]), vl, 0, unit)]) := good_add hg hks.1 hks.2 (fun _ => ⟨rfl, (by show vl.size ≤ 10; omega)⟩) (fun e => by omega)
        have hlt : (k).toNat - (es ++ [(M.sApp (M.get es (M.wrap .i64 (M.sub j 1)) (ByteArray.empty, ByteArray.empty, 0, ())).1 (M.ofB [M.wrap .u8 c]), vl, 0, unit)]).length < (k).toNat - es.length := by simp; omega
        have hle : (((es ++ [(M.sApp (M.get es (M.wrap .i64 (M.sub j 1)) (ByteArray.empty, ByteArray.empty, 0, ())).1 (M.ofB [M.wrap .u8 c]), vl, 0, unit)]).length : Nat) : Int) ≤ k := by simp; omega
        (try simp only [jqn] at hj); (try simp only [jqi] at hj)
        have hjn : wrap .i64 (j + 1) = (((es ++ [(M.sApp (M.get es (M.wrap .i64 (M.sub j 1)) (ByteArray.empty, ByteArray.empty, 0, ())).1 (M.ofB [M.wrap .u8 c]), vl, 0, unit)]).length : Nat) : Int) := by rw [hj, w64 (by omega)]; simp
        have hroom : es.length + 1 ≤ 2 ^ 36 := by omega
        subst hM
        refine ⟨hroom, _, hlt, _, es ++ [(real.sApp (real.get es (real.wrap .i64 (real.sub j 1)) (ByteArray.empty, ByteArray.empty, 0, ())).1 (real.ofB [real.wrap .u8 c]), vl, 0, unit)], b12, p12, st12, hjn, hle, hs12, hent, hgd, rfl, .inr rfl⟩
       ·have hk1 : ¬ 1 + kd = 1 := by
         subst hM
         intro hh
         have e : real.eq (wrap .i64 (1 + kd)) 1 := by
          show wrap .i64 (1 + kd) = 1
          rw [w64 (by omega)]; exact hh
         exact absurd ((show real.dec (real.eq (wrap .i64 (1 + kd)) 1) = true from dec_iff.2 e).symm.trans h7) (by decide)
        clear h7
        refine ⟨fun _ => ⟨_, rfl, hs11⟩, ?_⟩
        rintro ⟨(ch : Int), ⟨⟩⟩ ⟨z12, zz12, ⟨⟩⟩ hpost - -
        obtain ⟨⟨b12, p12, st12, ⟨⟩⟩, hz12, E12, hs12, hr12⟩ := hpost _ rfl
        have hz12 : z12 = some (b12, p12, st12, unit) := hz12
        subst hz12
        clear hpost hz12
        have E12 : nextV (b11, p11, st11, unit) 510 = (ch, (b12, p12, st12, unit)) := E12
        have hr12 : 0 ≤ ch ∧ ch < 510 := hr12 (show (0 : Int) < 510 by decide)
        cbv
        have hcw : wrap .i64 (2 + ch) = 2 + ch := w64 (by omega)
        have hent : entsV ((k).toNat - (es ++ [(M.sApp (M.get es (M.wrap .i64 (M.sub j 1)) (ByteArray.empty, ByteArray.empty, 0, ())).1 (M.ofB [M.wrap .u8 c]), (⟨#[]⟩ : ByteArray), 2 + ch, unit)]).length) (1 + kd) (b12, p12, st12, unit) (es ++ [(M.sApp (M.get es (M.wrap .i64 (M.sub j 1)) (ByteArray.empty, ByteArray.empty, 0, ())).1 (M.ofB [M.wrap .u8 c]), (⟨#[]⟩ : ByteArray), 2 + ch, unit)]) = entsV (k).toNat (1 + kd) (b2, p2, st2, unit) [] := by
         rw [← ht, show (k).toNat - es.length = ((k).toNat - (es ++ [(M.sApp (M.get es (M.wrap .i64 (M.sub j 1)) (ByteArray.empty, ByteArray.empty, 0, ())).1 (M.ofB [M.wrap .u8 c]), (⟨#[]⟩ : ByteArray), 2 + ch, unit)]).length) + 1 by simp; omega]
         exact (entsV_inner hkey hk1 E12).symm
        have hgd : Good (1 + kd) (es ++ [(M.sApp (M.get es (M.wrap .i64 (M.sub j 1)) (ByteArray.empty, ByteArray.empty, 0, ())).1 (M.ofB [M.wrap .u8 c]), (⟨#[]⟩ : ByteArray), 2 + ch, unit)]) := good_add hg hks.1 hks.2 (fun e => absurd e hk1) (fun _ => ⟨rfl, (by show 2 ≤ 2 + ch; omega), (by show 2 + ch < 512; omega)⟩)
        have hlt : (k).toNat - (es ++ [(M.sApp (M.get es (M.wrap .i64 (M.sub j 1)) (ByteArray.empty, ByteArray.empty, 0, ())).1 (M.ofB [M.wrap .u8 c]), (⟨#[]⟩ : ByteArray), 2 + ch, unit)]).length < (k).toNat - es.length := by simp; omega
        have hle : (((es ++ [(M.sApp (M.get es (M.wrap .i64 (M.sub j 1)) (ByteArray.empty, ByteArray.empty, 0, ())).1 (M.ofB [M.wrap .u8 c]), (⟨#[]⟩ : ByteArray), 2 + ch, unit)]).length : Nat) : Int) ≤ k := by simp; omega
        (try simp only [jqn] at hj); (try simp only [jqi] at hj)
        have hjn : wrap .i64 (j + 1) = (((es ++ [(M.sApp (M.get es (M.wrap .i64 (M.sub j 1)) (ByteArray.empty, ByteArray.empty, 0, ())).1 (M.ofB [M.wrap .u8 c]), (⟨#[]⟩ : ByteArray), 2 + ch, unit)]).length : Nat) : Int) := by rw [hj, w64 (by omega)]; simp
        have hroom : es.length + 1 ≤ 2 ^ 36 := by omega
        rw [← hcw] at hent hgd hlt hle hjn
        subst hM
        refine ⟨hroom, _, hlt, _, es ++ [(real.sApp (real.get es (real.wrap .i64 (real.sub j 1)) (ByteArray.empty, ByteArray.empty, 0, ())).1 (real.ofB [real.wrap .u8 c]), (⟨#[]⟩ : ByteArray), wrap .i64 (2 + ch), unit)], b12, p12, st12, hjn, hle, hs12, hent, hgd, rfl, .inr rfl⟩
      ·have hl12 : ¬ (lastK es).size < 12 := by
        rw [← hla]
        subst hM
        intro hh
        exact absurd ((show real.dec (real.lt (((es.getD (wrap .i64 (j - 1)).toNat (ByteArray.empty, ByteArray.empty, 0, ())).1.size : Nat) : Int) 12) = true from dec_iff.2 (show (((es.getD (wrap .i64 (j - 1)).toNat (ByteArray.empty, ByteArray.empty, 0, ())).1.size : Nat) : Int) < ((12 : Nat) : Int) from Int.ofNat_lt.2 hh)).symm.trans h6) (by decide)
       clear h6
       have hent := ht.symm.trans ((congrArg (fun z => entsV z (1 + kd) (b9, p9, st9, unit) es) (show (k).toNat - es.length = ((k).toNat - es.length - 1) + 1 by omega)).trans (entsV_stop (by rw [E10]; exact keyV_stop hj0 hle hl12) E10))
       refine splM (fun h7 => ?_) (fun h7 => ?_) <;> cbv
       ·have hk2 : 1 + kd = 2 := by
         subst hM
         have e : wrap .i64 (1 + kd) = 2 := dec_iff.1 h7
         rw [w64 (by omega)] at e
         exact e
        clear h7
        refine splM (fun h7 => ?_) (fun h7 => ?_) <;> cbv
        ·have hl2 : (es).length < 2 := by
          subst hM
          have e : (((es).length : Nat) : Int) < 2 := dec_iff.1 h7
          omega
         rintro - s hs
         cases hs
         have hend : endV (1 + kd) (es, (b10, p10, st10, unit)) = ((1, [], unit), (b10, p10, st10, unit)) := by
          unfold endV
          rw [if_pos ⟨hk2, hl2⟩]
         have hok := good_ok (s := (b10, p10, st10, unit)) hk12 hg h5
         rw [hend] at hok
         have hnd := (hnode _ hent).trans hend
         exact ⟨(b10, p10, st10, unit), rfl, hnd, hs10, hok⟩
        ·have hl2 : ¬ (es).length < 2 := by
          subst hM
          intro hh
          exact absurd ((show real.dec (real.lt (((es).length : Nat) : Int) 2) = true from dec_iff.2 (show (((es).length : Nat) : Int) < 2 by omega)).symm.trans h7) (by decide)
         rintro - s hs
         cases hs
         have hend : endV (1 + kd) (es, (b10, p10, st10, unit)) = ((1 + kd, es, unit), (b10, p10, st10, unit)) := by
          unfold endV
          rw [if_neg (fun h => hl2 h.2)]
         have hok := good_ok (s := (b10, p10, st10, unit)) hk12 hg h5
         rw [hend] at hok
         have hnd := (hnode _ hent).trans hend
         rw [← hkv] at hnd hok
         exact ⟨(b10, p10, st10, unit), rfl, hnd, hs10, hok⟩
       ·have hk2 : ¬ 1 + kd = 2 := by
         subst hM
         intro hh
         have e : real.eq (wrap .i64 (1 + kd)) 2 := by
          show wrap .i64 (1 + kd) = 2
          rw [w64 (by omega)]; exact hh
         exact absurd ((show real.dec (real.eq (wrap .i64 (1 + kd)) 2) = true from dec_iff.2 e).symm.trans h7) (by decide)
        rintro - s hs
        cases hs
        have hend : endV (1 + kd) (es, (b10, p10, st10, unit)) = ((1 + kd, es, unit), (b10, p10, st10, unit)) := by
         unfold endV
         rw [if_neg (fun h => hk2 h.1)]
        have hok := good_ok (s := (b10, p10, st10, unit)) hk12 hg h5
        rw [hend] at hok
        have hnd := (hnode _ hent).trans hend
        rw [← hkv] at hnd hok
        exact ⟨(b10, p10, st10, unit), rfl, hnd, hs10, hok⟩
     ·have hle : ¬ leS ky (lastK es) = true := by
       intro hh
       rw [← hla] at hh
       subst hM
       exact absurd (hh.symm.trans h6) (by decide)
      clear h6
      have hkey : keyV es (textV (b9, p9, st9, unit) 12) = some (ky, (b10, p10, st10, unit)) := (by rw [E10]; exact keyV_gt hle)
      have hks := keyV_some hkey (by rw [E10]; show ky.size ≤ 12; omega)
      refine splM (fun h7 => ?_) (fun h7 => ?_) <;> cbv
      ·have hk1 : 1 + kd = 1 := by
        subst hM
        have e : wrap .i64 (1 + kd) = 1 := dec_iff.1 h7
        rw [w64 (by omega)] at e
        exact e
       clear h7
       refine ⟨fun _ => ⟨⟨_, rfl, hs10⟩, (by show (0 : Int) ≤ 10; omega), (by show (10 : Int) ≤ 20; omega)⟩, ?_⟩
       rintro ⟨(vl : ByteArray), ⟨⟩⟩ ⟨z11, zz11, ⟨⟩⟩ hpost - -
       obtain ⟨⟨b11, p11, st11, ⟨⟩⟩, hz11, E11, hs11, hr11⟩ := hpost _ rfl
       have hz11 : z11 = some (b11, p11, st11, unit) := hz11
       subst hz11
       clear hpost hz11
       have E11 : textV (b10, p10, st10, unit) 10 = (vl, (b11, p11, st11, unit)) := E11
       have hr11 : (vl.size : Int) ≤ 10 := hr11
       have hr11 : vl.size ≤ 10 := by omega
       cbv
       have hent : entsV ((k).toNat - (es ++ [(ky, vl, 0, unit)]).length) (1 + kd) (b11, p11, st11, unit) (es ++ [(ky, vl, 0, unit)]) = entsV (k).toNat (1 + kd) (b2, p2, st2, unit) [] := by
        rw [← ht, show (k).toNat - es.length = ((k).toNat - (es ++ [(ky, vl, 0, unit)]).length) + 1 by simp; omega]
        exact (entsV_leaf hkey hk1 E11).symm
       have hgd : Good (1 + kd) (es ++ [(ky, vl, 0, unit)]) := good_add hg hks.1 hks.2 (fun _ => ⟨rfl, (by show vl.size ≤ 10; omega)⟩) (fun e => by omega)
       have hlt : (k).toNat - (es ++ [(ky, vl, 0, unit)]).length < (k).toNat - es.length := by simp; omega
       have hle : (((es ++ [(ky, vl, 0, unit)]).length : Nat) : Int) ≤ k := by simp; omega
       (try simp only [jqn] at hj); (try simp only [jqi] at hj)
       have hjn : wrap .i64 (j + 1) = (((es ++ [(ky, vl, 0, unit)]).length : Nat) : Int) := by rw [hj, w64 (by omega)]; simp
       have hroom : es.length + 1 ≤ 2 ^ 36 := by omega
       subst hM
       refine ⟨hroom, _, hlt, _, es ++ [(ky, vl, 0, unit)], b11, p11, st11, hjn, hle, hs11, hent, hgd, rfl, .inr rfl⟩
      ·have hk1 : ¬ 1 + kd = 1 := by
        subst hM
        intro hh
        have e : real.eq (wrap .i64 (1 + kd)) 1 := by
         show wrap .i64 (1 + kd) = 1
         rw [w64 (by omega)]; exact hh
        exact absurd ((show real.dec (real.eq (wrap .i64 (1 + kd)) 1) = true from dec_iff.2 e).symm.trans h7) (by decide)
       clear h7
       refine ⟨fun _ => ⟨_, rfl, hs10⟩, ?_⟩
       rintro ⟨(ch : Int), ⟨⟩⟩ ⟨z11, zz11, ⟨⟩⟩ hpost - -
       obtain ⟨⟨b11, p11, st11, ⟨⟩⟩, hz11, E11, hs11, hr11⟩ := hpost _ rfl
       have hz11 : z11 = some (b11, p11, st11, unit) := hz11
       subst hz11
       clear hpost hz11
       have E11 : nextV (b10, p10, st10, unit) 510 = (ch, (b11, p11, st11, unit)) := E11
       have hr11 : 0 ≤ ch ∧ ch < 510 := hr11 (show (0 : Int) < 510 by decide)
       cbv
       have hcw : wrap .i64 (2 + ch) = 2 + ch := w64 (by omega)
       have hent : entsV ((k).toNat - (es ++ [(ky, (⟨#[]⟩ : ByteArray), 2 + ch, unit)]).length) (1 + kd) (b11, p11, st11, unit) (es ++ [(ky, (⟨#[]⟩ : ByteArray), 2 + ch, unit)]) = entsV (k).toNat (1 + kd) (b2, p2, st2, unit) [] := by
        rw [← ht, show (k).toNat - es.length = ((k).toNat - (es ++ [(ky, (⟨#[]⟩ : ByteArray), 2 + ch, unit)]).length) + 1 by simp; omega]
        exact (entsV_inner hkey hk1 E11).symm
       have hgd : Good (1 + kd) (es ++ [(ky, (⟨#[]⟩ : ByteArray), 2 + ch, unit)]) := good_add hg hks.1 hks.2 (fun e => absurd e hk1) (fun _ => ⟨rfl, (by show 2 ≤ 2 + ch; omega), (by show 2 + ch < 512; omega)⟩)
       have hlt : (k).toNat - (es ++ [(ky, (⟨#[]⟩ : ByteArray), 2 + ch, unit)]).length < (k).toNat - es.length := by simp; omega
       have hle : (((es ++ [(ky, (⟨#[]⟩ : ByteArray), 2 + ch, unit)]).length : Nat) : Int) ≤ k := by simp; omega
       (try simp only [jqn] at hj); (try simp only [jqi] at hj)
       have hjn : wrap .i64 (j + 1) = (((es ++ [(ky, (⟨#[]⟩ : ByteArray), 2 + ch, unit)]).length : Nat) : Int) := by rw [hj, w64 (by omega)]; simp
       have hroom : es.length + 1 ≤ 2 ^ 36 := by omega
       rw [← hcw] at hent hgd hlt hle hjn
       subst hM
       refine ⟨hroom, _, hlt, _, es ++ [(ky, (⟨#[]⟩ : ByteArray), wrap .i64 (2 + ch), unit)], b11, p11, st11, hjn, hle, hs11, hent, hgd, rfl, .inr rfl⟩
    ·have hj0 : ¬ 0 < es.length := by
      intro hh
      (try simp only [jqn] at hj); (try simp only [jqi] at hj)
      have : (0 : Int) < j := by rw [hj]; omega
      subst hM
      exact absurd ((show real.dec (real.lt 0 j) = true from dec_iff.2 this).symm.trans h6) (by decide)
     clear h6
     have hkey : keyV es (textV (b9, p9, st9, unit) 12) = some (ky, (b10, p10, st10, unit)) := (by rw [E10]; exact keyV_first hj0)
     have hks := keyV_some hkey (by rw [E10]; show ky.size ≤ 12; omega)
     refine splM (fun h7 => ?_) (fun h7 => ?_) <;> cbv
     ·have hk1 : 1 + kd = 1 := by
       subst hM
       have e : wrap .i64 (1 + kd) = 1 := dec_iff.1 h7
       rw [w64 (by omega)] at e
       exact e
      clear h7
      refine ⟨fun _ => ⟨⟨_, rfl, hs10⟩, (by show (0 : Int) ≤ 10; omega), (by show (10 : Int) ≤ 20; omega)⟩, ?_⟩
      rintro ⟨(vl : ByteArray), ⟨⟩⟩ ⟨z11, zz11, ⟨⟩⟩ hpost - -
      obtain ⟨⟨b11, p11, st11, ⟨⟩⟩, hz11, E11, hs11, hr11⟩ := hpost _ rfl
      have hz11 : z11 = some (b11, p11, st11, unit) := hz11
      subst hz11
      clear hpost hz11
      have E11 : textV (b10, p10, st10, unit) 10 = (vl, (b11, p11, st11, unit)) := E11
      have hr11 : (vl.size : Int) ≤ 10 := hr11
      have hr11 : vl.size ≤ 10 := by omega
      cbv
      have hent : entsV ((k).toNat - (es ++ [(ky, vl, 0, unit)]).length) (1 + kd) (b11, p11, st11, unit) (es ++ [(ky, vl, 0, unit)]) = entsV (k).toNat (1 + kd) (b2, p2, st2, unit) [] := by
       rw [← ht, show (k).toNat - es.length = ((k).toNat - (es ++ [(ky, vl, 0, unit)]).length) + 1 by simp; omega]
       exact (entsV_leaf hkey hk1 E11).symm
      have hgd : Good (1 + kd) (es ++ [(ky, vl, 0, unit)]) := good_add hg hks.1 hks.2 (fun _ => ⟨rfl, (by show vl.size ≤ 10; omega)⟩) (fun e => by omega)
      have hlt : (k).toNat - (es ++ [(ky, vl, 0, unit)]).length < (k).toNat - es.length := by simp; omega
      have hle : (((es ++ [(ky, vl, 0, unit)]).length : Nat) : Int) ≤ k := by simp; omega
      (try simp only [jqn] at hj); (try simp only [jqi] at hj)
      have hjn : wrap .i64 (j + 1) = (((es ++ [(ky, vl, 0, unit)]).length : Nat) : Int) := by rw [hj, w64 (by omega)]; simp
      have hroom : es.length + 1 ≤ 2 ^ 36 := by omega
      subst hM
      refine ⟨hroom, _, hlt, _, es ++ [(ky, vl, 0, unit)], b11, p11, st11, hjn, hle, hs11, hent, hgd, rfl, .inr rfl⟩
     ·have hk1 : ¬ 1 + kd = 1 := by
       subst hM
       intro hh
       have e : real.eq (wrap .i64 (1 + kd)) 1 := by
        show wrap .i64 (1 + kd) = 1
        rw [w64 (by omega)]; exact hh
       exact absurd ((show real.dec (real.eq (wrap .i64 (1 + kd)) 1) = true from dec_iff.2 e).symm.trans h7) (by decide)
      clear h7
      refine ⟨fun _ => ⟨_, rfl, hs10⟩, ?_⟩
      rintro ⟨(ch : Int), ⟨⟩⟩ ⟨z11, zz11, ⟨⟩⟩ hpost - -
      obtain ⟨⟨b11, p11, st11, ⟨⟩⟩, hz11, E11, hs11, hr11⟩ := hpost _ rfl
      have hz11 : z11 = some (b11, p11, st11, unit) := hz11
      subst hz11
      clear hpost hz11
      have E11 : nextV (b10, p10, st10, unit) 510 = (ch, (b11, p11, st11, unit)) := E11
      have hr11 : 0 ≤ ch ∧ ch < 510 := hr11 (show (0 : Int) < 510 by decide)
      cbv
      have hcw : wrap .i64 (2 + ch) = 2 + ch := w64 (by omega)
      have hent : entsV ((k).toNat - (es ++ [(ky, (⟨#[]⟩ : ByteArray), 2 + ch, unit)]).length) (1 + kd) (b11, p11, st11, unit) (es ++ [(ky, (⟨#[]⟩ : ByteArray), 2 + ch, unit)]) = entsV (k).toNat (1 + kd) (b2, p2, st2, unit) [] := by
       rw [← ht, show (k).toNat - es.length = ((k).toNat - (es ++ [(ky, (⟨#[]⟩ : ByteArray), 2 + ch, unit)]).length) + 1 by simp; omega]
       exact (entsV_inner hkey hk1 E11).symm
      have hgd : Good (1 + kd) (es ++ [(ky, (⟨#[]⟩ : ByteArray), 2 + ch, unit)]) := good_add hg hks.1 hks.2 (fun e => absurd e hk1) (fun _ => ⟨rfl, (by show 2 ≤ 2 + ch; omega), (by show 2 + ch < 512; omega)⟩)
      have hlt : (k).toNat - (es ++ [(ky, (⟨#[]⟩ : ByteArray), 2 + ch, unit)]).length < (k).toNat - es.length := by simp; omega
      have hle : (((es ++ [(ky, (⟨#[]⟩ : ByteArray), 2 + ch, unit)]).length : Nat) : Int) ≤ k := by simp; omega
      (try simp only [jqn] at hj); (try simp only [jqi] at hj)
      have hjn : wrap .i64 (j + 1) = (((es ++ [(ky, (⟨#[]⟩ : ByteArray), 2 + ch, unit)]).length : Nat) : Int) := by rw [hj, w64 (by omega)]; simp
      have hroom : es.length + 1 ≤ 2 ^ 36 := by omega
      rw [← hcw] at hent hgd hlt hle hjn
      subst hM
      refine ⟨hroom, _, hlt, _, es ++ [(ky, (⟨#[]⟩ : ByteArray), wrap .i64 (2 + ch), unit)], b11, p11, st11, hjn, hle, hs11, hent, hgd, rfl, .inr rfl⟩
   ·have hin : (es.length : Int) = k := by
     have : ¬ j < k := by
      subst hM
      intro hh
      exact absurd ((show real.dec (real.lt j _) = true from dec_iff.2 hh).symm.trans h9) (by decide)
     (try simp only [jqn] at hj hi); (try simp only [jqi] at hj hi)
     omega
    clear h9
    have hent := ht.symm.trans (congrArg (fun z => entsV z (1 + kd) (b9, p9, st9, unit) es) (show (k).toNat - es.length = 0 by omega))
    refine splM (fun h7 => ?_) (fun h7 => ?_) <;> cbv
    ·have hk2 : 1 + kd = 2 := by
      subst hM
      have e : wrap .i64 (1 + kd) = 2 := dec_iff.1 h7
      rw [w64 (by omega)] at e
      exact e
     clear h7
     refine splM (fun h7 => ?_) (fun h7 => ?_) <;> cbv
     ·have hl2 : (es).length < 2 := by
       subst hM
       have e : (((es).length : Nat) : Int) < 2 := dec_iff.1 h7
       omega
      rintro - s hs
      cases hs
      have hend : endV (1 + kd) (es, (b9, p9, st9, unit)) = ((1, [], unit), (b9, p9, st9, unit)) := by
       unfold endV
       rw [if_pos ⟨hk2, hl2⟩]
      have hok := good_ok (s := (b9, p9, st9, unit)) hk12 hg h5
      rw [hend] at hok
      have hnd := (hnode _ hent).trans hend
      exact ⟨(b9, p9, st9, unit), rfl, hnd, hs9, hok⟩
     ·have hl2 : ¬ (es).length < 2 := by
       subst hM
       intro hh
       exact absurd ((show real.dec (real.lt (((es).length : Nat) : Int) 2) = true from dec_iff.2 (show (((es).length : Nat) : Int) < 2 by omega)).symm.trans h7) (by decide)
      rintro - s hs
      cases hs
      have hend : endV (1 + kd) (es, (b9, p9, st9, unit)) = ((1 + kd, es, unit), (b9, p9, st9, unit)) := by
       unfold endV
       rw [if_neg (fun h => hl2 h.2)]
      have hok := good_ok (s := (b9, p9, st9, unit)) hk12 hg h5
      rw [hend] at hok
      have hnd := (hnode _ hent).trans hend
      rw [← hkv] at hnd hok
      exact ⟨(b9, p9, st9, unit), rfl, hnd, hs9, hok⟩
    ·have hk2 : ¬ 1 + kd = 2 := by
      subst hM
      intro hh
      have e : real.eq (wrap .i64 (1 + kd)) 2 := by
       show wrap .i64 (1 + kd) = 2
       rw [w64 (by omega)]; exact hh
      exact absurd ((show real.dec (real.eq (wrap .i64 (1 + kd)) 2) = true from dec_iff.2 e).symm.trans h7) (by decide)
     rintro - s hs
     cases hs
     have hend : endV (1 + kd) (es, (b9, p9, st9, unit)) = ((1 + kd, es, unit), (b9, p9, st9, unit)) := by
      unfold endV
      rw [if_neg (fun h => hk2 h.1)]
     have hok := good_ok (s := (b9, p9, st9, unit)) hk12 hg h5
     rw [hend] at hok
     have hnd := (hnode _ hent).trans hend
     rw [← hkv] at hnd hok
     exact ⟨(b9, p9, st9, unit), rfl, hnd, hs9, hok⟩
end Go.Proofs.YtmjeghlfmhbjdaaDoor.EngTab
