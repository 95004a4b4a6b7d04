/- Contracts: a leaf's and an inner node's bytes. -/
import Derived.Test.YtmjeghlfmhbjdaaDoorLf
namespace Go.Proofs.YtmjeghlfmhbjdaaDoor.EngTab
open Go.Proofs.YtmjeghlfmhbjdaaDoor.Eng
open IntKind (wrap)
set_option maxRecDepth 100000
set_option linter.unusedVariables false
set_option linter.unusedSimpArgs false
def toBy (s : ByteArray) : List Int := s.data.toList.map fun b => (b.toNat : Int)
theorem toBy_len (s : ByteArray) : (toBy s).length = s.size := by simp [toBy]
def putKey (b : List Int) (i : Nat) (e : EntD) : List Int := ovr (b.set (4 + 24 * i) ((e.1.size : Int) % 256)) (5 + 24 * i) (toBy e.1)
def putLeaf (b : List Int) (i : Nat) (e : EntD) : List Int := ovr ((putKey b i e).set (17 + 24 * i) ((e.2.1.size : Int) % 256)) (18 + 24 * i) (toBy e.2.1)
def putInner (b : List Int) (i : Nat) (e : EntD) : List Int := ovr (putKey b i e) (17 + 24 * i) (numB e.2.2.1 2)
def layLs (b : List Int) (es : List EntD) : Nat → List Int
 | 0 => b
 | i + 1 => putLeaf (layLs b es i) i (entAt es i)
def layIs (b : List Int) (es : List EntD) : Nat → List Int
 | 0 => b
 | i + 1 => putInner (layIs b es i) i (entAt es i)
def layL (k c : Int) (es : List EntD) : List Int := layLs (begB k c) es es.length
def layI (k c : Int) (es : List EntD) : List Int := layIs (begB k c) es es.length
theorem ovr_len {b ys : List Int} {a : Int} (h : a.toNat + ys.length ≤ b.length) : (ovr b a ys).length = b.length := by
 unfold ovr
 simp only [List.length_append, List.length_take, List.length_drop]
 omega
theorem putKey_len {b : List Int} {i : Nat} {e : EntD} (hb : b.length = 128) (hi : i < 5) (he : e.1.size ≤ 12) : (putKey b i e).length = 128 := by
 unfold putKey
 rw [ovr_len (by rw [List.length_set, toBy_len, hb]; omega), List.length_set, hb]
theorem putLeaf_len {b : List Int} {i : Nat} {e : EntD} (hb : b.length = 128) (hi : i < 5) (he : e.1.size ≤ 12) (hv : e.2.1.size ≤ 10) : (putLeaf b i e).length = 128 := by
 have h := putKey_len hb hi he
 unfold putLeaf
 rw [ovr_len (by rw [List.length_set, toBy_len, h]; omega), List.length_set, h]
theorem putInner_len {b : List Int} {i : Nat} {e : EntD} (hb : b.length = 128) (hi : i < 5) (he : e.1.size ≤ 12) : (putInner b i e).length = 128 := by
 have h := putKey_len hb hi he
 unfold putInner
 rw [ovr_len (by rw [numB_len, h]; omega), h]
def c83 : Con := Con.of ⟨[(false, 0, tyLF)], [(0, tyA)], fun x => leafOK x.1.1.2.1, fun x y _ => y.1 = layL x.1.1.1.1 x.1.1.1.2.1 x.1.1.2.1⟩
theorem ok83 : FnOK Tryd.prog 83 c83 := by
 refine FnOK.of_vc mixed tabWOk (.cons en82 ok82 .nil) Tryd.func83 rfl (by decide) lv83 hd83 ?_
 rintro ⟨⟨⟨⟨(k : Int), (c : Int), ⟨⟩⟩, (es : List EntD), ⟨⟩⟩, ⟨⟩⟩, ⟨⟩⟩ (hOK : leafOK es) hwf
 have hl : es.length ≤ 5 := hOK.1
 generalize hM : real = M
 cbv
 refine ⟨fun _ => trivial, ?_⟩
 rintro ⟨(b0 : List Int), ⟨⟩⟩ x' (hb : b0 = begB k c) - -
 cbv
 refine ⟨fun m Γ => ∃ (i : Nat) (j : Int) (xs : List Int), j = i ∧ i ≤ es.length ∧ xs = layLs (begB k c) es i ∧ xs.length = 128 ∧ m = es.length - i ∧ Γ = ⟨50, [(2, .arp 1 (.int .u8) 128), (3, .arp 2 (.int .u8) 128), (13, .pv [] (.sl tyEnt) es), (14, .pv [] (.int .i64) (M.ofN (M.len es))), (15, .pv [] (.int .i64) j)], [(1, .row 0 (.int .u8) (M.rep (M.ofN 128) 0)), (2, .row 0 (.int .u8) xs)], [.hole 0]⟩, ⟨_, 0, 0, b0, rfl, Nat.zero_le _, hb, by rw [hb]; rfl, rfl, rfl⟩, ?_⟩
 rintro m _ ⟨i, j, xs, hj, hi, hx, hxl, rfl, rfl⟩ -
 cbv
 refine splM (fun h => ?_) (fun h => ?_) <;> cbv
 ·have hin : i < es.length := by
   (try subst hM); (try simp only [jqn] at *); (try simp only [jqi] at *); (try simp only [real, jq1, jq2, jq3, jq4, jq5, jq6, sEq_dec, Bool.not_true, Bool.not_false, gt_iff_lt, ge_iff_le] at *)
   omega
  (try simp only [jqn] at hi hj); (try simp only [jqi] at hi hj)
  have hji : j.toNat = i := by rw [hj]; simp
  have e0 : es.getD j.toNat (⟨#[]⟩, ⟨#[]⟩, 0, PUnit.unit) = entAt es i := by rw [hji]; rfl
  have hK : (entAt es i).1.size ≤ 12 := (hOK.2.2 i hin).1
  have hV := hOK.2.1 i hin
  rcases he : entAt es i with ⟨ky, vl, ch, ⟨⟩⟩
  rw [he] at hK hV e0
  have hK : ky.size ≤ 12 := hK
  have hV : ch = 0 ∧ vl.size ≤ 10 := hV
  have e4 : wrap .i64 (4 + wrap .i64 (24 * j)) = 4 + 24 * (i : Int) := by rw [hj, w64 (x := 24 * (i : Int)) (by omega), w64 (by omega)]
  have e5 : wrap .i64 (4 + 24 * (i : Int) + 1) = 5 + 24 * (i : Int) := by rw [w64 (by omega)]; omega
  have e17 : wrap .i64 (4 + 24 * (i : Int) + 13) = 17 + 24 * (i : Int) := by rw [w64 (by omega)]; omega
  have e18 : wrap .i64 (4 + 24 * (i : Int) + 14) = 18 + 24 * (i : Int) := by rw [w64 (by omega)]; omega
  repeat' (first | (refine And.intro (fun _ => by first | exact drawRd rfl (by decide +kernel) | exact drawTail (by decide +kernel)) ?_; cbv) | (refine And.intro (by (try subst hM); (try simp only [jqn] at *); (try simp only [jqi] at *); (try simp only [real, jq1, jq2, jq3, jq4, jq5, jq6, sEq_dec, Bool.not_true, Bool.not_false, gt_iff_lt, ge_iff_le] at *); (try simp only [e4, e5, e17, e18, e0, List.length_append, List.length_take, List.length_drop, List.length_set, List.length_map, Array.length_toList, ByteArray.size_data, hxl]); omega) ?_; cbv))
  have t4 : (4 + 24 * (i : Int)).toNat = 4 + 24 * i := by omega
  have t17 : (17 + 24 * (i : Int)).toNat = 17 + 24 * i := by omega
  have hfin : ∀ ys : List Int, ys = putLeaf xs i (ky, vl, ch, ()) → ys = layLs (begB k c) es (i + 1) ∧ ys.length = 128 := fun ys hy => by
   rw [hy]
   refine ⟨by rw [hx, ← he]; rfl, putLeaf_len hxl (by omega) hK hV.2⟩
  refine ⟨es.length - (i + 1), by omega, i + 1, _, _, ?_, hin, (hfin _ ?_).1, (hfin _ ?_).2, rfl, rfl⟩
  ·(try subst hM); (try simp only [jqn] at *); (try simp only [jqi] at *); (try simp only [real, jq1, jq2, jq3, jq4, jq5, jq6, sEq_dec, Bool.not_true, Bool.not_false, gt_iff_lt, ge_iff_le] at *)
   rw [hj, w64 (by omega)]; omega
  ·(try subst hM); (try simp only [jqn] at *); (try simp only [jqi] at *); (try simp only [real, jq1, jq2, jq3, jq4, jq5, jq6, sEq_dec, Bool.not_true, Bool.not_false, gt_iff_lt, ge_iff_le] at *)
   simp only [e4, e5, e17, e18, e0, wrap8_mod, t4, t17]
   rfl
  ·(try subst hM); (try simp only [jqn] at *); (try simp only [jqi] at *); (try simp only [real, jq1, jq2, jq3, jq4, jq5, jq6, sEq_dec, Bool.not_true, Bool.not_false, gt_iff_lt, ge_iff_le] at *)
   simp only [e4, e5, e17, e18, e0, wrap8_mod, t4, t17]
   rfl
 ·rintro -
  (try subst hM); (try simp only [jqn] at *); (try simp only [jqi] at *); (try simp only [real, jq1, jq2, jq3, jq4, jq5, jq6, sEq_dec, Bool.not_true, Bool.not_false, gt_iff_lt, ge_iff_le] at *)
  have : i = es.length := by omega
  subst this
  exact hx
def c86 : Con := Con.of ⟨[(false, 0, tyLF)], [(0, tyA)], fun x => innerOK x.1.1.2.1, fun x y _ => y.1 = layI x.1.1.1.1 x.1.1.1.2.1 x.1.1.2.1⟩
theorem ok86 : FnOK Tryd.prog 86 c86 := by
 refine FnOK.of_vc mixed tabWOk (.cons en82 ok82 .nil) Tryd.func86 rfl (by decide) lv86 hd86 ?_
 rintro ⟨⟨⟨⟨(k : Int), (c : Int), ⟨⟩⟩, (es : List EntD), ⟨⟩⟩, ⟨⟩⟩, ⟨⟩⟩ (hOK : innerOK es) hwf
 have hl : es.length ≤ 5 := hOK.2.1
 generalize hM : real = M
 cbv
 refine ⟨fun _ => trivial, ?_⟩
 rintro ⟨(b0 : List Int), ⟨⟩⟩ x' (hb : b0 = begB k c) - -
 cbv
 refine ⟨fun m Γ => ∃ (i : Nat) (j : Int) (xs : List Int), j = i ∧ i ≤ es.length ∧ xs = layIs (begB k c) es i ∧ xs.length = 128 ∧ m = es.length - i ∧ Γ = ⟨43, [(2, .arp 1 (.int .u8) 128), (3, .arp 2 (.int .u8) 128), (13, .pv [] (.sl tyEnt) es), (14, .pv [] (.int .i64) (M.ofN (M.len es))), (15, .pv [] (.int .i64) j)], [(1, .row 0 (.int .u8) (M.rep (M.ofN 128) 0)), (2, .row 0 (.int .u8) xs)], [.hole 0]⟩, ⟨_, 0, 0, b0, rfl, Nat.zero_le _, hb, by rw [hb]; rfl, rfl, rfl⟩, ?_⟩
 rintro m _ ⟨i, j, xs, hj, hi, hx, hxl, rfl, rfl⟩ -
 cbv
 refine splM (fun h => ?_) (fun h => ?_) <;> cbv
 ·have hin : i < es.length := by
   (try subst hM); (try simp only [jqn] at *); (try simp only [jqi] at *); (try simp only [real, jq1, jq2, jq3, jq4, jq5, jq6, sEq_dec, Bool.not_true, Bool.not_false, gt_iff_lt, ge_iff_le] at *)
   omega
  (try simp only [jqn] at hi hj); (try simp only [jqi] at hi hj)
  have hji : j.toNat = i := by rw [hj]; simp
  have e0 : es.getD j.toNat (⟨#[]⟩, ⟨#[]⟩, 0, PUnit.unit) = entAt es i := by rw [hji]; rfl
  have hK : (entAt es i).1.size ≤ 12 := (hOK.2.2.2 i hin).1
  have hV := hOK.2.2.1 i hin
  rcases he : entAt es i with ⟨ky, vl, ch, ⟨⟩⟩
  rw [he] at hK hV e0
  have hK : ky.size ≤ 12 := hK
  have hV : vl.size = 0 ∧ 2 ≤ ch ∧ ch < 512 := hV
  have e4 : wrap .i64 (4 + wrap .i64 (24 * j)) = 4 + 24 * (i : Int) := by rw [hj, w64 (x := 24 * (i : Int)) (by omega), w64 (by omega)]
  have e5 : wrap .i64 (4 + 24 * (i : Int) + 1) = 5 + 24 * (i : Int) := by rw [w64 (by omega)]; omega
  have e17 : wrap .i64 (4 + 24 * (i : Int) + 13) = 17 + 24 * (i : Int) := by rw [w64 (by omega)]; omega
  have e18 : wrap .i64 (4 + 24 * (i : Int) + 14) = 18 + 24 * (i : Int) := by rw [w64 (by omega)]; omega
  repeat' (first | (refine And.intro (fun _ => by first | exact drawRd rfl (by decide +kernel) | exact drawTail (by decide +kernel)) ?_; cbv) | (refine And.intro (by (try subst hM); (try simp only [jqn] at *); (try simp only [jqi] at *); (try simp only [real, jq1, jq2, jq3, jq4, jq5, jq6, sEq_dec, Bool.not_true, Bool.not_false, gt_iff_lt, ge_iff_le] at *); (try simp only [e4, e5, e17, e18, e0, List.length_append, List.length_take, List.length_drop, List.length_set, List.length_map, Array.length_toList, ByteArray.size_data, hxl]); omega) ?_; cbv))
  have t4 : (4 + 24 * (i : Int)).toNat = 4 + 24 * i := by omega
  have t17 : (17 + 24 * (i : Int)).toNat = 17 + 24 * i := by omega
  have hfin : ∀ ys : List Int, ys = putInner xs i (ky, vl, ch, ()) → ys = layIs (begB k c) es (i + 1) ∧ ys.length = 128 := fun ys hy => by
   rw [hy]
   refine ⟨by rw [hx, ← he]; rfl, putInner_len hxl (by omega) hK⟩
  refine ⟨es.length - (i + 1), by omega, i + 1, _, _, ?_, hin, (hfin _ ?_).1, (hfin _ ?_).2, rfl, rfl⟩
  ·(try subst hM); (try simp only [jqn] at *); (try simp only [jqi] at *); (try simp only [real, jq1, jq2, jq3, jq4, jq5, jq6, sEq_dec, Bool.not_true, Bool.not_false, gt_iff_lt, ge_iff_le] at *)
   rw [hj, w64 (by omega)]; omega
  ·(try subst hM); (try simp only [jqn] at *); (try simp only [jqi] at *); (try simp only [real, jq1, jq2, jq3, jq4, jq5, jq6, sEq_dec, Bool.not_true, Bool.not_false, gt_iff_lt, ge_iff_le] at *)
   simp only [e4, e5, e17, e18, e0, wrap8_mod, t4, t17]
   rfl
  ·(try subst hM); (try simp only [jqn] at *); (try simp only [jqi] at *); (try simp only [real, jq1, jq2, jq3, jq4, jq5, jq6, sEq_dec, Bool.not_true, Bool.not_false, gt_iff_lt, ge_iff_le] at *)
   simp only [e4, e5, e17, e18, e0, wrap8_mod, t4, t17]
   rfl
 ·rintro -
  (try subst hM); (try simp only [jqn] at *); (try simp only [jqi] at *); (try simp only [real, jq1, jq2, jq3, jq4, jq5, jq6, sEq_dec, Bool.not_true, Bool.not_false, gt_iff_lt, ge_iff_le] at *)
  have : i = es.length := by omega
  subst this
  exact hx
end Go.Proofs.YtmjeghlfmhbjdaaDoor.EngTab
