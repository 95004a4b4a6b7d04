/- Contract: the specification's DecodeNode. -/
import Derived.Test.YtmjeghlfmhbjdaaDoorR2
import Derived.Test.YtmjeghlfmhbjdaaDoorR5
import Derived.Test.YtmjeghlfmhbjdaaDoorNT
namespace Go.Proofs.YtmjeghlfmhbjdaaDoor.EngTab
open Go.Proofs.YtmjeghlfmhbjdaaDoor.Eng
open PUnit (unit)
open IntKind (wrap)
set_option maxRecDepth 100000
set_option linter.unusedVariables false
set_option linter.unusedSimpArgs false
def c20 : Con := Con.of ⟨[(false, 0, tyB), (false, 0, .int .i64), (false, 0, .int .i64)], [(0, .str)], fun x => x.1.length ≤ 1048576 ∧ 0 ≤ x.2.1 ∧ 0 ≤ x.2.2.1 ∧ x.2.2.1 ≤ 12 ∧ x.2.1 + 1 + x.2.2.1 ≤ x.1.length, fun x y _ => y.1 = textAt x.1 x.2.1.toNat x.2.2.1.toNat⟩
theorem ok20 : FnOK Tryd.prog 20 c20 := by
 refine FnOK.of_vc mixed tabOk .nil Tryd.func20 rfl (by decide) lv20 hd20 ?_
 rintro ⟨(b : List Int), (a : Int), (w : Int), ⟨⟩⟩ ⟨(hl : b.length ≤ 1048576), (ha : 0 ≤ a), (h0 : 0 ≤ w), (h1 : w ≤ 12), (h2 : a + 1 + w ≤ b.length)⟩ hwf
 have hB : ∀ x ∈ b, 0 ≤ x ∧ x ≤ 255 := inB hwf.1
 have hby := byte_of hB a.toNat
 generalize hM : real = M
 cbv
 have hn64 : wrap .i64 (b.getD a.toNat 0) = b.getD a.toNat 0 := w64 (by omega)
 (try simp only [jqn] at h2); (try simp only [jqi] at h2)
 have hl1 : a < (b.length : Int) := by omega
 have hA : a.toNat + 1 + w.toNat ≤ b.length := by omega
 have e1 : wrap .i64 (a + 1) = a + 1 := w64 (by omega)
 refine ⟨by subst hM; exact ha, by subst hM; exact hl1, ?_⟩
 have fin : ∀ n : Int, 0 ≤ n → n ≤ 12 → a.toNat + 1 + n.toNat ≤ b.length → n.toNat = min (b.getD a.toNat 0).toNat w.toNat → (0 ≤ wrap .i64 (a + 1) ∧ wrap .i64 (a + 1) ≤ wrap .i64 (wrap .i64 (a + 1) + n) ∧ wrap .i64 (wrap .i64 (a + 1) + n) ≤ (b.length : Int)) ∧ real.ofB (real.cut b (wrap .i64 (a + 1)) (wrap .i64 (wrap .i64 (a + 1) + n))) = textAt b a.toNat w.toNat := fun n k0 k1 k2 k3 => by
  have e2 : wrap .i64 (a + 1 + n) = a + 1 + n := w64 (by omega)
  rw [e1, e2]
  refine ⟨⟨by omega, by omega, by omega⟩, ?_⟩
  unfold textAt
  have : (a + 1 + n).toNat - (a + 1).toNat = min (b.getD a.toNat 0).toNat w.toNat := by omega
  show real.ofB ((b.drop (a + 1).toNat).take ((a + 1 + n).toNat - (a + 1).toNat)) = _
  rw [this, show (a + 1).toNat = a.toNat + 1 by omega]
 refine splM (fun h => ?_) (fun h => ?_) <;> cbv
 ·have hlt : w < b.getD a.toNat 0 := by
   subst hM
   have : w < wrap .i64 (b.getD a.toNat 0) := dec_iff.1 h
   rwa [hn64] at this
  obtain ⟨⟨f1, f2, f3⟩, f4⟩ := fin w h0 h1 hA (by omega)
  clear h
  subst hM
  exact ⟨f1, f2, f3, fun _ => f4⟩
 ·have hle : b.getD a.toNat 0 ≤ w := by
   subst hM
   have hn : ¬ w < wrap .i64 (b.getD a.toNat 0) := by
    intro hh
    have : real.dec (real.lt w (wrap .i64 (b.getD a.toNat 0))) = true := dec_iff.2 hh
    exact absurd (this.symm.trans h) (by decide)
   rw [hn64] at hn
   omega
  obtain ⟨⟨f1, f2, f3⟩, f4⟩ := fin (b.getD a.toNat 0) (by omega) (by omega) (by omega) (by omega)
  rw [← hn64] at f2 f3 f4
  clear h
  subst hM
  exact ⟨f1, f2, f3, fun _ => f4⟩
noncomputable def readCut (b : List Int) (i : Nat) : EntD := (textAt b (4 + 24 * i) 12, if b.getD 0 0 = 1 then textAt b (17 + 24 * i) 10 else ⟨#[]⟩, if b.getD 0 0 = 1 then 0 else nm b (17 + 24 * i) 2, ())
noncomputable def readCuts (b : List Int) (n : Nat) : List EntD := (List.range n).map (readCut b)
theorem readCuts_succ (b : List Int) (n : Nat) : readCuts b (n + 1) = readCuts b n ++ [readCut b n] := by simp [readCuts, List.range_succ]
theorem readCuts_len (b : List Int) (n : Nat) : (readCuts b n).length = n := by simp [readCuts]
open Classical in
noncomputable def decN (b : List Int) : (Int × List EntD × Unit) × Int :=
 if sumC b ≠ 0 then ((0, [], ()), sumC b) else
 if nodeOK (b.getD 0 0) (readCuts b (cnt b 5)) ∧ encN (b.getD 0 0) (readCuts b (cnt b 5)) = b then ((b.getD 0 0, readCuts b (cnt b 5), ()), 0) else ((0, [], ()), 5)
theorem decN_ok {b : List Int} {k : Int} {rs : List EntD} (hz : sumC b = 0) (hn : k = b.getD 0 0) (hR : rs = readCuts b (cnt b 5)) (hT : nodeOK k rs) (hE : encN k rs = b) : decN b = ((k, rs, ()), 0) := by
 unfold decN
 rw [if_neg (by omega), ← hR, ← hn, if_pos ⟨hT, hE⟩]
theorem decN_no {b : List Int} {k : Int} {rs : List EntD} (hz : sumC b = 0) (hn : k = b.getD 0 0) (hR : rs = readCuts b (cnt b 5)) (h : ¬ (nodeOK k rs ∧ encN k rs = b)) : decN b = ((0, [], ()), 5) := by
 unfold decN
 rw [if_neg (by omega), ← hR, ← hn, if_neg h]
def c4 : Con := Con.of ⟨[(false, 0, tyB)], [(1, tyNode), (0, .int .i64)], fun x => x.1.length ≤ 1048576, fun x y _ => (y.1, y.2.1) = decN x.1⟩
set_option maxHeartbeats 8000000 in
theorem ok4 : FnOK Tryd.prog 4 c4 := by
 refine FnOK.of_vc mixed tabOk (.cons en19 ok19 (.cons en21 ok21 (.cons en22 ok22 (.cons en23 ok23 (.cons en20 ok20 .nil))))) Tryd.func4 rfl (by decide) lv4 hd4 ?_
 rintro ⟨(b : List Int), ⟨⟩⟩ (hl : b.length ≤ 1048576) hwf
 have hB : ∀ x ∈ b, 0 ≤ x ∧ x ≤ 255 := inB hwf.1
 generalize hM : real = M
 cbv
 refine ⟨fun _ => hl, ?_⟩
 rintro ⟨(c : Int), ⟨⟩⟩ x0 (hc : c = sumC b) - -
 cbv
 refine splM (fun h => ?_) (fun h => ?_) <;> cbv
 ·rintro -
  have hne : sumC b ≠ 0 := by
   (try subst hM); (try simp only [jqn] at *); (try simp only [jqi] at *); (try simp only [real, jq1, jq2, jq3, jq4, jq5, jq6, sEq_dec, Bool.not_true, Bool.not_false, gt_iff_lt, ge_iff_le] at *)
   omega
  show ((0, [], unit), c) = decN b
  unfold decN
  rw [if_pos hne, hc]
 have hz : sumC b = 0 := by
  (try subst hM); (try simp only [jqn] at *); (try simp only [jqi] at *); (try simp only [real, jq1, jq2, jq3, jq4, jq5, jq6, sEq_dec, Bool.not_true, Bool.not_false, gt_iff_lt, ge_iff_le] at *)
  omega
 have h128 : b.length = 128 := by
  unfold sumC at hz
  by_cases hh : b.length ≠ 128
  ·rw [if_pos hh] at hz; omega
  ·omega
 clear h
 have hby := byte_of hB 1
 have hby0 := byte_of hB 0
 have hk64 : wrap .i64 (b.getD 0 0) = b.getD 0 0 := w64 (by omega)
 have hn64 : wrap .i64 (b.getD 1 0) = b.getD 1 0 := w64 (by omega)
 refine ⟨by (try subst hM); (try simp only [jqn] at *); (try simp only [jqi] at *); (try simp only [real, jq1, jq2, jq3, jq4, jq5, jq6, sEq_dec, Bool.not_true, Bool.not_false, gt_iff_lt, ge_iff_le] at *); omega, by (try subst hM); (try simp only [jqn] at *); (try simp only [jqi] at *); (try simp only [real, jq1, jq2, jq3, jq4, jq5, jq6, sEq_dec, Bool.not_true, Bool.not_false, gt_iff_lt, ge_iff_le] at *); omega, ?_⟩
 refine ⟨fun m Γ => ∃ (i : Nat) (j : Int), (j = i ∧ i ≤ cnt b 5) ∧ m = cnt b 5 - i ∧ ((i = 0 ∧ Γ = ⟨75, [(0, .pv [] tyB b), (2, .ad 0 tyNode 0 []), (5, .ad 1 tyNode 0 []), (6, .pv [] (.int .i64) j)], [(0, .box (.consA (.pv [] (.int .i64) 0) (.consA .nils .nilA))), (1, .box (.consA (.pv [] (.int .i64) (M.wrap .i64 (M.get b 0 0))) (.consA .nils .nilA)))], [.hole 0]⟩) ∨
  ∃ xs, xs = readCuts b i ∧ Γ = ⟨75, [(0, .pv [] tyB b), (2, .ad 0 tyNode 0 []), (5, .ad 1 tyNode 0 []), (6, .pv [] (.int .i64) j)], [(0, .box (.consA (.pv [] (.int .i64) 0) (.consA .nils .nilA))), (1, .box (.consA (.pv [] (.int .i64) (M.wrap .i64 (M.get b 0 0))) (.consA (.ref 4) .nilA))), (4, .row 0 tyEnt xs)], [.hole 0]⟩), ⟨_, 0, 0, ⟨rfl, Nat.zero_le _⟩, rfl, .inl ⟨rfl, rfl⟩⟩, ?_⟩
 rintro m _ ⟨i, j, ⟨hj, hi⟩, rfl, (⟨hi0, rfl⟩ | ⟨xs, hx, rfl⟩)⟩ -
 ·cbv
  refine ⟨by (try subst hM); (try simp only [jqn] at *); (try simp only [jqi] at *); (try simp only [real, jq1, jq2, jq3, jq4, jq5, jq6, sEq_dec, Bool.not_true, Bool.not_false, gt_iff_lt, ge_iff_le] at *); omega, by (try subst hM); (try simp only [jqn] at *); (try simp only [jqi] at *); (try simp only [real, jq1, jq2, jq3, jq4, jq5, jq6, sEq_dec, Bool.not_true, Bool.not_false, gt_iff_lt, ge_iff_le] at *); omega, ?_⟩
  refine splM (fun h1 => ?_) (fun h1 => ?_) <;> cbv
  ·refine splM (fun h2 => ?_) (fun h2 => ?_) <;> cbv
   ·(try simp only [jqn] at hj); (try simp only [jqi] at hj)
    have hin : i < cnt b 5 := by
     have h1' : j < wrap .i64 (b.getD 1 0) := by subst hM; exact dec_iff.1 h1
     have h2' : j < 5 := by subst hM; exact dec_iff.1 h2
     rw [hn64] at h1'
     unfold cnt
     omega
    have hlt : cnt b 5 - (i + 1) < cnt b 5 - i := by omega
    have hc5 : cnt b 5 ≤ 5 := by unfold cnt; omega
    have hj1 : wrap .i64 (j + 1) = ((i + 1 : Nat) : Int) := by rw [hj, w64 (by omega)]; omega
    have e4 : wrap .i64 (4 + wrap .i64 (24 * j)) = 4 + 24 * (i : Int) := by rw [hj, w64 (x := 24 * (i : Int)) (by omega), w64 (by omega)]
    have e17 : wrap .i64 (wrap .i64 (4 + wrap .i64 (24 * j)) + 13) = 17 + 24 * (i : Int) := by rw [e4, w64 (by omega)]; omega
    have hA4 : (4 + 24 * (i : Int)).toNat = 4 + 24 * i := by omega
    have hA17 : (17 + 24 * (i : Int)).toNat = 17 + 24 * i := by omega
    clear h1 h2
    refine ⟨fun _ => ?_, ?_⟩
    ·subst hM
     show b.length ≤ 1048576 ∧ 0 ≤ wrap .i64 (4 + wrap .i64 (24 * j)) ∧ (0 : Int) ≤ 12 ∧ (12 : Int) ≤ 12 ∧ wrap .i64 (4 + wrap .i64 (24 * j)) + 1 + 12 ≤ (b.length : Int)
     rw [e4]; omega
    rintro ⟨(ky : ByteArray), ⟨⟩⟩ q1 hk' - -
    have hk : ky = textAt b (4 + 24 * i) 12 := by
     subst hM
     have g : ky = textAt b (wrap .i64 (4 + wrap .i64 (24 * j))).toNat (12 : Int).toNat := hk'
     rw [e4, hA4] at g
     exact g
    clear hk'
    cbv
    refine splM (fun h => ?_) (fun h => ?_) <;> cbv
    ·have hk1 : b.getD 0 0 = 1 := by
      subst hM
      have : wrap .i64 (b.getD 0 0) = 1 := dec_iff.1 h
      rwa [hk64] at this
     clear h
     refine ⟨fun _ => ?_, ?_⟩
     ·subst hM
      show b.length ≤ 1048576 ∧ 0 ≤ wrap .i64 (wrap .i64 (4 + wrap .i64 (24 * j)) + 13) ∧ (0 : Int) ≤ 10 ∧ (10 : Int) ≤ 12 ∧ wrap .i64 (wrap .i64 (4 + wrap .i64 (24 * j)) + 13) + 1 + 10 ≤ (b.length : Int)
      rw [e17]; omega
     rintro ⟨(vl : ByteArray), ⟨⟩⟩ q2 hv' - -
     have hv : vl = textAt b (17 + 24 * i) 10 := by
      subst hM
      have g : vl = textAt b (wrap .i64 (wrap .i64 (4 + wrap .i64 (24 * j)) + 13)).toNat (10 : Int).toNat := hv'
      rw [e17, hA17] at g
      exact g
     clear hv'
     cbv
     have hE : (ky, vl, (0 : Int), unit) = readCut b i := by
      unfold readCut
      rw [if_pos hk1, if_pos hk1, hk, hv]
     refine ⟨?_, cnt b 5 - (i + 1), hlt, i + 1, _, ⟨?_, hin⟩, rfl, .inr ⟨_, ?_, rfl⟩⟩
     ·subst hM
      show (([] : List EntD) : List EntD).length + 1 ≤ 2 ^ 36
      simp
     ·subst hM; exact hj1
     ·subst hM
      show ([] : List EntD) ++ [(ky, vl, (0 : Int), unit)] = _
      rw [readCuts_succ, hE, hi0]; rfl
    ·have hk1 : ¬ b.getD 0 0 = 1 := by
      subst hM
      intro hh
      have : real.dec (real.eq (wrap .i64 (b.getD 0 0)) 1) = true := dec_iff.2 (show wrap .i64 (b.getD 0 0) = 1 by rw [hk64]; exact hh)
      exact absurd (this.symm.trans h) (by decide)
     clear h
     refine ⟨fun _ => ?_, ?_⟩
     ·subst hM
      show b.length ≤ 1048576 ∧ 0 ≤ wrap .i64 (wrap .i64 (4 + wrap .i64 (24 * j)) + 13) ∧ (0 : Int) ≤ 2 ∧ (2 : Int) ≤ 8 ∧ wrap .i64 (wrap .i64 (4 + wrap .i64 (24 * j)) + 13) + 2 ≤ (b.length : Int)
      rw [e17]; omega
     rintro ⟨(ch : Int), ⟨⟩⟩ q2 hv' - -
     have hv : ch = nm b (17 + 24 * i) 2 := by
      subst hM
      have g : ch = nm b (wrap .i64 (wrap .i64 (4 + wrap .i64 (24 * j)) + 13)).toNat (2 : Int).toNat := hv'
      rw [e17, hA17] at g
      exact g
     clear hv'
     cbv
     have hE : (ky, (⟨#[]⟩ : ByteArray), ch, unit) = readCut b i := by
      unfold readCut
      rw [if_neg hk1, if_neg hk1, hk, hv]
     refine ⟨?_, cnt b 5 - (i + 1), hlt, i + 1, _, ⟨?_, hin⟩, rfl, .inr ⟨_, ?_, rfl⟩⟩
     ·subst hM
      show (([] : List EntD) : List EntD).length + 1 ≤ 2 ^ 36
      simp
     ·subst hM; exact hj1
     ·subst hM
      show ([] : List EntD) ++ [(ky, (⟨#[]⟩ : ByteArray), ch, unit)] = _
      rw [readCuts_succ, hE, hi0]; rfl
   ·have hcn : i = cnt b 5 := by
     (try simp only [jqn] at hj); (try simp only [jqi] at hj)
     have h2' : ¬ j < 5 := by
      subst hM
      intro hh
      have : real.dec (real.lt j 5) = true := dec_iff.2 hh
      exact absurd (this.symm.trans h2) (by decide)
     unfold cnt at hi ⊢
     omega
    clear h1 h2
    have hRS : ([] : List EntD) = readCuts b (cnt b 5) := by rw [← hcn, hi0]; rfl
    refine ⟨fun _ => (by show (([] : List EntD) : List EntD).length ≤ 1048576; simp), ?_⟩
    rintro ⟨(w0 : List Int), (w1 : Int), ⟨⟩⟩ x2 hw - -
    obtain ⟨hw0, hw1⟩ : w0 = encN (b.getD 0 0) ([] : List EntD) ∧ w1 = encC (nodeOK (b.getD 0 0) ([] : List EntD)) := by
     subst hM
     have g : w0 = encN (wrap .i64 (b.getD 0 0)) ([] : List EntD) ∧ w1 = encC (nodeOK (wrap .i64 (b.getD 0 0)) ([] : List EntD)) := hw
     rw [hk64] at g
     exact g
    clear hw
    cbv
    refine splM (fun h3 => ?_) (fun h3 => ?_) <;> cbv
    ·rintro -
     have hT : ¬ nodeOK (b.getD 0 0) ([] : List EntD) := fun hT => by
      have hw : w1 = 0 := by rw [hw1]; unfold encC; rw [if_pos hT]
      subst hM
      rw [hw, eqSelf'] at h3
      cases h3
     show ((0, [], unit), (5 : Int)) = decN b
     exact (decN_no hz rfl hRS (fun h => hT h.1)).symm
    have hT : nodeOK (b.getD 0 0) ([] : List EntD) := by
     by_cases hT : nodeOK (b.getD 0 0) ([] : List EntD)
     ·exact hT
     ·exfalso
      have hw : w1 = 5 := by rw [hw1]; unfold encC; rw [if_neg hT]
      have : real.dec (real.eq w1 0) = false := by
       cases hd : real.dec (real.eq w1 0) with
       | true =>
        have hd' : w1 = 0 := dec_iff.1 hd
        omega
       | false => rfl
      subst hM
      rw [this] at h3
      cases h3
    clear h3
    refine ⟨fun _ => True.intro, ?_⟩
    rintro ⟨(y : Bool), ⟨⟩⟩ x3 (hy : y = true ↔ w0 = b) - -
    cbv
    refine splM (fun h3 => ?_) (fun h3 => ?_) <;> cbv
    ·rintro -
     have hE : ¬ encN (b.getD 0 0) ([] : List EntD) = b := fun hE => by
      have hyt : y = true := hy.2 (hw0.trans hE)
      subst hyt; subst hM
      cases h3
     show ((0, [], unit), (5 : Int)) = decN b
     exact (decN_no hz rfl hRS (fun h => hE h.2)).symm
    ·rintro -
     have hE : encN (b.getD 0 0) ([] : List EntD) = b := by
      have hyt : y = true := by cases y <;> first | rfl | (subst hM; cases h3)
      exact hw0.symm.trans (hy.1 hyt)
     subst hM
     show ((wrap .i64 (b.getD 0 0), (([] : List EntD) : List EntD), unit), (0 : Int)) = decN b
     rw [hk64]
     exact (decN_ok hz rfl hRS hT hE).symm
  ·have hcn : i = cnt b 5 := by
    (try simp only [jqn] at hj); (try simp only [jqi] at hj)
    have h1' : ¬ j < wrap .i64 (b.getD 1 0) := by
     subst hM
     intro hh
     have : real.dec (real.lt j (wrap .i64 (b.getD 1 0))) = true := dec_iff.2 hh
     exact absurd (this.symm.trans h1) (by decide)
    rw [hn64] at h1'
    unfold cnt at hi ⊢
    omega
   clear h1
   have hRS : ([] : List EntD) = readCuts b (cnt b 5) := by rw [← hcn, hi0]; rfl
   refine ⟨fun _ => (by show (([] : List EntD) : List EntD).length ≤ 1048576; simp), ?_⟩
   rintro ⟨(w0 : List Int), (w1 : Int), ⟨⟩⟩ x2 hw - -
   obtain ⟨hw0, hw1⟩ : w0 = encN (b.getD 0 0) ([] : List EntD) ∧ w1 = encC (nodeOK (b.getD 0 0) ([] : List EntD)) := by
    subst hM
    have g : w0 = encN (wrap .i64 (b.getD 0 0)) ([] : List EntD) ∧ w1 = encC (nodeOK (wrap .i64 (b.getD 0 0)) ([] : List EntD)) := hw
    rw [hk64] at g
    exact g
   clear hw
   cbv
   refine splM (fun h3 => ?_) (fun h3 => ?_) <;> cbv
   ·rintro -
    have hT : ¬ nodeOK (b.getD 0 0) ([] : List EntD) := fun hT => by
     have hw : w1 = 0 := by rw [hw1]; unfold encC; rw [if_pos hT]
     subst hM
     rw [hw, eqSelf'] at h3
     cases h3
    show ((0, [], unit), (5 : Int)) = decN b
    exact (decN_no hz rfl hRS (fun h => hT h.1)).symm
   have hT : nodeOK (b.getD 0 0) ([] : List EntD) := by
    by_cases hT : nodeOK (b.getD 0 0) ([] : List EntD)
    ·exact hT
    ·exfalso
     have hw : w1 = 5 := by rw [hw1]; unfold encC; rw [if_neg hT]
     have : real.dec (real.eq w1 0) = false := by
      cases hd : real.dec (real.eq w1 0) with
      | true =>
       have hd' : w1 = 0 := dec_iff.1 hd
       omega
      | false => rfl
     subst hM
     rw [this] at h3
     cases h3
   clear h3
   refine ⟨fun _ => True.intro, ?_⟩
   rintro ⟨(y : Bool), ⟨⟩⟩ x3 (hy : y = true ↔ w0 = b) - -
   cbv
   refine splM (fun h3 => ?_) (fun h3 => ?_) <;> cbv
   ·rintro -
    have hE : ¬ encN (b.getD 0 0) ([] : List EntD) = b := fun hE => by
     have hyt : y = true := hy.2 (hw0.trans hE)
     subst hyt; subst hM
     cases h3
    show ((0, [], unit), (5 : Int)) = decN b
    exact (decN_no hz rfl hRS (fun h => hE h.2)).symm
   ·rintro -
    have hE : encN (b.getD 0 0) ([] : List EntD) = b := by
     have hyt : y = true := by cases y <;> first | rfl | (subst hM; cases h3)
     exact hw0.symm.trans (hy.1 hyt)
    subst hM
    show ((wrap .i64 (b.getD 0 0), (([] : List EntD) : List EntD), unit), (0 : Int)) = decN b
    rw [hk64]
    exact (decN_ok hz rfl hRS hT hE).symm
 ·cbv
  refine ⟨by (try subst hM); (try simp only [jqn] at *); (try simp only [jqi] at *); (try simp only [real, jq1, jq2, jq3, jq4, jq5, jq6, sEq_dec, Bool.not_true, Bool.not_false, gt_iff_lt, ge_iff_le] at *); omega, by (try subst hM); (try simp only [jqn] at *); (try simp only [jqi] at *); (try simp only [real, jq1, jq2, jq3, jq4, jq5, jq6, sEq_dec, Bool.not_true, Bool.not_false, gt_iff_lt, ge_iff_le] at *); omega, ?_⟩
  refine splM (fun h1 => ?_) (fun h1 => ?_) <;> cbv
  ·refine splM (fun h2 => ?_) (fun h2 => ?_) <;> cbv
   ·(try simp only [jqn] at hj); (try simp only [jqi] at hj)
    have hin : i < cnt b 5 := by
     have h1' : j < wrap .i64 (b.getD 1 0) := by subst hM; exact dec_iff.1 h1
     have h2' : j < 5 := by subst hM; exact dec_iff.1 h2
     rw [hn64] at h1'
     unfold cnt
     omega
    have hlt : cnt b 5 - (i + 1) < cnt b 5 - i := by omega
    have hc5 : cnt b 5 ≤ 5 := by unfold cnt; omega
    have hj1 : wrap .i64 (j + 1) = ((i + 1 : Nat) : Int) := by rw [hj, w64 (by omega)]; omega
    have e4 : wrap .i64 (4 + wrap .i64 (24 * j)) = 4 + 24 * (i : Int) := by rw [hj, w64 (x := 24 * (i : Int)) (by omega), w64 (by omega)]
    have e17 : wrap .i64 (wrap .i64 (4 + wrap .i64 (24 * j)) + 13) = 17 + 24 * (i : Int) := by rw [e4, w64 (by omega)]; omega
    have hA4 : (4 + 24 * (i : Int)).toNat = 4 + 24 * i := by omega
    have hA17 : (17 + 24 * (i : Int)).toNat = 17 + 24 * i := by omega
    clear h1 h2
    refine ⟨fun _ => ?_, ?_⟩
    ·subst hM
     show b.length ≤ 1048576 ∧ 0 ≤ wrap .i64 (4 + wrap .i64 (24 * j)) ∧ (0 : Int) ≤ 12 ∧ (12 : Int) ≤ 12 ∧ wrap .i64 (4 + wrap .i64 (24 * j)) + 1 + 12 ≤ (b.length : Int)
     rw [e4]; omega
    rintro ⟨(ky : ByteArray), ⟨⟩⟩ q1 hk' - -
    have hk : ky = textAt b (4 + 24 * i) 12 := by
     subst hM
     have g : ky = textAt b (wrap .i64 (4 + wrap .i64 (24 * j))).toNat (12 : Int).toNat := hk'
     rw [e4, hA4] at g
     exact g
    clear hk'
    cbv
    refine splM (fun h => ?_) (fun h => ?_) <;> cbv
    ·have hk1 : b.getD 0 0 = 1 := by
      subst hM
      have : wrap .i64 (b.getD 0 0) = 1 := dec_iff.1 h
      rwa [hk64] at this
     clear h
     refine ⟨fun _ => ?_, ?_⟩
     ·subst hM
      show b.length ≤ 1048576 ∧ 0 ≤ wrap .i64 (wrap .i64 (4 + wrap .i64 (24 * j)) + 13) ∧ (0 : Int) ≤ 10 ∧ (10 : Int) ≤ 12 ∧ wrap .i64 (wrap .i64 (4 + wrap .i64 (24 * j)) + 13) + 1 + 10 ≤ (b.length : Int)
      rw [e17]; omega
     rintro ⟨(vl : ByteArray), ⟨⟩⟩ q2 hv' - -
     have hv : vl = textAt b (17 + 24 * i) 10 := by
      subst hM
      have g : vl = textAt b (wrap .i64 (wrap .i64 (4 + wrap .i64 (24 * j)) + 13)).toNat (10 : Int).toNat := hv'
      rw [e17, hA17] at g
      exact g
     clear hv'
     cbv
     have hE : (ky, vl, (0 : Int), unit) = readCut b i := by
      unfold readCut
      rw [if_pos hk1, if_pos hk1, hk, hv]
     refine ⟨?_, cnt b 5 - (i + 1), hlt, i + 1, _, ⟨?_, hin⟩, rfl, .inr ⟨_, ?_, rfl⟩⟩
     ·subst hM
      show (xs : List EntD).length + 1 ≤ 2 ^ 36
      rw [show xs.length = i from by rw [hx, readCuts_len]]; omega
     ·subst hM; exact hj1
     ·subst hM
      show xs ++ [(ky, vl, (0 : Int), unit)] = _
      rw [readCuts_succ, hE, hx]
    ·have hk1 : ¬ b.getD 0 0 = 1 := by
      subst hM
      intro hh
      have : real.dec (real.eq (wrap .i64 (b.getD 0 0)) 1) = true := dec_iff.2 (show wrap .i64 (b.getD 0 0) = 1 by rw [hk64]; exact hh)
      exact absurd (this.symm.trans h) (by decide)
     clear h
     refine ⟨fun _ => ?_, ?_⟩
     ·subst hM
      show b.length ≤ 1048576 ∧ 0 ≤ wrap .i64 (wrap .i64 (4 + wrap .i64 (24 * j)) + 13) ∧ (0 : Int) ≤ 2 ∧ (2 : Int) ≤ 8 ∧ wrap .i64 (wrap .i64 (4 + wrap .i64 (24 * j)) + 13) + 2 ≤ (b.length : Int)
      rw [e17]; omega
     rintro ⟨(ch : Int), ⟨⟩⟩ q2 hv' - -
     have hv : ch = nm b (17 + 24 * i) 2 := by
      subst hM
      have g : ch = nm b (wrap .i64 (wrap .i64 (4 + wrap .i64 (24 * j)) + 13)).toNat (2 : Int).toNat := hv'
      rw [e17, hA17] at g
      exact g
     clear hv'
     cbv
     have hE : (ky, (⟨#[]⟩ : ByteArray), ch, unit) = readCut b i := by
      unfold readCut
      rw [if_neg hk1, if_neg hk1, hk, hv]
     refine ⟨?_, cnt b 5 - (i + 1), hlt, i + 1, _, ⟨?_, hin⟩, rfl, .inr ⟨_, ?_, rfl⟩⟩
     ·subst hM
      show (xs : List EntD).length + 1 ≤ 2 ^ 36
      rw [show xs.length = i from by rw [hx, readCuts_len]]; omega
     ·subst hM; exact hj1
     ·subst hM
      show xs ++ [(ky, (⟨#[]⟩ : ByteArray), ch, unit)] = _
      rw [readCuts_succ, hE, hx]
   ·have hcn : i = cnt b 5 := by
     (try simp only [jqn] at hj); (try simp only [jqi] at hj)
     have h2' : ¬ j < 5 := by
      subst hM
      intro hh
      have : real.dec (real.lt j 5) = true := dec_iff.2 hh
      exact absurd (this.symm.trans h2) (by decide)
     unfold cnt at hi ⊢
     omega
    clear h1 h2
    have hRS : xs = readCuts b (cnt b 5) := by rw [← hcn]; exact hx
    refine ⟨fun _ => (by show (xs : List EntD).length ≤ 1048576; rw [show xs.length = i from by rw [hx, readCuts_len]]; unfold cnt at hi; omega), ?_⟩
    rintro ⟨(w0 : List Int), (w1 : Int), ⟨⟩⟩ x2 hw - -
    obtain ⟨hw0, hw1⟩ : w0 = encN (b.getD 0 0) xs ∧ w1 = encC (nodeOK (b.getD 0 0) xs) := by
     subst hM
     have g : w0 = encN (wrap .i64 (b.getD 0 0)) xs ∧ w1 = encC (nodeOK (wrap .i64 (b.getD 0 0)) xs) := hw
     rw [hk64] at g
     exact g
    clear hw
    cbv
    refine splM (fun h3 => ?_) (fun h3 => ?_) <;> cbv
    ·rintro -
     have hT : ¬ nodeOK (b.getD 0 0) xs := fun hT => by
      have hw : w1 = 0 := by rw [hw1]; unfold encC; rw [if_pos hT]
      subst hM
      rw [hw, eqSelf'] at h3
      cases h3
     show ((0, [], unit), (5 : Int)) = decN b
     exact (decN_no hz rfl hRS (fun h => hT h.1)).symm
    have hT : nodeOK (b.getD 0 0) xs := by
     by_cases hT : nodeOK (b.getD 0 0) xs
     ·exact hT
     ·exfalso
      have hw : w1 = 5 := by rw [hw1]; unfold encC; rw [if_neg hT]
      have : real.dec (real.eq w1 0) = false := by
       cases hd : real.dec (real.eq w1 0) with
       | true =>
        have hd' : w1 = 0 := dec_iff.1 hd
        omega
       | false => rfl
      subst hM
      rw [this] at h3
      cases h3
    clear h3
    refine ⟨fun _ => True.intro, ?_⟩
    rintro ⟨(y : Bool), ⟨⟩⟩ x3 (hy : y = true ↔ w0 = b) - -
    cbv
    refine splM (fun h3 => ?_) (fun h3 => ?_) <;> cbv
    ·rintro -
     have hE : ¬ encN (b.getD 0 0) xs = b := fun hE => by
      have hyt : y = true := hy.2 (hw0.trans hE)
      subst hyt; subst hM
      cases h3
     show ((0, [], unit), (5 : Int)) = decN b
     exact (decN_no hz rfl hRS (fun h => hE h.2)).symm
    ·rintro -
     have hE : encN (b.getD 0 0) xs = b := by
      have hyt : y = true := by cases y <;> first | rfl | (subst hM; cases h3)
      exact hw0.symm.trans (hy.1 hyt)
     subst hM
     show ((wrap .i64 (b.getD 0 0), (xs : List EntD), unit), (0 : Int)) = decN b
     rw [hk64]
     exact (decN_ok hz rfl hRS hT hE).symm
  ·have hcn : i = cnt b 5 := by
    (try simp only [jqn] at hj); (try simp only [jqi] at hj)
    have h1' : ¬ j < wrap .i64 (b.getD 1 0) := by
     subst hM
     intro hh
     have : real.dec (real.lt j (wrap .i64 (b.getD 1 0))) = true := dec_iff.2 hh
     exact absurd (this.symm.trans h1) (by decide)
    rw [hn64] at h1'
    unfold cnt at hi ⊢
    omega
   clear h1
   have hRS : xs = readCuts b (cnt b 5) := by rw [← hcn]; exact hx
   refine ⟨fun _ => (by show (xs : List EntD).length ≤ 1048576; rw [show xs.length = i from by rw [hx, readCuts_len]]; unfold cnt at hi; omega), ?_⟩
   rintro ⟨(w0 : List Int), (w1 : Int), ⟨⟩⟩ x2 hw - -
   obtain ⟨hw0, hw1⟩ : w0 = encN (b.getD 0 0) xs ∧ w1 = encC (nodeOK (b.getD 0 0) xs) := by
    subst hM
    have g : w0 = encN (wrap .i64 (b.getD 0 0)) xs ∧ w1 = encC (nodeOK (wrap .i64 (b.getD 0 0)) xs) := hw
    rw [hk64] at g
    exact g
   clear hw
   cbv
   refine splM (fun h3 => ?_) (fun h3 => ?_) <;> cbv
   ·rintro -
    have hT : ¬ nodeOK (b.getD 0 0) xs := fun hT => by
     have hw : w1 = 0 := by rw [hw1]; unfold encC; rw [if_pos hT]
     subst hM
     rw [hw, eqSelf'] at h3
     cases h3
    show ((0, [], unit), (5 : Int)) = decN b
    exact (decN_no hz rfl hRS (fun h => hT h.1)).symm
   have hT : nodeOK (b.getD 0 0) xs := by
    by_cases hT : nodeOK (b.getD 0 0) xs
    ·exact hT
    ·exfalso
     have hw : w1 = 5 := by rw [hw1]; unfold encC; rw [if_neg hT]
     have : real.dec (real.eq w1 0) = false := by
      cases hd : real.dec (real.eq w1 0) with
      | true =>
       have hd' : w1 = 0 := dec_iff.1 hd
       omega
      | false => rfl
     subst hM
     rw [this] at h3
     cases h3
   clear h3
   refine ⟨fun _ => True.intro, ?_⟩
   rintro ⟨(y : Bool), ⟨⟩⟩ x3 (hy : y = true ↔ w0 = b) - -
   cbv
   refine splM (fun h3 => ?_) (fun h3 => ?_) <;> cbv
   ·rintro -
    have hE : ¬ encN (b.getD 0 0) xs = b := fun hE => by
     have hyt : y = true := hy.2 (hw0.trans hE)
     subst hyt; subst hM
     cases h3
    show ((0, [], unit), (5 : Int)) = decN b
    exact (decN_no hz rfl hRS (fun h => hE h.2)).symm
   ·rintro -
    have hE : encN (b.getD 0 0) xs = b := by
     have hyt : y = true := by cases y <;> first | rfl | (subst hM; cases h3)
     exact hw0.symm.trans (hy.1 hyt)
    subst hM
    show ((wrap .i64 (b.getD 0 0), (xs : List EntD), unit), (0 : Int)) = decN b
    rw [hk64]
    exact (decN_ok hz rfl hRS hT hE).symm
end Go.Proofs.YtmjeghlfmhbjdaaDoor.EngTab
