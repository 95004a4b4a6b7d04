/- Contracts: impl.text and impl.readNode. -/
import Derived.Test.YtmjeghlfmhbjdaaDoorR4
namespace Go.Proofs.YtmjeghlfmhbjdaaDoor.EngTab
open Go.Proofs.YtmjeghlfmhbjdaaDoor.Eng
open PUnit (unit)
open IntKind (wrap)
set_option maxRecDepth 100000
set_option linter.unusedVariables false
set_option linter.unusedSimpArgs false
noncomputable def textAt (b : List Int) (a w : Nat) : ByteArray := real.ofB ((b.drop (a + 1)).take (min (b.getD a 0).toNat w))
def c61 : Con := Con.of ⟨[(false, 0, tyB), (false, 0, .int .i64)], [(0, .str), (0, .bool)], fun x => x.1.length ≤ 1048576 ∧ 0 ≤ x.2.1 ∧ x.2.1 ≤ 12 ∧ x.2.1 + 1 ≤ x.1.length, fun x y _ => (x.2.1 < x.1.getD 0 0 → y.2.1 = false) ∧ (x.1.getD 0 0 ≤ x.2.1 → y.2.1 = true ∧ y.1 = textAt x.1 0 x.2.1.toNat)⟩
theorem ok61 : FnOK Tryd.prog 61 c61 := by
 refine FnOK.of_vc mixed tabOk .nil Tryd.func61 rfl (by decide) lv61 hd61 ?_
 rintro ⟨(b : List Int), (w : Int), ⟨⟩⟩ ⟨(hl : b.length ≤ 1048576), (h0 : 0 ≤ w), (h1 : w ≤ 12), (h2 : w + 1 ≤ b.length)⟩ hwf
 have hB : ∀ x ∈ b, 0 ≤ x ∧ x ≤ 255 := inB hwf.1
 have hby := byte_of hB 0
 generalize hM : real = M
 cbv
 have hn64 : wrap .i64 (b.getD 0 0) = b.getD 0 0 := w64 (by omega)
 have hl1 : (0 : Int) < (b.length : Int) := by
  (try simp only [jqn] at h2); (try simp only [jqi] at h2)
  omega
 refine ⟨by (try subst hM); (try simp only [jqn] at *); (try simp only [jqi] at *); (try simp only [real, jq1, jq2, jq3, jq4, jq5, jq6, sEq_dec, Bool.not_true, Bool.not_false, gt_iff_lt, ge_iff_le] at *); omega, by subst hM; exact hl1, ?_⟩
 refine splM (fun h => ?_) (fun h => ?_) <;> cbv
 ·rintro -
  have hlt : w < b.getD 0 0 := by
   subst hM
   have : w < wrap .i64 (b.getD 0 0) := dec_iff.1 h
   rwa [hn64] at this
  exact ⟨fun _ => rfl, fun hh => absurd hlt (by show ¬ w < b.getD 0 0; have : b.getD 0 0 ≤ w := hh; omega)⟩
 ·have hle : b.getD 0 0 ≤ w := by
   subst hM
   have hn : ¬ w < wrap .i64 (b.getD 0 0) := by
    intro hh
    have : real.dec (real.lt w (wrap .i64 (b.getD 0 0))) = true := dec_iff.2 hh
    exact absurd (this.symm.trans h) (by decide)
   rw [hn64] at hn
   omega
  (try simp only [jqn] at h2); (try simp only [jqi] at h2)
  have e1 : wrap .i64 (1 + b.getD 0 0) = 1 + b.getD 0 0 := w64 (by omega)
  have hge : (1 : Int) ≤ 1 + b.getD 0 0 := by omega
  have hle2 : 1 + b.getD 0 0 ≤ (b.length : Int) := by omega
  have hmin : min (b.getD 0 0).toNat w.toNat = (1 + b.getD 0 0).toNat - 1 := by omega
  subst hM
  refine ⟨?_, ?_, ?_, fun _ => ⟨fun hh => ?_, fun _ => ⟨rfl, ?_⟩⟩⟩
  ·show (0 : Int) ≤ 1
   decide
  ·show (1 : Int) ≤ wrap .i64 (1 + wrap .i64 (b.getD 0 0))
   rw [hn64, e1]; exact hge
  ·show wrap .i64 (1 + wrap .i64 (b.getD 0 0)) ≤ (b.length : Int)
   rw [hn64, e1]; exact hle2
  ·have : w < b.getD 0 0 := hh
   omega
  ·show real.ofB (real.cut b 1 (wrap .i64 (1 + wrap .i64 (b.getD 0 0)))) = textAt b 0 w.toNat
   rw [hn64, e1]
   unfold textAt
   rw [hmin]; rfl
def entOf (b : List Int) (i : Nat) : Prop := b.getD (4 + 24 * i) 0 ≤ 12 ∧ (b.getD 0 0 = 2 ∨ b.getD (17 + 24 * i) 0 ≤ 10)
noncomputable def readEnt (b : List Int) (i : Nat) : EntD := (textAt b (4 + 24 * i) 12, if b.getD 0 0 = 2 then ⟨#[]⟩ else textAt b (17 + 24 * i) 10, if b.getD 0 0 = 2 then nm b (17 + 24 * i) 2 else 0, ())
noncomputable def readEnts (b : List Int) (n : Nat) : List EntD := (List.range n).map (readEnt b)
theorem readEnts_succ (b : List Int) (n : Nat) : readEnts b (n + 1) = readEnts b n ++ [readEnt b n] := by simp [readEnts, List.range_succ]
theorem readEnts_len (b : List Int) (n : Nat) : (readEnts b n).length = n := by simp [readEnts]
open Classical in
noncomputable def readNod (b : List Int) : Form4 :=
 if 5 < b.getD 1 0 then nilF else if ∀ i, i < (b.getD 1 0).toNat → entOf b i then
  if b.getD 0 0 = 2 then .inr (.inr (.inr (.inl (((b.getD 0 0, b.getD 1 0, ()), readEnts b (b.getD 1 0).toNat, ()), ())))) else .inr (.inr (.inl (((b.getD 0 0, b.getD 1 0, ()), readEnts b (b.getD 1 0).toNat, ()), ())))
 else nilF
theorem textAt_drop {b : List Int} {a c w : Nat} : textAt (b.drop a) c w = textAt b (a + c) w := by
 unfold textAt
 rw [List.drop_drop, List.getD_eq_getElem?_getD, List.getElem?_drop, List.getD_eq_getElem?_getD]; rfl
def c48 : Con := Con.of ⟨[(false, 0, tyB)], [(1, tyF4)], fun x => x.1.length = 128, fun x y _ => y.1 = readNod x.1⟩
set_option maxHeartbeats 8000000 in
theorem ok48 : FnOK Tryd.prog 48 c48 := by
 refine FnOK.of_vc mixed tabM4Ok (.cons en47 ok47 (.cons en61 ok61 .nil)) Tryd.func48 rfl (by decide) lv48 hd48 ?_
 rintro ⟨(b : List Int), ⟨⟩⟩ (hl : b.length = 128) hwf
 have hB : ∀ x ∈ b, 0 ≤ x ∧ x ≤ 255 := inB hwf.1
 have hby := byte_of hB 1
 have hby0 := byte_of hB 0
 generalize hM : real = M
 cbv
 refine ⟨by (try subst hM); (try simp only [jqn] at *); (try simp only [jqi] at *); (try simp only [real, jq1, jq2, jq3, jq4, jq5, jq6, sEq_dec, Bool.not_true, Bool.not_false, gt_iff_lt, ge_iff_le] at *); omega, by (try subst hM); (try simp only [jqn] at *); (try simp only [jqi] at *); (try simp only [real, jq1, jq2, jq3, jq4, jq5, jq6, sEq_dec, Bool.not_true, Bool.not_false, gt_iff_lt, ge_iff_le] at *); omega, ?_⟩
 refine splM (fun h => ?_) (fun h => ?_) <;> cbv
 ·rintro -
  have h' : 5 < b.getD 1 0 := by
   subst hM
   have : (5 : Int) < wrap .i64 (b.getD 1 0) := dec_iff.1 h
   rw [w64 (by omega)] at this
   exact this
  show nilF = readNod b
  unfold readNod
  rw [if_pos h']
 have h20 : b.getD 1 0 ≤ 5 := by
  subst hM
  have hn : ¬ (5 : Int) < wrap .i64 (b.getD 1 0) := by
   intro hh
   have : real.dec (real.lt 5 (wrap .i64 (b.getD 1 0))) = true := dec_iff.2 hh
   exact absurd (this.symm.trans h) (by decide)
  rw [w64 (by omega)] at hn
  omega
 have hn64 : wrap .i64 (b.getD 1 0) = b.getD 1 0 := w64 (by omega)
 have hk64 : wrap .i64 (b.getD 0 0) = b.getD 0 0 := w64 (by omega)
 clear h
 refine ⟨by (try subst hM); (try simp only [jqn] at *); (try simp only [jqi] at *); (try simp only [real, jq1, jq2, jq3, jq4, jq5, jq6, sEq_dec, Bool.not_true, Bool.not_false, gt_iff_lt, ge_iff_le] at *); omega, by (try subst hM); (try simp only [jqn] at *); (try simp only [jqi] at *); (try simp only [real, jq1, jq2, jq3, jq4, jq5, jq6, sEq_dec, Bool.not_true, Bool.not_false, gt_iff_lt, ge_iff_le] at *); omega, ?_⟩
 refine ⟨fun m Γ => ∃ (i : Nat) (j : Int), (j = i ∧ i ≤ (b.getD 1 0).toNat) ∧ (∀ k, k < i → entOf b k) ∧ m = (b.getD 1 0).toNat - i ∧ ((i = 0 ∧ Γ = ⟨75, [(0, .pv [] tyB b), (4, .ad 0 tyNF 0 []), (23, .pv [] (.int .i64) (M.wrap .i64 (M.get b 1 0))), (24, .pv [] (.int .i64) j)], [(0, .box (.consA (.consA (.pv [] (.int .i64) (M.wrap .i64 (M.get b 0 0))) (.consA (.pv [] (.int .i64) (M.wrap .i64 (M.get b 1 0))) .nilA)) (.consA .nils .nilA)))], [.hole 0]⟩) ∨
  ∃ xs, xs = readEnts b i ∧ Γ = ⟨75, [(0, .pv [] tyB b), (4, .ad 0 tyNF 0 []), (23, .pv [] (.int .i64) (M.wrap .i64 (M.get b 1 0))), (24, .pv [] (.int .i64) j)], [(0, .box (.consA (.consA (.pv [] (.int .i64) (M.wrap .i64 (M.get b 0 0))) (.consA (.pv [] (.int .i64) (M.wrap .i64 (M.get b 1 0))) .nilA)) (.consA (.ref 3) .nilA))), (3, .row 0 tyEnt xs)], [.hole 0]⟩), ⟨_, 0, 0, ⟨rfl, Nat.zero_le _⟩, by omega, rfl, .inl ⟨rfl, rfl⟩⟩, ?_⟩
 rintro m _ ⟨i, j, ⟨hj, hi⟩, hent, rfl, (⟨hi0, rfl⟩ | ⟨xs, hx, rfl⟩)⟩ - <;> cbv
 ·refine splM (fun h => ?_) (fun h => ?_) <;> cbv
  ·have hin : i < (b.getD 1 0).toNat := by
    (try simp only [jqn] at hj); (try simp only [jqi] at hj)
    have h1' : j < wrap .i64 (b.getD 1 0) := by subst hM; exact dec_iff.1 h
    rw [hn64] at h1'
    omega
   (try simp only [jqn] at hj); (try simp only [jqi] at hj)
   have hlt : (b.getD 1 0).toNat - (i + 1) < (b.getD 1 0).toNat - i := by omega
   have hj1 : wrap .i64 (j + 1) = ((i + 1 : Nat) : Int) := by rw [hj, w64 (by omega)]; omega
   have e4 : wrap .i64 (4 + wrap .i64 (24 * j)) = 4 + 24 * (i : Int) := by rw [hj, w64 (x := 24 * (i : Int)) (by omega), w64 (by omega)]
   have hA0 : 0 ≤ 4 + 24 * (i : Int) := by omega
   have hA1 : 4 + 24 * (i : Int) ≤ (b.length : Int) := by omega
   have hAn : (4 + 24 * (i : Int)).toNat = 4 + 24 * i := by omega
   have hi4 : i ≤ 4 := by omega
   have hX0 : (real.cut b (wrap .i64 (4 + wrap .i64 (24 * j))) (real.ofN (real.len b))) = b.drop (4 + 24 * i) := by rw [cut_all, e4, hAn]
   have hX13 : (real.cut (real.cut b (wrap .i64 (4 + wrap .i64 (24 * j))) (real.ofN (real.len b))) 13 (real.ofN (real.len (real.cut b (wrap .i64 (4 + wrap .i64 (24 * j))) (real.ofN (real.len b)))))) = b.drop (17 + 24 * i) := by
    rw [hX0, cut_all, List.drop_drop, show 4 + 24 * i + (13 : Int).toNat = 17 + 24 * i from by omega]
   clear hj h
   refine ⟨?_, ?_, ?_, ?_⟩
   ·subst hM
    show 0 ≤ wrap .i64 (4 + wrap .i64 (24 * j))
    rw [e4]; exact hA0
   ·subst hM
    show wrap .i64 (4 + wrap .i64 (24 * j)) ≤ (b.length : Int)
    rw [e4]; exact hA1
   ·subst hM; exact Int.le_refl _
   refine ⟨fun _ => ?_, ?_⟩
   ·subst hM
    show (real.cut b (wrap .i64 (4 + wrap .i64 (24 * j))) (real.ofN (real.len b))).length ≤ 1048576 ∧ (0 : Int) ≤ 12 ∧ (12 : Int) ≤ 12 ∧ (12 : Int) + 1 ≤ ((real.cut b (wrap .i64 (4 + wrap .i64 (24 * j))) (real.ofN (real.len b))).length : Int)
    rw [hX0, List.length_drop, hl]; omega
   rintro ⟨(ky : ByteArray), (ok : Bool), ⟨⟩⟩ q1 hk' - -
   have hk : ((12 : Int) < b.getD (4 + 24 * i) 0 → ok = false) ∧ (b.getD (4 + 24 * i) 0 ≤ 12 → ok = true ∧ ky = textAt b (4 + 24 * i) 12) := by
    subst hM
    have g : ((12 : Int) < (real.cut b (wrap .i64 (4 + wrap .i64 (24 * j))) (real.ofN (real.len b))).getD 0 0 → ok = false) ∧ ((real.cut b (wrap .i64 (4 + wrap .i64 (24 * j))) (real.ofN (real.len b))).getD 0 0 ≤ 12 → ok = true ∧ ky = textAt (real.cut b (wrap .i64 (4 + wrap .i64 (24 * j))) (real.ofN (real.len b))) 0 12) := hk'
    rw [hX0, textAt_drop] at g
    have eg : (b.drop (4 + 24 * i)).getD 0 0 = b.getD (4 + 24 * i) 0 := by rw [List.getD_eq_getElem?_getD, List.getElem?_drop, List.getD_eq_getElem?_getD]; rfl
    rw [eg] at g
    exact g
   clear hk'
   cbv
   refine splM (fun h => ?_) (fun h => ?_) <;> cbv
   ·rintro -
    have hok : ok = false := by cases ok <;> first | rfl | (subst hM; cases h)
    have hbig : ¬ b.getD (4 + 24 * i) 0 ≤ 12 := fun hh => by
     have := (hk.2 hh).1
     rw [hok] at this
     cases this
    show nilF = readNod b
    unfold readNod
    rw [if_neg (by omega), if_neg (fun hall => hbig (hall i hin).1)]
   have hok : ok = true := by cases ok <;> first | rfl | (subst hM; cases h)
   subst hok
   have hky : b.getD (4 + 24 * i) 0 ≤ 12 ∧ ky = textAt b (4 + 24 * i) 12 := by
    by_cases hh : b.getD (4 + 24 * i) 0 ≤ 12
    ·exact ⟨hh, (hk.2 hh).2⟩
    ·have := hk.1 (by omega)
     cases this
   clear hk h
   refine splM (fun h => ?_) (fun h => ?_) <;> cbv
   ·have hk2 : b.getD 0 0 = 2 := by
     subst hM
     have : wrap .i64 (b.getD 0 0) = 2 := dec_iff.1 h
     rwa [hk64] at this
    refine ⟨?_, ?_, ?_, ?_⟩
    ·subst hM; show (0 : Int) ≤ 13; decide
    ·subst hM
     show (13 : Int) ≤ ((real.cut b (wrap .i64 (4 + wrap .i64 (24 * j))) (real.ofN (real.len b))).length : Int)
     rw [hX0, List.length_drop, hl]; omega
    ·subst hM; exact Int.le_refl _
    refine ⟨fun _ => ?_, ?_⟩
    ·subst hM
     show (real.cut (real.cut b (wrap .i64 (4 + wrap .i64 (24 * j))) (real.ofN (real.len b))) 13 (real.ofN (real.len (real.cut b (wrap .i64 (4 + wrap .i64 (24 * j))) (real.ofN (real.len b)))))).length ≤ 1048576 ∧ (0 : Int) ≤ 2 ∧ (2 : Int) ≤ 8 ∧ (2 : Int) ≤ ((real.cut (real.cut b (wrap .i64 (4 + wrap .i64 (24 * j))) (real.ofN (real.len b))) 13 (real.ofN (real.len (real.cut b (wrap .i64 (4 + wrap .i64 (24 * j))) (real.ofN (real.len b)))))).length : Int)
     rw [hX13, List.length_drop, hl]; omega
    rintro ⟨(ch : Int), ⟨⟩⟩ q2 hch' - -
    have hch : ch = nm b (17 + 24 * i) 2 := by
     subst hM
     have g : ch = nm (real.cut (real.cut b (wrap .i64 (4 + wrap .i64 (24 * j))) (real.ofN (real.len b))) 13 (real.ofN (real.len (real.cut b (wrap .i64 (4 + wrap .i64 (24 * j))) (real.ofN (real.len b)))))) 0 2 := hch'
     rw [hX13, nm_drop] at g
     exact g
    clear hch' h
    cbv
    have hE : (ky, (⟨#[]⟩ : ByteArray), ch, unit) = readEnt b i := by
     unfold readEnt
     rw [if_pos hk2, if_pos hk2, hky.2, hch]
    have hent1 : ∀ k, k < i + 1 → entOf b k := fun k hk => by
     by_cases hk3 : k < i
     ·exact hent k hk3
     ·obtain rfl : k = i := by omega
      exact ⟨hky.1, .inl hk2⟩
    refine ⟨?_, (b.getD 1 0).toNat - (i + 1), hlt, i + 1, _, ⟨?_, hin⟩, hent1, rfl, .inr ⟨_, ?_, rfl⟩⟩
    ·subst hM
     show ([] : List EntD).length + 1 ≤ 2 ^ 36
     simp
    ·subst hM; exact hj1
    ·subst hM
     show [] ++ [(ky, (⟨#[]⟩ : ByteArray), ch, unit)] = _
     rw [readEnts_succ, hE, hi0]; rfl
   ·have hk2 : ¬ b.getD 0 0 = 2 := by
     subst hM
     intro hh
     have : real.dec (real.eq (wrap .i64 (b.getD 0 0)) 2) = true := dec_iff.2 (show wrap .i64 (b.getD 0 0) = 2 by rw [hk64]; exact hh)
     exact absurd (this.symm.trans h) (by decide)
    refine ⟨?_, ?_, ?_, ?_⟩
    ·subst hM; show (0 : Int) ≤ 13; decide
    ·subst hM
     show (13 : Int) ≤ ((real.cut b (wrap .i64 (4 + wrap .i64 (24 * j))) (real.ofN (real.len b))).length : Int)
     rw [hX0, List.length_drop, hl]; omega
    ·subst hM; exact Int.le_refl _
    refine ⟨fun _ => ?_, ?_⟩
    ·subst hM
     show (real.cut (real.cut b (wrap .i64 (4 + wrap .i64 (24 * j))) (real.ofN (real.len b))) 13 (real.ofN (real.len (real.cut b (wrap .i64 (4 + wrap .i64 (24 * j))) (real.ofN (real.len b)))))).length ≤ 1048576 ∧ (0 : Int) ≤ 10 ∧ (10 : Int) ≤ 12 ∧ (10 : Int) + 1 ≤ ((real.cut (real.cut b (wrap .i64 (4 + wrap .i64 (24 * j))) (real.ofN (real.len b))) 13 (real.ofN (real.len (real.cut b (wrap .i64 (4 + wrap .i64 (24 * j))) (real.ofN (real.len b)))))).length : Int)
     rw [hX13, List.length_drop, hl]; omega
    rintro ⟨(vl : ByteArray), (ok : Bool), ⟨⟩⟩ q2 hv' - -
    have hv : ((10 : Int) < b.getD (17 + 24 * i) 0 → ok = false) ∧ (b.getD (17 + 24 * i) 0 ≤ 10 → ok = true ∧ vl = textAt b (17 + 24 * i) 10) := by
     subst hM
     have g : ((10 : Int) < (real.cut (real.cut b (wrap .i64 (4 + wrap .i64 (24 * j))) (real.ofN (real.len b))) 13 (real.ofN (real.len (real.cut b (wrap .i64 (4 + wrap .i64 (24 * j))) (real.ofN (real.len b)))))).getD 0 0 → ok = false) ∧ ((real.cut (real.cut b (wrap .i64 (4 + wrap .i64 (24 * j))) (real.ofN (real.len b))) 13 (real.ofN (real.len (real.cut b (wrap .i64 (4 + wrap .i64 (24 * j))) (real.ofN (real.len b)))))).getD 0 0 ≤ 10 → ok = true ∧ vl = textAt (real.cut (real.cut b (wrap .i64 (4 + wrap .i64 (24 * j))) (real.ofN (real.len b))) 13 (real.ofN (real.len (real.cut b (wrap .i64 (4 + wrap .i64 (24 * j))) (real.ofN (real.len b)))))) 0 10) := hv'
     rw [hX13, textAt_drop] at g
     have eg : (b.drop (17 + 24 * i)).getD 0 0 = b.getD (17 + 24 * i) 0 := by rw [List.getD_eq_getElem?_getD, List.getElem?_drop, List.getD_eq_getElem?_getD]; rfl
     rw [eg] at g
     exact g
    clear hv' h
    cbv
    refine splM (fun h => ?_) (fun h => ?_) <;> cbv
    ·rintro -
     have hok : ok = false := by cases ok <;> first | rfl | (subst hM; cases h)
     have hbig : ¬ b.getD (17 + 24 * i) 0 ≤ 10 := fun hh => by
      have := (hv.2 hh).1
      rw [hok] at this
      cases this
     show nilF = readNod b
     unfold readNod
     rw [if_neg (by omega), if_neg (fun hall => by
      rcases (hall i hin).2 with h2 | h2
      ·exact hk2 h2
      ·exact hbig h2)]
    have hok : ok = true := by cases ok <;> first | rfl | (subst hM; cases h)
    subst hok
    have hvl : b.getD (17 + 24 * i) 0 ≤ 10 ∧ vl = textAt b (17 + 24 * i) 10 := by
     by_cases hh : b.getD (17 + 24 * i) 0 ≤ 10
     ·exact ⟨hh, (hv.2 hh).2⟩
     ·have := hv.1 (by omega)
      cases this
    clear hv h
    have hE : (ky, vl, (0 : Int), unit) = readEnt b i := by
     unfold readEnt
     rw [if_neg hk2, if_neg hk2, hky.2, hvl.2]
    have hent1 : ∀ k, k < i + 1 → entOf b k := fun k hk => by
     by_cases hk3 : k < i
     ·exact hent k hk3
     ·obtain rfl : k = i := by omega
      exact ⟨hky.1, .inr hvl.1⟩
    refine ⟨?_, (b.getD 1 0).toNat - (i + 1), hlt, i + 1, _, ⟨?_, hin⟩, hent1, rfl, .inr ⟨_, ?_, rfl⟩⟩
    ·subst hM
     show ([] : List EntD).length + 1 ≤ 2 ^ 36
     simp
    ·subst hM; exact hj1
    ·subst hM
     show [] ++ [(ky, vl, (0 : Int), unit)] = _
     rw [readEnts_succ, hE, hi0]; rfl
  ·have hin : i = (b.getD 1 0).toNat := by
    (try simp only [jqn] at hj); (try simp only [jqi] at hj)
    have h1' : ¬ j < wrap .i64 (b.getD 1 0) := by
     subst hM
     intro hh
     have : real.dec (real.lt j (wrap .i64 (b.getD 1 0))) = true := dec_iff.2 hh
     exact absurd (this.symm.trans h) (by decide)
    rw [hn64] at h1'
    omega
   have hRS : ([] : List EntD) = readEnts b (b.getD 1 0).toNat := by rw [← hin, hi0]; rfl
   have hall : ∀ k, k < (b.getD 1 0).toNat → entOf b k := hin ▸ hent
   clear h hj
   refine splM (fun h => ?_) (fun h => ?_) <;> cbv
   ·rintro -
    have hk2 : b.getD 0 0 = 2 := by
     subst hM
     have : wrap .i64 (b.getD 0 0) = 2 := dec_iff.1 h
     rwa [hk64] at this
    subst hM
    show (Sum.inr (Sum.inr (Sum.inr (Sum.inl (((wrap .i64 (b.getD 0 0), wrap .i64 (b.getD 1 0), unit), ([] : List EntD), unit), unit)))) : Form4) = readNod b
    unfold readNod
    rw [if_neg (by omega), if_pos hall, if_pos hk2, hn64, hk64, hRS]
   ·rintro -
    have hk2 : ¬ b.getD 0 0 = 2 := by
     subst hM
     intro hh
     have : real.dec (real.eq (wrap .i64 (b.getD 0 0)) 2) = true := dec_iff.2 (show wrap .i64 (b.getD 0 0) = 2 by rw [hk64]; exact hh)
     exact absurd (this.symm.trans h) (by decide)
    subst hM
    show (Sum.inr (Sum.inr (Sum.inl (((wrap .i64 (b.getD 0 0), wrap .i64 (b.getD 1 0), unit), ([] : List EntD), unit), unit))) : Form4) = readNod b
    unfold readNod
    rw [if_neg (by omega), if_pos hall, if_neg hk2, hn64, hk64, hRS]
 ·refine splM (fun h => ?_) (fun h => ?_) <;> cbv
  ·have hin : i < (b.getD 1 0).toNat := by
    (try simp only [jqn] at hj); (try simp only [jqi] at hj)
    have h1' : j < wrap .i64 (b.getD 1 0) := by subst hM; exact dec_iff.1 h
    rw [hn64] at h1'
    omega
   (try simp only [jqn] at hj); (try simp only [jqi] at hj)
   have hlt : (b.getD 1 0).toNat - (i + 1) < (b.getD 1 0).toNat - i := by omega
   have hj1 : wrap .i64 (j + 1) = ((i + 1 : Nat) : Int) := by rw [hj, w64 (by omega)]; omega
   have e4 : wrap .i64 (4 + wrap .i64 (24 * j)) = 4 + 24 * (i : Int) := by rw [hj, w64 (x := 24 * (i : Int)) (by omega), w64 (by omega)]
   have hA0 : 0 ≤ 4 + 24 * (i : Int) := by omega
   have hA1 : 4 + 24 * (i : Int) ≤ (b.length : Int) := by omega
   have hAn : (4 + 24 * (i : Int)).toNat = 4 + 24 * i := by omega
   have hi4 : i ≤ 4 := by omega
   have hX0 : (real.cut b (wrap .i64 (4 + wrap .i64 (24 * j))) (real.ofN (real.len b))) = b.drop (4 + 24 * i) := by rw [cut_all, e4, hAn]
   have hX13 : (real.cut (real.cut b (wrap .i64 (4 + wrap .i64 (24 * j))) (real.ofN (real.len b))) 13 (real.ofN (real.len (real.cut b (wrap .i64 (4 + wrap .i64 (24 * j))) (real.ofN (real.len b)))))) = b.drop (17 + 24 * i) := by
    rw [hX0, cut_all, List.drop_drop, show 4 + 24 * i + (13 : Int).toNat = 17 + 24 * i from by omega]
   clear hj h
   refine ⟨?_, ?_, ?_, ?_⟩
   ·subst hM
    show 0 ≤ wrap .i64 (4 + wrap .i64 (24 * j))
    rw [e4]; exact hA0
   ·subst hM
    show wrap .i64 (4 + wrap .i64 (24 * j)) ≤ (b.length : Int)
    rw [e4]; exact hA1
   ·subst hM; exact Int.le_refl _
   refine ⟨fun _ => ?_, ?_⟩
   ·subst hM
    show (real.cut b (wrap .i64 (4 + wrap .i64 (24 * j))) (real.ofN (real.len b))).length ≤ 1048576 ∧ (0 : Int) ≤ 12 ∧ (12 : Int) ≤ 12 ∧ (12 : Int) + 1 ≤ ((real.cut b (wrap .i64 (4 + wrap .i64 (24 * j))) (real.ofN (real.len b))).length : Int)
    rw [hX0, List.length_drop, hl]; omega
   rintro ⟨(ky : ByteArray), (ok : Bool), ⟨⟩⟩ q1 hk' - -
   have hk : ((12 : Int) < b.getD (4 + 24 * i) 0 → ok = false) ∧ (b.getD (4 + 24 * i) 0 ≤ 12 → ok = true ∧ ky = textAt b (4 + 24 * i) 12) := by
    subst hM
    have g : ((12 : Int) < (real.cut b (wrap .i64 (4 + wrap .i64 (24 * j))) (real.ofN (real.len b))).getD 0 0 → ok = false) ∧ ((real.cut b (wrap .i64 (4 + wrap .i64 (24 * j))) (real.ofN (real.len b))).getD 0 0 ≤ 12 → ok = true ∧ ky = textAt (real.cut b (wrap .i64 (4 + wrap .i64 (24 * j))) (real.ofN (real.len b))) 0 12) := hk'
    rw [hX0, textAt_drop] at g
    have eg : (b.drop (4 + 24 * i)).getD 0 0 = b.getD (4 + 24 * i) 0 := by rw [List.getD_eq_getElem?_getD, List.getElem?_drop, List.getD_eq_getElem?_getD]; rfl
    rw [eg] at g
    exact g
   clear hk'
   cbv
   refine splM (fun h => ?_) (fun h => ?_) <;> cbv
   ·rintro -
    have hok : ok = false := by cases ok <;> first | rfl | (subst hM; cases h)
    have hbig : ¬ b.getD (4 + 24 * i) 0 ≤ 12 := fun hh => by
     have := (hk.2 hh).1
     rw [hok] at this
     cases this
    show nilF = readNod b
    unfold readNod
    rw [if_neg (by omega), if_neg (fun hall => hbig (hall i hin).1)]
   have hok : ok = true := by cases ok <;> first | rfl | (subst hM; cases h)
   subst hok
   have hky : b.getD (4 + 24 * i) 0 ≤ 12 ∧ ky = textAt b (4 + 24 * i) 12 := by
    by_cases hh : b.getD (4 + 24 * i) 0 ≤ 12
    ·exact ⟨hh, (hk.2 hh).2⟩
    ·have := hk.1 (by omega)
     cases this
   clear hk h
   refine splM (fun h => ?_) (fun h => ?_) <;> cbv
   ·have hk2 : b.getD 0 0 = 2 := by
     subst hM
     have : wrap .i64 (b.getD 0 0) = 2 := dec_iff.1 h
     rwa [hk64] at this
    refine ⟨?_, ?_, ?_, ?_⟩
    ·subst hM; show (0 : Int) ≤ 13; decide
    ·subst hM
     show (13 : Int) ≤ ((real.cut b (wrap .i64 (4 + wrap .i64 (24 * j))) (real.ofN (real.len b))).length : Int)
     rw [hX0, List.length_drop, hl]; omega
    ·subst hM; exact Int.le_refl _
    refine ⟨fun _ => ?_, ?_⟩
    ·subst hM
     show (real.cut (real.cut b (wrap .i64 (4 + wrap .i64 (24 * j))) (real.ofN (real.len b))) 13 (real.ofN (real.len (real.cut b (wrap .i64 (4 + wrap .i64 (24 * j))) (real.ofN (real.len b)))))).length ≤ 1048576 ∧ (0 : Int) ≤ 2 ∧ (2 : Int) ≤ 8 ∧ (2 : Int) ≤ ((real.cut (real.cut b (wrap .i64 (4 + wrap .i64 (24 * j))) (real.ofN (real.len b))) 13 (real.ofN (real.len (real.cut b (wrap .i64 (4 + wrap .i64 (24 * j))) (real.ofN (real.len b)))))).length : Int)
     rw [hX13, List.length_drop, hl]; omega
    rintro ⟨(ch : Int), ⟨⟩⟩ q2 hch' - -
    have hch : ch = nm b (17 + 24 * i) 2 := by
     subst hM
     have g : ch = nm (real.cut (real.cut b (wrap .i64 (4 + wrap .i64 (24 * j))) (real.ofN (real.len b))) 13 (real.ofN (real.len (real.cut b (wrap .i64 (4 + wrap .i64 (24 * j))) (real.ofN (real.len b)))))) 0 2 := hch'
     rw [hX13, nm_drop] at g
     exact g
    clear hch' h
    cbv
    have hE : (ky, (⟨#[]⟩ : ByteArray), ch, unit) = readEnt b i := by
     unfold readEnt
     rw [if_pos hk2, if_pos hk2, hky.2, hch]
    have hent1 : ∀ k, k < i + 1 → entOf b k := fun k hk => by
     by_cases hk3 : k < i
     ·exact hent k hk3
     ·obtain rfl : k = i := by omega
      exact ⟨hky.1, .inl hk2⟩
    refine ⟨?_, (b.getD 1 0).toNat - (i + 1), hlt, i + 1, _, ⟨?_, hin⟩, hent1, rfl, .inr ⟨_, ?_, rfl⟩⟩
    ·subst hM
     show (xs : List EntD).length + 1 ≤ 2 ^ 36
     rw [show xs.length = i from by rw [hx, readEnts_len]]; omega
    ·subst hM; exact hj1
    ·subst hM
     show xs ++ [(ky, (⟨#[]⟩ : ByteArray), ch, unit)] = _
     rw [readEnts_succ, hE, hx]
   ·have hk2 : ¬ b.getD 0 0 = 2 := by
     subst hM
     intro hh
     have : real.dec (real.eq (wrap .i64 (b.getD 0 0)) 2) = true := dec_iff.2 (show wrap .i64 (b.getD 0 0) = 2 by rw [hk64]; exact hh)
     exact absurd (this.symm.trans h) (by decide)
    refine ⟨?_, ?_, ?_, ?_⟩
    ·subst hM; show (0 : Int) ≤ 13; decide
    ·subst hM
     show (13 : Int) ≤ ((real.cut b (wrap .i64 (4 + wrap .i64 (24 * j))) (real.ofN (real.len b))).length : Int)
     rw [hX0, List.length_drop, hl]; omega
    ·subst hM; exact Int.le_refl _
    refine ⟨fun _ => ?_, ?_⟩
    ·subst hM
     show (real.cut (real.cut b (wrap .i64 (4 + wrap .i64 (24 * j))) (real.ofN (real.len b))) 13 (real.ofN (real.len (real.cut b (wrap .i64 (4 + wrap .i64 (24 * j))) (real.ofN (real.len b)))))).length ≤ 1048576 ∧ (0 : Int) ≤ 10 ∧ (10 : Int) ≤ 12 ∧ (10 : Int) + 1 ≤ ((real.cut (real.cut b (wrap .i64 (4 + wrap .i64 (24 * j))) (real.ofN (real.len b))) 13 (real.ofN (real.len (real.cut b (wrap .i64 (4 + wrap .i64 (24 * j))) (real.ofN (real.len b)))))).length : Int)
     rw [hX13, List.length_drop, hl]; omega
    rintro ⟨(vl : ByteArray), (ok : Bool), ⟨⟩⟩ q2 hv' - -
    have hv : ((10 : Int) < b.getD (17 + 24 * i) 0 → ok = false) ∧ (b.getD (17 + 24 * i) 0 ≤ 10 → ok = true ∧ vl = textAt b (17 + 24 * i) 10) := by
     subst hM
     have g : ((10 : Int) < (real.cut (real.cut b (wrap .i64 (4 + wrap .i64 (24 * j))) (real.ofN (real.len b))) 13 (real.ofN (real.len (real.cut b (wrap .i64 (4 + wrap .i64 (24 * j))) (real.ofN (real.len b)))))).getD 0 0 → ok = false) ∧ ((real.cut (real.cut b (wrap .i64 (4 + wrap .i64 (24 * j))) (real.ofN (real.len b))) 13 (real.ofN (real.len (real.cut b (wrap .i64 (4 + wrap .i64 (24 * j))) (real.ofN (real.len b)))))).getD 0 0 ≤ 10 → ok = true ∧ vl = textAt (real.cut (real.cut b (wrap .i64 (4 + wrap .i64 (24 * j))) (real.ofN (real.len b))) 13 (real.ofN (real.len (real.cut b (wrap .i64 (4 + wrap .i64 (24 * j))) (real.ofN (real.len b)))))) 0 10) := hv'
     rw [hX13, textAt_drop] at g
     have eg : (b.drop (17 + 24 * i)).getD 0 0 = b.getD (17 + 24 * i) 0 := by rw [List.getD_eq_getElem?_getD, List.getElem?_drop, List.getD_eq_getElem?_getD]; rfl
     rw [eg] at g
     exact g
    clear hv' h
    cbv
    refine splM (fun h => ?_) (fun h => ?_) <;> cbv
    ·rintro -
     have hok : ok = false := by cases ok <;> first | rfl | (subst hM; cases h)
     have hbig : ¬ b.getD (17 + 24 * i) 0 ≤ 10 := fun hh => by
      have := (hv.2 hh).1
      rw [hok] at this
      cases this
     show nilF = readNod b
     unfold readNod
     rw [if_neg (by omega), if_neg (fun hall => by
      rcases (hall i hin).2 with h2 | h2
      ·exact hk2 h2
      ·exact hbig h2)]
    have hok : ok = true := by cases ok <;> first | rfl | (subst hM; cases h)
    subst hok
    have hvl : b.getD (17 + 24 * i) 0 ≤ 10 ∧ vl = textAt b (17 + 24 * i) 10 := by
     by_cases hh : b.getD (17 + 24 * i) 0 ≤ 10
     ·exact ⟨hh, (hv.2 hh).2⟩
     ·have := hv.1 (by omega)
      cases this
    clear hv h
    have hE : (ky, vl, (0 : Int), unit) = readEnt b i := by
     unfold readEnt
     rw [if_neg hk2, if_neg hk2, hky.2, hvl.2]
    have hent1 : ∀ k, k < i + 1 → entOf b k := fun k hk => by
     by_cases hk3 : k < i
     ·exact hent k hk3
     ·obtain rfl : k = i := by omega
      exact ⟨hky.1, .inr hvl.1⟩
    refine ⟨?_, (b.getD 1 0).toNat - (i + 1), hlt, i + 1, _, ⟨?_, hin⟩, hent1, rfl, .inr ⟨_, ?_, rfl⟩⟩
    ·subst hM
     show (xs : List EntD).length + 1 ≤ 2 ^ 36
     rw [show xs.length = i from by rw [hx, readEnts_len]]; omega
    ·subst hM; exact hj1
    ·subst hM
     show xs ++ [(ky, vl, (0 : Int), unit)] = _
     rw [readEnts_succ, hE, hx]
  ·have hin : i = (b.getD 1 0).toNat := by
    (try simp only [jqn] at hj); (try simp only [jqi] at hj)
    have h1' : ¬ j < wrap .i64 (b.getD 1 0) := by
     subst hM
     intro hh
     have : real.dec (real.lt j (wrap .i64 (b.getD 1 0))) = true := dec_iff.2 hh
     exact absurd (this.symm.trans h) (by decide)
    rw [hn64] at h1'
    omega
   have hRS : xs = readEnts b (b.getD 1 0).toNat := by rw [← hin]; exact hx
   have hall : ∀ k, k < (b.getD 1 0).toNat → entOf b k := hin ▸ hent
   clear h hj
   refine splM (fun h => ?_) (fun h => ?_) <;> cbv
   ·rintro -
    have hk2 : b.getD 0 0 = 2 := by
     subst hM
     have : wrap .i64 (b.getD 0 0) = 2 := dec_iff.1 h
     rwa [hk64] at this
    subst hM
    show (Sum.inr (Sum.inr (Sum.inr (Sum.inl (((wrap .i64 (b.getD 0 0), wrap .i64 (b.getD 1 0), unit), xs, unit), unit)))) : Form4) = readNod b
    unfold readNod
    rw [if_neg (by omega), if_pos hall, if_pos hk2, hn64, hk64, hRS]
   ·rintro -
    have hk2 : ¬ b.getD 0 0 = 2 := by
     subst hM
     intro hh
     have : real.dec (real.eq (wrap .i64 (b.getD 0 0)) 2) = true := dec_iff.2 (show wrap .i64 (b.getD 0 0) = 2 by rw [hk64]; exact hh)
     exact absurd (this.symm.trans h) (by decide)
    subst hM
    show (Sum.inr (Sum.inr (Sum.inl (((wrap .i64 (b.getD 0 0), wrap .i64 (b.getD 1 0), unit), xs, unit), unit))) : Form4) = readNod b
    unfold readNod
    rw [if_neg (by omega), if_pos hall, if_neg hk2, hn64, hk64, hRS]
end Go.Proofs.YtmjeghlfmhbjdaaDoor.EngTab
