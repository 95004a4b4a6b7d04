/- The law FnBlocks: turned bits. No condition. -/
import Derived.Test.YtmjeghlfmhbjdaaDoorL0
import Derived.Test.YtmjeghlfmhbjdaaDoorL9
namespace Go.Proofs.YtmjeghlfmhbjdaaDoor.EngTab
open Go.Proofs.YtmjeghlfmhbjdaaDoor.Eng
set_option maxRecDepth 100000
set_option linter.unusedVariables false
set_option linter.unusedSimpArgs false
set_option maxHeartbeats 16000000 in
theorem law_4 (g : Sen) (code more : List Int) (Γ : Ctx) (hI : I3 g code more Γ) (hwf : CtxWF Γ) : vc real tabE (C3 g) lv3 hd3 (rst 12 code3) (Q3 g code more) Γ := by
 obtain ⟨nb, tb, sb, c, c5, hml, hnl, hsl, hnz, htz, hsz, hΓ⟩ := hI
 have hin : ∀ (P : Prop), (∀ ex R, (0, Ch.row 0 (.int .u8) nb) ∈ R → (1, Ch.row 0 (.int .u8) tb) ∈ R → (2, Ch.row 0 (.int .u8) sb) ∈ R → Γ.roots = R → (1, SV.pv [] (.sl (.int .u8)) more) ∈ ex → Γ.slots = ex → P) → P := by
  intro P h
  rcases hΓ with ⟨s1, s2, s3, s4, sr, x23, ex, rfl⟩ | ⟨ex, rfl⟩
  ·exact h _ _ (by simp) (by simp) (by simp) rfl (by simp) rfl
  ·exact h _ _ (by simp) (by simp) (by simp) rfl (by simp) rfl
 have hmo : ∀ x ∈ more, 0 ≤ x ∧ x ≤ 255 := hin _ fun ex R _ _ _ _ h1 h2 => inB (hwf.1 (1, SV.pv [] (.sl (.int .u8)) more) (by rw [h2]; exact h1))
 have hnB : ∀ x ∈ nb, 0 ≤ x ∧ x ≤ 255 := hin _ fun ex R h1 _ _ h2 _ _ => inB (hwf.2 (0, Ch.row 0 (.int .u8) nb) (by rw [h2]; exact h1))
 have htB : ∀ x ∈ tb, 0 ≤ x ∧ x ≤ 255 := hin _ fun ex R _ h1 _ h2 _ _ => inB (hwf.2 (1, Ch.row 0 (.int .u8) tb) (by rw [h2]; exact h1))
 have hsB : ∀ x ∈ sb, 0 ≤ x ∧ x ≤ 255 := hin _ fun ex R _ _ h1 h2 _ _ => inB (hwf.2 (2, Ch.row 0 (.int .u8) sb) (by rw [h2]; exact h1))
 clear hin hwf
 generalize hM : real = M
 apply cut0
 ·intro key
  rcases hΓ with ⟨s1, s2, s3, s4, sr, x23, ex, rfl⟩ | ⟨ex, rfl⟩ <;> (cbv; exact key)
 refine ⟨fun m Γ => ∃ (j : Int) (i : Nat) (ex : List (Nat × SV)), j = i ∧ m = 30 - i ∧ i ≤ 30 ∧ Γ = ⟨318, (1, .pv [] (.sl (.int .u8)) more) :: (6, .pv [] (.int .i64) c) :: (7, .ref 0) :: (13, .ref 1) :: (18, .pv [] (.int .i64) c5) :: (19, .ref 2) :: (24, .pv [] (.int .i64) j) :: ex, [(0, .row 0 (.int .u8) nb), (1, .row 0 (.int .u8) tb), (2, .row 0 (.int .u8) sb), (1000000, .glob g.gl4)], [.hole 0, .hole 0]⟩, ⟨_, 0, 0, [], rfl, rfl, Nat.zero_le _, rfl⟩, ?_⟩
 rintro m _ ⟨j, i, ex2, hj, rfl, hi, rfl⟩ -
 cbv
 refine splM (fun h2 => ?_) (fun h2 => ?_) <;> cbv
 ·refine splM (fun h3 => ?_) (fun h3 => ?_) <;> cbv
  ·have hin : i < 30 ∧ i < more.length := by
    subst hM
    have h4 : j < 30 := dec_iff.1 h2
    have h5 : j < (more.length : Int) := dec_iff.1 h3
    rw [hj] at h4 h5
    exact ⟨Int.ofNat_lt.1 h4, Int.ofNat_lt.1 h5⟩
   clear h2 h3
   (try simp only [jqn] at hj); (try simp only [jqi] at hj)
   have hjw : IntKind.wrap .i64 (j + 1) = ((i + 1 : Nat) : Int) := by rw [hj, w64 (by omega)]; omega
   have hb0 : M.le 0 j := by subst hM; show 0 ≤ j; rw [hj]; exact Int.natCast_nonneg _
   have hb1 : M.lt j (M.ofN (M.len more)) := by subst hM; show j < (more.length : Int); rw [hj]; exact Int.ofNat_lt.2 hin.2
   have h128 : M.eq 128 0 → False := by subst hM; show (128 : Int) = 0 → False; decide
   have h8 : M.eq 8 0 → False := by subst hM; show (8 : Int) = 0 → False; decide
   have hx : 0 ≤ more.getD j.toNat 0 ∧ more.getD j.toNat 0 ≤ 255 := by
    have hjn : j.toNat < more.length := by rw [hj]; simpa using hin.2
    rw [List.getD_eq_getElem?_getD, List.getElem?_eq_getElem hjn]
    exact hmo _ (List.getElem_mem hjn)
   have hsh : M.le 0 (M.wrap .u64 (M.rem (M.wrap .i64 (M.get more j 0)) 8)) := by subst hM; exact sh_ok hx
   have hAr := at_ok hx hj hin.1
   have hBr := bit_ok hx
   have htl : tb.length = 128 := sum0_len htz
   have hA0 : M.le 0 (M.rem (M.wrap .i64 (M.add (M.wrap .i64 (M.get more j 0)) (M.wrap .i64 (M.mul 97 j)))) 128) := by subst hM; exact hAr.1
   have hAt : ∀ b : List Int, b.length = 128 → M.lt (M.rem (M.wrap .i64 (M.add (M.wrap .i64 (M.get more j 0)) (M.wrap .i64 (M.mul 97 j)))) 128) (M.ofN (M.len b)) := fun b hb => by subst hM; show _ < (b.length : Int); rw [hb]; exact hAr.2
   refine ⟨hb0, hb1, h128, hb0, hb1, h8, hsh, fun _ => (by show tb.length ≤ 1048576; omega), ?_⟩
   rintro ⟨(t : List Int), ⟨⟩⟩ z0 (ht : t = tb) - -
   cbv
   obtain rfl : t = tb := ht
   have hFl : ∀ b : List Int, (∀ x ∈ b, 0 ≤ x ∧ x ≤ 255) → sumC b = 0 → sumC (M.set b (M.rem (M.wrap .i64 (M.add (M.wrap .i64 (M.get more j 0)) (M.wrap .i64 (M.mul 97 j)))) 128) (M.bit .xor .u8 (M.get b (M.rem (M.wrap .i64 (M.add (M.wrap .i64 (M.get more j 0)) (M.wrap .i64 (M.mul 97 j)))) 128) 0) (M.shl .u8 1 (M.wrap .u64 (M.rem (M.wrap .i64 (M.get more j 0)) 8))))) = 6 ∧ (M.set b (M.rem (M.wrap .i64 (M.add (M.wrap .i64 (M.get more j 0)) (M.wrap .i64 (M.mul 97 j)))) 128) (M.bit .xor .u8 (M.get b (M.rem (M.wrap .i64 (M.add (M.wrap .i64 (M.get more j 0)) (M.wrap .i64 (M.mul 97 j)))) 128) 0) (M.shl .u8 1 (M.wrap .u64 (M.rem (M.wrap .i64 (M.get more j 0)) 8))))).length = 128 := fun b h1 h2 => by subst hM; exact flipped h1 h2 (sum0_len h2) hAr hBr
   have h6 : M.not (M.dec (M.eq 6 6)) = false := by subst hM; exact nE 6
   have hlt : 30 - (i + 1) < 30 - i := by omega
   have hj1 : M.wrap .i64 (M.add j 1) = ((i + 1 : Nat) : Int) := by
    subst hM
    exact hjw
   have c0 : M.dec (M.eq c 0) = true → c = 0 := fun h => by subst hM; exact eD h
   have c50 : M.dec (M.eq c5 0) = true → c5 = 0 := fun h => by subst hM; exact eD h
   refine ⟨hA0, hAt _ htl, hA0, hAt _ htl, hA0, hAt _ htl, hA0, hAt _ htl, fun _ => ?_, ?_⟩
   ·show (M.set t (M.rem (M.wrap .i64 (M.add (M.wrap .i64 (M.get more j 0)) (M.wrap .i64 (M.mul 97 j)))) 128) (M.bit .xor .u8 (M.get t (M.rem (M.wrap .i64 (M.add (M.wrap .i64 (M.get more j 0)) (M.wrap .i64 (M.mul 97 j)))) 128) 0) (M.shl .u8 1 (M.wrap .u64 (M.rem (M.wrap .i64 (M.get more j 0)) 8))))).length ≤ 1048576
    rw [(hFl t htB htz).2]; omega
   rintro ⟨⟨(t1 : Int), (t2 : List RunD), ⟨⟩⟩, (e : Int), ⟨⟩⟩ z1 (hT : ((t1, t2, PUnit.unit), e) = decT (M.set t (M.rem (M.wrap .i64 (M.add (M.wrap .i64 (M.get more j 0)) (M.wrap .i64 (M.mul 97 j)))) 128) (M.bit .xor .u8 (M.get t (M.rem (M.wrap .i64 (M.add (M.wrap .i64 (M.get more j 0)) (M.wrap .i64 (M.mul 97 j)))) 128) 0) (M.shl .u8 1 (M.wrap .u64 (M.rem (M.wrap .i64 (M.get more j 0)) 8)))))) - -
   cbv
   obtain rfl : e = 6 := (congrArg (·.2) (hT.trans (decT_sum (hFl t htB htz).1 (by decide)) : _ = _))
   refine splM (fun h => (ff h6 h).elim) (fun _ => ?_) <;> cbv
   refine splM (fun hc => ?_) (fun hc => ?_) <;> cbv
   ·skip
    have hznb : sumC nb = 0 := hnz (c0 hc)
    have hlnb : nb.length = 128 := sum0_len hznb
    refine ⟨fun _ => (by show nb.length ≤ 1048576; omega), ?_⟩
    rintro ⟨(x : List Int), ⟨⟩⟩ y0 (hx0 : x = nb) - -
    cbv
    obtain rfl : x = nb := hx0
    refine ⟨hA0, hAt _ hlnb, hA0, hAt _ hlnb, hA0, hAt _ hlnb, hA0, hAt _ hlnb, fun _ => ?_, ?_⟩
    ·show (M.set x (M.rem (M.wrap .i64 (M.add (M.wrap .i64 (M.get more j 0)) (M.wrap .i64 (M.mul 97 j)))) 128) (M.bit .xor .u8 (M.get x (M.rem (M.wrap .i64 (M.add (M.wrap .i64 (M.get more j 0)) (M.wrap .i64 (M.mul 97 j)))) 128) 0) (M.shl .u8 1 (M.wrap .u64 (M.rem (M.wrap .i64 (M.get more j 0)) 8))))).length ≤ 1048576
     rw [(hFl x hnB hznb).2]; omega
    rintro ⟨⟨(k1 : Int), (k2 : List EntD), ⟨⟩⟩, (e : Int), ⟨⟩⟩ y1 (hT2 : ((k1, k2, PUnit.unit), e) = decN (M.set x (M.rem (M.wrap .i64 (M.add (M.wrap .i64 (M.get more j 0)) (M.wrap .i64 (M.mul 97 j)))) 128) (M.bit .xor .u8 (M.get x (M.rem (M.wrap .i64 (M.add (M.wrap .i64 (M.get more j 0)) (M.wrap .i64 (M.mul 97 j)))) 128) 0) (M.shl .u8 1 (M.wrap .u64 (M.rem (M.wrap .i64 (M.get more j 0)) 8)))))) - -
    cbv
    obtain rfl : e = 6 := (congrArg (·.2) (hT2.trans (decN_sum (hFl x hnB hznb).1 (by decide)) : _ = _))
    refine splM (fun h => (ff h6 h).elim) (fun _ => ?_) <;> cbv
    refine splM (fun hc => ?_) (fun hc => ?_) <;> cbv
    ·skip
     have hzsb : sumC sb = 0 := hsz (c50 hc)
     have hlsb : sb.length = 128 := sum0_len hzsb
     refine ⟨fun _ => (by show sb.length ≤ 1048576; omega), ?_⟩
     rintro ⟨(x : List Int), ⟨⟩⟩ y0 (hx0 : x = sb) - -
     cbv
     obtain rfl : x = sb := hx0
     refine ⟨hA0, hAt _ hlsb, hA0, hAt _ hlsb, hA0, hAt _ hlsb, hA0, hAt _ hlsb, fun _ => ?_, ?_⟩
     ·show (M.set x (M.rem (M.wrap .i64 (M.add (M.wrap .i64 (M.get more j 0)) (M.wrap .i64 (M.mul 97 j)))) 128) (M.bit .xor .u8 (M.get x (M.rem (M.wrap .i64 (M.add (M.wrap .i64 (M.get more j 0)) (M.wrap .i64 (M.mul 97 j)))) 128) 0) (M.shl .u8 1 (M.wrap .u64 (M.rem (M.wrap .i64 (M.get more j 0)) 8))))).length ≤ 1048576
      rw [(hFl x hsB hzsb).2]; omega
     rintro ⟨⟨(k1 : Int), (k2 : Int), (k3 : Int), (k4 : Int), (k5 : List RootD), ⟨⟩⟩, (e : Int), ⟨⟩⟩ y1 (hT2 : ((k1, k2, k3, k4, k5, PUnit.unit), e) = decS (M.set x (M.rem (M.wrap .i64 (M.add (M.wrap .i64 (M.get more j 0)) (M.wrap .i64 (M.mul 97 j)))) 128) (M.bit .xor .u8 (M.get x (M.rem (M.wrap .i64 (M.add (M.wrap .i64 (M.get more j 0)) (M.wrap .i64 (M.mul 97 j)))) 128) 0) (M.shl .u8 1 (M.wrap .u64 (M.rem (M.wrap .i64 (M.get more j 0)) 8)))))) - -
     cbv
     obtain rfl : e = 6 := (congrArg (·.2) (hT2.trans (decS_sum (hFl x hsB hzsb).1 (by decide)) : _ = _))
     refine splM (fun h => (ff h6 h).elim) (fun _ => ?_) <;> cbv
     refine ⟨_, hlt, M.wrap .i64 (M.add j 1), i + 1, [], hj1, rfl, hin.1, ?_⟩
     cbv
    ·skip
     refine ⟨_, hlt, M.wrap .i64 (M.add j 1), i + 1, [], hj1, rfl, hin.1, ?_⟩
     cbv
   ·skip
    refine splM (fun hc => ?_) (fun hc => ?_) <;> cbv
    ·skip
     have hzsb : sumC sb = 0 := hsz (c50 hc)
     have hlsb : sb.length = 128 := sum0_len hzsb
     refine ⟨fun _ => (by show sb.length ≤ 1048576; omega), ?_⟩
     rintro ⟨(x : List Int), ⟨⟩⟩ y0 (hx0 : x = sb) - -
     cbv
     obtain rfl : x = sb := hx0
     refine ⟨hA0, hAt _ hlsb, hA0, hAt _ hlsb, hA0, hAt _ hlsb, hA0, hAt _ hlsb, fun _ => ?_, ?_⟩
     ·show (M.set x (M.rem (M.wrap .i64 (M.add (M.wrap .i64 (M.get more j 0)) (M.wrap .i64 (M.mul 97 j)))) 128) (M.bit .xor .u8 (M.get x (M.rem (M.wrap .i64 (M.add (M.wrap .i64 (M.get more j 0)) (M.wrap .i64 (M.mul 97 j)))) 128) 0) (M.shl .u8 1 (M.wrap .u64 (M.rem (M.wrap .i64 (M.get more j 0)) 8))))).length ≤ 1048576
      rw [(hFl x hsB hzsb).2]; omega
     rintro ⟨⟨(k1 : Int), (k2 : Int), (k3 : Int), (k4 : Int), (k5 : List RootD), ⟨⟩⟩, (e : Int), ⟨⟩⟩ y1 (hT2 : ((k1, k2, k3, k4, k5, PUnit.unit), e) = decS (M.set x (M.rem (M.wrap .i64 (M.add (M.wrap .i64 (M.get more j 0)) (M.wrap .i64 (M.mul 97 j)))) 128) (M.bit .xor .u8 (M.get x (M.rem (M.wrap .i64 (M.add (M.wrap .i64 (M.get more j 0)) (M.wrap .i64 (M.mul 97 j)))) 128) 0) (M.shl .u8 1 (M.wrap .u64 (M.rem (M.wrap .i64 (M.get more j 0)) 8)))))) - -
     cbv
     obtain rfl : e = 6 := (congrArg (·.2) (hT2.trans (decS_sum (hFl x hsB hzsb).1 (by decide)) : _ = _))
     refine splM (fun h => (ff h6 h).elim) (fun _ => ?_) <;> cbv
     refine ⟨_, hlt, M.wrap .i64 (M.add j 1), i + 1, [], hj1, rfl, hin.1, ?_⟩
     cbv
    ·skip
     refine ⟨_, hlt, M.wrap .i64 (M.add j 1), i + 1, [], hj1, rfl, hin.1, ?_⟩
     cbv
  ·exact fun _ => rfl
 ·exact fun _ => rfl
end Go.Proofs.YtmjeghlfmhbjdaaDoor.EngTab
