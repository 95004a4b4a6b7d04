/- The draws: the source of numbers. -/
import Derived.Test.YtmjeghlfmhbjdaaDoorT2
namespace Go.Proofs.YtmjeghlfmhbjdaaDoor.EngTab
open Go.Proofs.YtmjeghlfmhbjdaaDoor.Eng
open IntKind (wrap)
set_option maxRecDepth 100000
set_option linter.unusedVariables false
set_option linter.unusedSimpArgs false
abbrev tySrc : Ty := .pair tyB (.pair (.int .i64) (.pair (.int .u64) .unit))
abbrev SrcD : Type := List Int × Int × Int × Unit
noncomputable def hashV (b : List Int) : Nat → Int
 | 0 => 1469598103934665603
 | i + 1 => wrap .u64 (real.bit .xor .u64 (hashV b i) (wrap .u64 (b.getD i 0)) * 1099511628211)
noncomputable def beginV (b : List Int) : SrcD := (b, 0, hashV b b.length, ())
def c24 : Con := Con.of ⟨[(false, 0, tyB)], [(0, tySrc)], fun x => x.1.length ≤ 1048576, fun x y _ => y.1 = beginV x.1⟩
theorem ok24 : FnOK Tryd.prog 24 c24 := by
 refine FnOK.of_vc mixed tabOk .nil Tryd.func24 rfl (by decide) lv24 hd24 ?_
 rintro ⟨(b : List Int), ⟨⟩⟩ (hl : b.length ≤ 1048576) hwf
 generalize hM : real = M
 cbv
 refine ⟨fun m Γ => ∃ (i : Nat) (j st : Int), j = i ∧ i ≤ b.length ∧ st = hashV b i ∧ m = b.length - i ∧ Γ = ⟨25, [(0, .pv [] tyB b), (2, .ad 0 tySrc 0 []), (3, .ad 1 tySrc 0 []), (4, .pv [] (.int .i64) j)], [(0, .box (.consA .nils (.consA (.pv [] (.int .i64) 0) (.consA (.pv [] (.int .u64) 0) .nilA)))), (1, .box (.consA (.pv [] tyB b) (.consA (.pv [] (.int .i64) 0) (.consA (.pv [] (.int .u64) st) .nilA))))], [.hole 0]⟩, ⟨_, 0, 0, _, rfl, Nat.zero_le _, rfl, rfl, rfl⟩, ?_⟩
 rintro m _ ⟨i, j, st, hj, hi, hst, rfl, rfl⟩ -
 cbv
 refine splM (fun h => ?_) (fun h => ?_) <;> cbv
 ·have hin : i < b.length := by
   (try subst hM); (try simp only [jqn] at *); (try simp only [jqi] at *); (try simp only [real, jq1, jq2, jq3, jq4, jq5, jq6, sEq_dec, Bool.not_true, Bool.not_false, gt_iff_lt, ge_iff_le] at *)
   omega
  (try simp only [jqn] at hi hj); (try simp only [jqi] at hi hj)
  have hji : j.toNat = i := by rw [hj]; simp
  have hlt : b.length - (i + 1) < b.length - i := by omega
  have hj1 : wrap .i64 (j + 1) = ((i + 1 : Nat) : Int) := by rw [hj, w64 (by omega)]; omega
  repeat' (first | (refine And.intro (fun _ => by first | exact drawRd rfl (by decide +kernel) | exact drawTail (by decide +kernel)) ?_; cbv) | (refine And.intro (by (try subst hM); (try simp only [jqn] at *); (try simp only [jqi] at *); (try simp only [real, jq1, jq2, jq3, jq4, jq5, jq6, sEq_dec, Bool.not_true, Bool.not_false, gt_iff_lt, ge_iff_le] at *); omega) ?_; cbv))
  refine ⟨b.length - (i + 1), hlt, i + 1, _, _, ?_, hin, ?_, rfl, rfl⟩
  ·subst hM; exact hj1
  ·subst hM
   rw [hst]
   show wrap .u64 (real.bit .xor .u64 (hashV b i) (wrap .u64 (b.getD j.toNat 0)) * 1099511628211) = _
   rw [hji]; rfl
 ·rintro -
  have : i = b.length := by
   (try subst hM); (try simp only [jqn] at *); (try simp only [jqi] at *); (try simp only [real, jq1, jq2, jq3, jq4, jq5, jq6, sEq_dec, Bool.not_true, Bool.not_false, gt_iff_lt, ge_iff_le] at *)
   omega
  subst this
  show (b, (0 : Int), st, PUnit.unit) = beginV b
  rw [hst]; rfl
noncomputable def nextV (s : SrcD) (n : Int) : Int × SrcD :=
 if n ≤ 0 then (0, s) else
 if s.2.1 < s.1.length then (wrap .i64 (Int.tmod (real.bit .xor .u64 (real.shr .u64 (wrap .u64 (wrap .u64 (s.2.2.1 * 6364136223846793005) + 1442695040888963407)) 33) (wrap .u64 (s.1.getD s.2.1.toNat 0))) (wrap .u64 n)), (s.1, wrap .i64 (s.2.1 + 1), wrap .u64 (wrap .u64 (s.2.2.1 * 6364136223846793005) + 1442695040888963407), ()))
 else (wrap .i64 (Int.tmod (real.shr .u64 (wrap .u64 (wrap .u64 (s.2.2.1 * 6364136223846793005) + 1442695040888963407)) 33) (wrap .u64 n)), (s.1, s.2.1, wrap .u64 (wrap .u64 (s.2.2.1 * 6364136223846793005) + 1442695040888963407), ()))
def SrcOK (s : SrcD) : Prop := 0 ≤ s.2.1 ∧ s.1.length ≤ 1048576
theorem u64_nn (x : Int) : 0 ≤ wrap .u64 x := by rw [IntKind.wrap_u64]; omega
theorem shr_nn {x : Int} (h : 0 ≤ x) : 0 ≤ real.shr .u64 x 33 := by
 show 0 ≤ x.fdiv (2 ^ (min (33 : Int).toNat 64))
 rw [Int.fdiv_eq_ediv_of_nonneg x (by decide)]
 exact Int.ediv_nonneg h (by decide)
theorem bit_nn (op : BinOp) (x y : Int) : 0 ≤ real.bit op .u64 x y := u64_nn _
theorem mod_rng {x n : Int} (hx : 0 ≤ x) (h0 : 0 < n) (h1 : n ≤ 9223372036854775807) : 0 ≤ wrap .i64 (Int.tmod x (wrap .u64 n)) ∧ wrap .i64 (Int.tmod x (wrap .u64 n)) < n := by
 have hw : wrap .u64 n = n := by rw [IntKind.wrap_u64]; omega
 rw [hw, Int.tmod_eq_emod_of_nonneg hx]
 have e1 := Int.emod_nonneg x (show n ≠ 0 by omega)
 have e2 := Int.emod_lt_of_pos x h0
 rw [w64 (by omega)]
 exact ⟨e1, e2⟩
theorem next_rng (s : SrcD) {n : Int} (h0 : 0 < n) (h1 : n ≤ 9223372036854775807) : 0 ≤ (nextV s n).1 ∧ (nextV s n).1 < n := by
 unfold nextV
 rw [if_neg (by omega)]
 split
 ·exact mod_rng (bit_nn _ _ _) h0 h1
 ·exact mod_rng (shr_nn (u64_nn _)) h0 h1
theorem next_ok {s : SrcD} (h : SrcOK s) (n : Int) : SrcOK (nextV s n).2 := by
 obtain ⟨h1, h2⟩ := h
 unfold nextV
 split
 ·exact ⟨h1, h2⟩
 split
 ·refine ⟨?_, h2⟩
  show 0 ≤ wrap .i64 (s.2.1 + 1)
  rw [w64 (by omega)]; omega
 ·exact ⟨h1, h2⟩
def c26 : Con := Con.of ⟨[(true, 1, .ptr tySrc), (false, 0, .int .i64)], [(0, .int .i64)], fun x => ∃ s, x.1 = some s ∧ SrcOK s, fun x y x' => ∀ s, x.1 = some s → ∃ s' : SrcD, x'.1 = some s' ∧ nextV s x.2.1 = (y.1, s') ∧ SrcOK s' ∧ (0 < x.2.1 → 0 ≤ y.1 ∧ y.1 < x.2.1)⟩
theorem ok26 : FnOK Tryd.prog 26 c26 := by
 refine FnOK.of_vc mixed tabOk .nil Tryd.func26 rfl (by decide) lv26 hd26 ?_
 rintro ⟨(_ | ⟨(b : List Int), (p : Int), (st : Int), ⟨⟩⟩), (n : Int), ⟨⟩⟩ hpre hwf
 ·obtain ⟨s, e, _⟩ := hpre
  cases e
 have hS : SrcOK (b, p, st, PUnit.unit) := by
  obtain ⟨s, e, h⟩ := hpre
  cases e
  exact h
 have hp : 0 ≤ p := hS.1
 clear hpre
 have hp2 : p ≤ 9223372036854775807 := by
  have : InK .i64 p := (hwf.1 _ rfl).2.1
  exact this.2
 have hn : InK .i64 n := hwf.2.1
 have hn2 : n ≤ 9223372036854775807 := hn.2
 have hfin : ∀ y : Int, ∀ s' : SrcD, nextV (b, p, st, PUnit.unit) n = (y, s') → nextV (b, p, st, PUnit.unit) n = (y, s') ∧ SrcOK s' ∧ (0 < n → 0 ≤ y ∧ y < n) := fun y s' e => by
  have h1 := next_ok hS n
  have h2 := @next_rng (b, p, st, PUnit.unit) n
  rw [e] at h1 h2
  exact ⟨e, h1, fun h => h2 h hn2⟩
 generalize hM : real = M
 cbv
 refine splM (fun h => ?_) (fun h => ?_) <;> cbv
 ·rintro - s hs
  have hn0 : n ≤ 0 := by subst hM; exact dec_iff.1 h
  cases hs
  refine ⟨_, rfl, hfin _ _ ?_⟩
  unfold nextV
  rw [if_pos hn0]
 have hn0 : ¬ n ≤ 0 := by
  subst hM
  intro hh
  have : real.dec (real.le n 0) = true := dec_iff.2 hh
  exact absurd (this.symm.trans h) (by decide)
 have hwn : wrap .u64 n = n := by rw [IntKind.wrap_u64]; omega
 have hne : real.eq (wrap .u64 n) 0 → False := fun e => by
  have e' : wrap .u64 n = 0 := e
  omega
 clear h
 refine ⟨by subst hM; show (0 : Int) ≤ 33; omega, (fun _ => by first | exact drawRd rfl (by decide +kernel) | exact drawTail (by decide +kernel)), ?_⟩
 refine splM (fun h => ?_) (fun h => ?_) <;> cbv
 ·have hlt : p < (b.length : Int) := by
   (try subst hM); (try simp only [jqn] at *); (try simp only [jqi] at *); (try simp only [real, jq1, jq2, jq3, jq4, jq5, jq6, sEq_dec, Bool.not_true, Bool.not_false, gt_iff_lt, ge_iff_le] at *)
   omega
  have hpl : p.toNat < b.length := by (try simp only [jqn] at hlt); (try simp only [jqi] at hlt); omega
  repeat' (first | (refine And.intro (fun _ => by first | exact drawRd rfl (by decide +kernel) | exact drawTail (by decide +kernel)) ?_; cbv) | (refine And.intro (by subst hM; first | exact hne | exact hp | exact hlt) ?_; cbv))
  rintro - s hs
  cases hs
  refine ⟨_, rfl, hfin _ _ ?_⟩
  unfold nextV
  subst hM
  rw [if_neg hn0, if_pos hlt]; rfl
 ·have hlt : ¬ p < (b.length : Int) := by
   subst hM
   intro hh
   have : real.dec (real.lt p (b.length : Int)) = true := dec_iff.2 hh
   exact absurd (this.symm.trans h) (by decide)
  repeat' (first | (refine And.intro (fun _ => by first | exact drawRd rfl (by decide +kernel) | exact drawTail (by decide +kernel)) ?_; cbv) | (refine And.intro (by subst hM; first | exact hne | exact hp) ?_; cbv))
  rintro - s hs
  cases hs
  refine ⟨_, rfl, hfin _ _ ?_⟩
  unfold nextV
  subst hM
  rw [if_neg hn0, if_neg hlt]; rfl
theorem begin_ok {b : List Int} (h : b.length ≤ 1048576) : SrcOK (beginV b) := ⟨Int.le_refl _, h⟩
end Go.Proofs.YtmjeghlfmhbjdaaDoor.EngTab
