/- The law FnBlocks: its helpers. -/
import Derived.Test.YtmjeghlfmhbjdaaDoorNS
import Derived.Test.YtmjeghlfmhbjdaaDoorO
namespace Go.Proofs.YtmjeghlfmhbjdaaDoor.EngTab
open Go.Proofs.YtmjeghlfmhbjdaaDoor.Eng
set_option maxRecDepth 100000
set_option linter.unusedVariables false
set_option linter.unusedSimpArgs false
theorem eqSide : ∀ t ∈ [80, 46, 52], EqSide Tryd.prog t := by
 intro t ht
 simp only [List.mem_cons, List.not_mem_nil, or_false] at ht
 rcases ht with rfl | rfl | rfl <;> exact ⟨by kernel_rfl, by kernel_rfl, by kernel_rfl, by kernel_rfl⟩
theorem tabEOk : TabOk Tryd.prog (tab.eqs [80, 46, 52]) := tabOk.eqs eqSide
def c13 : Con := Con.of ⟨[(false, 0, .sl tyRun), (false, 0, .sl tyRun)], [(0, .bool)], fun x => x.1.length ≤ 1048576, fun x y _ => (x.1 = x.2.1 → y.1 = true)⟩
theorem ok13 : FnOK Tryd.prog 13 c13 := by
 refine FnOK.of_vc mixed tabEOk .nil Tryd.func13 rfl (by decide) lv13 hd13 ?_
 rintro ⟨(xs : List RunD), (ys : List RunD), ⟨⟩⟩ (hl : xs.length ≤ 1048576) hwf
 generalize hM : real = M
 cbv
 refine splM (fun h => ?_) (fun h => ?_) <;> cbv
 ·rintro -
  show xs = ys → _
  rintro rfl
  exfalso
  (try subst hM); (try simp only [jqn] at *); (try simp only [jqi] at *); (try simp only [real, jq1, jq2, jq3, jq4, jq5, jq6, sEq_dec, Bool.not_true, Bool.not_false, gt_iff_lt, ge_iff_le] at *)
  exact h trivial
 have hyl : ys.length = xs.length := by
  (try subst hM); (try simp only [jqn] at *); (try simp only [jqi] at *); (try simp only [real, jq1, jq2, jq3, jq4, jq5, jq6, sEq_dec, Bool.not_true, Bool.not_false, gt_iff_lt, ge_iff_le] at *)
  omega
 refine ⟨fun m Γ => ∃ (i : Nat) (j : Int), j = i ∧ i ≤ xs.length ∧ m = xs.length - i ∧ Γ = ⟨26, [(0, .pv [] (.sl tyRun) xs), (1, .pv [] (.sl tyRun) ys), (5, .pv [] (.int .i64) j)], [], [.hole 0, .hole 0]⟩, ⟨_, 0, 0, rfl, Nat.zero_le _, rfl, rfl⟩, ?_⟩
 rintro m _ ⟨i, j, hj, hi, rfl, rfl⟩ -
 cbv
 refine splM (fun h2 => ?_) (fun h2 => ?_) <;> cbv
 ·have hin : i < xs.length := by
   (try subst hM); (try simp only [jqn] at *); (try simp only [jqi] at *); (try simp only [real, jq1, jq2, jq3, jq4, jq5, jq6, sEq_dec, Bool.not_true, Bool.not_false, gt_iff_lt, ge_iff_le] at *)
   omega
  (try simp only [jqn] at hi hj); (try simp only [jqi] at hi hj)
  have hb0 : 0 ≤ j := by omega
  have hb1 : j < (xs.length : Int) := by omega
  have hb2 : j < (ys.length : Int) := by omega
  have hlt : xs.length - (i + 1) < xs.length - i := by omega
  have hj1 : IntKind.wrap .i64 (j + 1) = ((i + 1 : Nat) : Int) := by rw [hj, w64 (by omega)]; omega
  repeat' (first | (refine And.intro (fun _ => by first | exact drawRd rfl (by decide +kernel) | exact drawTail (by decide +kernel)) ?_; cbv) | (refine And.intro (by subst hM; first | exact hb0 | exact hb1 | exact hb2) ?_))
  refine splM (fun h3 => ?_) (fun h3 => ?_) <;> cbv
  ·rintro -
   show xs = ys → _
   rintro rfl
   exfalso
   subst hM
   have h4 : real.not (real.dec (real.same2 [xs.getD j.toNat (0, 0, 0, ())] [xs.getD j.toNat (0, 0, 0, ())])) = true := h3
   rw [dec_iff.2 (show real.same2 [xs.getD j.toNat (0, 0, 0, ())] [xs.getD j.toNat (0, 0, 0, ())] from rfl)] at h4
   cases h4
  clear h3
  refine ⟨_, hlt, i + 1, _, ?_, hin, rfl, rfl⟩
  subst hM; exact hj1
 ·rintro - -
  rfl
def c8 : Con := Con.of ⟨[(false, 0, tyNode), (false, 0, tyNode)], [(0, .bool)], fun x => x.1.2.1.length ≤ 1048576, fun x y _ => (x.1 = x.2.1 → y.1 = true)⟩
theorem ok8 : FnOK Tryd.prog 8 c8 := by
 refine FnOK.of_vc mixed tabEOk .nil Tryd.func8 rfl (by decide) lv8 hd8 ?_
 rintro ⟨⟨(k1 : Int), (xs : List EntD), ⟨⟩⟩, ⟨(k2 : Int), (ys : List EntD), ⟨⟩⟩, ⟨⟩⟩ (hl : xs.length ≤ 1048576) hwf
 generalize hM : real = M
 cbv
 have bad : ∀ {P : Prop}, ((k1, xs, PUnit.unit) = (k2, ys, PUnit.unit) → False) → (((k1, xs, PUnit.unit) : Int × List EntD × Unit) = (k2, ys, PUnit.unit) → P) := fun h e => (h e).elim
 refine splM (fun h => ?_) (fun h => ?_) <;> cbv
 ·rintro -
  refine bad (fun e => ?_)
  cases e
  (try subst hM); (try simp only [jqn] at *); (try simp only [jqi] at *); (try simp only [real, jq1, jq2, jq3, jq4, jq5, jq6, sEq_dec, Bool.not_true, Bool.not_false, gt_iff_lt, ge_iff_le] at *)
  exact h trivial
 refine splM (fun h => ?_) (fun h => ?_) <;> cbv
 ·rintro -
  refine bad (fun e => ?_)
  cases e
  (try subst hM); (try simp only [jqn] at *); (try simp only [jqi] at *); (try simp only [real, jq1, jq2, jq3, jq4, jq5, jq6, sEq_dec, Bool.not_true, Bool.not_false, gt_iff_lt, ge_iff_le] at *)
  exact h trivial
 have hyl : ys.length = xs.length := by
  (try subst hM); (try simp only [jqn] at *); (try simp only [jqi] at *); (try simp only [real, jq1, jq2, jq3, jq4, jq5, jq6, sEq_dec, Bool.not_true, Bool.not_false, gt_iff_lt, ge_iff_le] at *)
  omega
 refine ⟨fun m Γ => ∃ (i : Nat) (j : Int), j = i ∧ i ≤ xs.length ∧ m = xs.length - i ∧ Γ = ⟨38, [(2, .ad 0 tyNode 0 []), (3, .ad 1 tyNode 0 []), (5, .pv [] (.int .i64) j)], [(0, .box (.consA (.pv [] (.int .i64) k1) (.consA (.pv [] (.sl tyEnt) xs) .nilA))), (1, .box (.consA (.pv [] (.int .i64) k2) (.consA (.pv [] (.sl tyEnt) ys) .nilA)))], [.hole 0, .hole 0]⟩, ⟨_, 0, 0, rfl, Nat.zero_le _, rfl, rfl⟩, ?_⟩
 rintro m _ ⟨i, j, hj, hi, rfl, rfl⟩ -
 cbv
 refine splM (fun h2 => ?_) (fun h2 => ?_) <;> cbv
 ·have hin : i < xs.length := by
   (try subst hM); (try simp only [jqn] at *); (try simp only [jqi] at *); (try simp only [real, jq1, jq2, jq3, jq4, jq5, jq6, sEq_dec, Bool.not_true, Bool.not_false, gt_iff_lt, ge_iff_le] at *)
   omega
  (try simp only [jqn] at hi hj); (try simp only [jqi] at hi hj)
  have hb0 : 0 ≤ j := by omega
  have hb1 : j < (xs.length : Int) := by omega
  have hb2 : j < (ys.length : Int) := by omega
  have hlt : xs.length - (i + 1) < xs.length - i := by omega
  have hj1 : IntKind.wrap .i64 (j + 1) = ((i + 1 : Nat) : Int) := by rw [hj, w64 (by omega)]; omega
  repeat' (first | (refine And.intro (fun _ => by first | exact drawRd rfl (by decide +kernel) | exact drawTail (by decide +kernel)) ?_; cbv) | (refine And.intro (by subst hM; first | exact hb0 | exact hb1 | exact hb2) ?_))
  refine splM (fun h3 => ?_) (fun h3 => ?_) <;> cbv
  ·rintro -
   refine bad (fun e => ?_)
   cases e
   subst hM
   have h4 : real.not (real.dec (real.same2 [xs.getD j.toNat (ByteArray.empty, ByteArray.empty, 0, ())] [xs.getD j.toNat (ByteArray.empty, ByteArray.empty, 0, ())])) = true := h3
   rw [dec_iff.2 (show real.same2 [xs.getD j.toNat (ByteArray.empty, ByteArray.empty, 0, ())] [xs.getD j.toNat (ByteArray.empty, ByteArray.empty, 0, ())] from rfl)] at h4
   cases h4
  clear h3
  refine ⟨_, hlt, i + 1, _, ?_, hin, rfl, rfl⟩
  subst hM; exact hj1
 ·rintro - -
  rfl
end Go.Proofs.YtmjeghlfmhbjdaaDoor.EngTab
