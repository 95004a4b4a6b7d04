/- Contracts of SplitPath's functions, third text: the marks. -/
import Derived.Test.YtjpeblicfhfniaaDoorB
namespace Go.Proofs.YtjpeblicfhfniaaDoor.EngTab
open Go.Proofs.YtjpeblicfhfniaaDoor.Eng
set_option maxRecDepth 100000
set_option linter.unusedVariables false
set_option linter.unusedSimpArgs false
/-- A number's digits ahead of a text. -/
noncomputable def mtL (out : ByteArray) (k : Int) : ByteArray :=
  if h : 0 < k then mtL (real.sApp (real.ofB [real.wrap .u8 (real.wrap .i64 (48 + Int.tmod k 10))]) out) (Int.tdiv k 10) else out
termination_by k.toNat
decreasing_by
  have : Int.tdiv k 10 = k / 10 := Int.tdiv_eq_ediv_of_nonneg (by omega)
  rw [this]; omega
noncomputable def mt (k : Int) : ByteArray := if k ≤ 0 then ⟨#[109, 48]⟩ else real.sApp ⟨#[109]⟩ (mtL ⟨#[]⟩ k)
noncomputable def c17 : Con := ⟨[(false, 0, .int .i64)], [(0, .str)], fun x => x.1 ≤ 1099511627776, fun x y _ => y.1 = mt x.1⟩
theorem ok17 : FnOK Tryd.prog 17 c17 := by
  refine FnOK.of_vc mixed tabOk .nil Tryd.func17 rfl (by decide) lv17 hd17 ?_
  rintro ⟨(k : Int), ⟨⟩⟩ (hk : k ≤ 1099511627776) hwf
  generalize hM : real = M
  cbv
  refine splM (fun h => ?_) (fun h => ?_) <;> cbv
  · rintro -
    (try subst hM); (try simp only [Eng.ncast] at *); (try simp only [Eng.nI_eq] at *); (try simp only [Eng.real, decide_eq_true_eq, decide_eq_false_iff_not, Bool.not_eq_true', Bool.not_eq_false', Bool.and_eq_true, Bool.or_eq_true, Eng.sEq_dec, Bool.not_true, Bool.not_false, gt_iff_lt, ge_iff_le] at *)
    show _ = mt k
    rw [mt, if_pos h]
  · have hk0 : 0 < k := by (try subst hM); (try simp only [Eng.ncast] at *); (try simp only [Eng.nI_eq] at *); (try simp only [Eng.real, decide_eq_true_eq, decide_eq_false_iff_not, Bool.not_eq_true', Bool.not_eq_false', Bool.and_eq_true, Bool.or_eq_true, Eng.sEq_dec, Bool.not_true, Bool.not_false, gt_iff_lt, ge_iff_le] at *); omega
    clear h
    refine ⟨fun m Γ => ∃ (j : Int) (out : ByteArray), 0 ≤ j ∧ j ≤ k ∧ out.size + j ≤ k ∧ mtL out j = mtL ⟨#[]⟩ k ∧ m = j.toNat ∧
      Γ = ⟨20, [(0, .pv [] (.int .i64) j), (3, .pv [] .str out)], [], [.hole 0]⟩, ⟨_, k, ⟨#[]⟩, by omega, by omega, Int.le_of_eq (by show ((0 : Nat) : Int) + k = k; omega), rfl, rfl, rfl⟩, ?_⟩
    rintro m _ ⟨j, out, h0, h1, ho, hn, rfl, rfl⟩ -
    cbv
    refine splM (fun h => ?_) (fun h => ?_) <;> cbv
    · have hj : 0 < j := by (try subst hM); (try simp only [Eng.ncast] at *); (try simp only [Eng.nI_eq] at *); (try simp only [Eng.real, decide_eq_true_eq, decide_eq_false_iff_not, Bool.not_eq_true', Bool.not_eq_false', Bool.and_eq_true, Bool.or_eq_true, Eng.sEq_dec, Bool.not_true, Bool.not_false, gt_iff_lt, ge_iff_le] at *); omega
      have hd : Int.tdiv j 10 = j / 10 := Int.tdiv_eq_ediv_of_nonneg (by omega)
      have hq : M.wrap .i64 (M.quo j 10) = j / 10 := by
        (try subst hM); (try simp only [Eng.ncast] at *); (try simp only [Eng.nI_eq] at *); (try simp only [Eng.real, decide_eq_true_eq, decide_eq_false_iff_not, Bool.not_eq_true', Bool.not_eq_false', Bool.and_eq_true, Bool.or_eq_true, Eng.sEq_dec, Bool.not_true, Bool.not_false, gt_iff_lt, ge_iff_le] at *)
        rw [hd, w64 (by omega)]
      have h10 : M.eq 10 0 → False := by (try subst hM); (try simp only [Eng.ncast] at *); (try simp only [Eng.nI_eq] at *); (try simp only [Eng.real, decide_eq_true_eq, decide_eq_false_iff_not, Bool.not_eq_true', Bool.not_eq_false', Bool.and_eq_true, Bool.or_eq_true, Eng.sEq_dec, Bool.not_true, Bool.not_false, gt_iff_lt, ge_iff_le] at *); omega
      have hsz : (M.sApp (M.ofB [M.wrap .u8 (M.wrap .i64 (M.add 48 (M.rem j 10)))]) out).size = out.size + 1 := by
        rw [← hM]
        show (_ ++ out : ByteArray).size = _
        rw [ByteArray.size_append]; show 1 + out.size = _; omega
      refine ⟨h10, ?_, h10, _, ?_, M.wrap .i64 (M.quo j 10), M.sApp (M.ofB [M.wrap .u8 (M.wrap .i64 (M.add 48 (M.rem j 10)))]) out, ?_, ?_, ?_, ?_, rfl, rfl⟩
      · rw [← hM]; show 1 + out.size ≤ maxL; clear hsz hq hd; rw [maxL_eq]; (try simp only [← hM] at ho); (try simp only [Eng.ncast] at ho); (try simp only [Eng.nI_eq] at ho); (try simp only [Eng.real, decide_eq_true_eq, decide_eq_false_iff_not, Bool.not_eq_true', Bool.not_eq_false', Bool.and_eq_true, Bool.or_eq_true, Eng.sEq_dec, Bool.not_true, Bool.not_false, gt_iff_lt, ge_iff_le] at ho); omega
      · rw [hq]; (try subst hM); (try simp only [Eng.ncast] at *); (try simp only [Eng.nI_eq] at *); (try simp only [Eng.real, decide_eq_true_eq, decide_eq_false_iff_not, Bool.not_eq_true', Bool.not_eq_false', Bool.and_eq_true, Bool.or_eq_true, Eng.sEq_dec, Bool.not_true, Bool.not_false, gt_iff_lt, ge_iff_le] at *); omega
      · rw [hq]; omega
      · rw [hq]; omega
      · rw [hq, hsz]; (try subst hM); (try simp only [Eng.ncast] at *); (try simp only [Eng.nI_eq] at *); (try simp only [Eng.real, decide_eq_true_eq, decide_eq_false_iff_not, Bool.not_eq_true', Bool.not_eq_false', Bool.and_eq_true, Bool.or_eq_true, Eng.sEq_dec, Bool.not_true, Bool.not_false, gt_iff_lt, ge_iff_le] at *); omega
      · rw [← hn, hq]
        conv => rhs; rw [mtL, dif_pos hj]
        rw [← hM, hd]; rfl
    · have hj : j = 0 := by (try subst hM); (try simp only [Eng.ncast] at *); (try simp only [Eng.nI_eq] at *); (try simp only [Eng.real, decide_eq_true_eq, decide_eq_false_iff_not, Bool.not_eq_true', Bool.not_eq_false', Bool.and_eq_true, Bool.or_eq_true, Eng.sEq_dec, Bool.not_true, Bool.not_false, gt_iff_lt, ge_iff_le] at *); omega
      refine ⟨?_, ?_⟩
      · rw [← hM]; show 1 + out.size ≤ maxL; rw [maxL_eq]; (try simp only [← hM] at ho); (try simp only [Eng.ncast] at ho); (try simp only [Eng.nI_eq] at ho); (try simp only [Eng.real, decide_eq_true_eq, decide_eq_false_iff_not, Bool.not_eq_true', Bool.not_eq_false', Bool.and_eq_true, Bool.or_eq_true, Eng.sEq_dec, Bool.not_true, Bool.not_false, gt_iff_lt, ge_iff_le] at ho); omega
      · rintro -
        show _ = mt k
        rw [mt, if_neg (by omega), ← hn, hj, mtL, dif_neg (by omega), hM]
end Go.Proofs.YtjpeblicfhfniaaDoor.EngTab
