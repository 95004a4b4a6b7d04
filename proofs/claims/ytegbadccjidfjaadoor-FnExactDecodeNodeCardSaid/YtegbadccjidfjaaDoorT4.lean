/- The laws' helpers for tables: sizes, copies, comparisons. -/
import Derived.Test.YtegbadccjidfjaaDoorT1
import Derived.Test.YtegbadccjidfjaaDoorT3
namespace Go.Proofs.YtegbadccjidfjaaDoor.EngTab
open Go.Proofs.YtegbadccjidfjaaDoor.Eng
set_option maxRecDepth 100000
set_option linter.unusedVariables false
set_option linter.unusedSimpArgs false
def szV (n : Nat) (left : Int) : Int := if left - n < 0 then -1 else left - n
def c49 : Con := Con.of ⟨[(false, 0, .sl tyRun), (false, 0, .int .i64)], [(0, .int .i64)], fun x => 0 ≤ x.2.1 ∧ x.2.1 ≤ 1048576, fun x y _ => y.1 = szV x.1.length x.2.1⟩
theorem ok49 : FnOK Tryd.prog 49 c49 := by
  refine FnOK.of_vc mixed tabOk .nil Tryd.func49 rfl (by decide) lv49 hd49 ?_
  rintro ⟨(rs : List RunD), (left : Int), ⟨⟩⟩ ⟨(h0 : 0 ≤ left), (h1 : left ≤ 1048576)⟩ hwf
  have hl : rs.length ≤ maxL := hwf.1.1
  rw [maxL_eq] at hl
  generalize hM : real = M
  cbv
  refine splM (fun h => ?_) (fun h => ?_) <;> cbv
  all_goals
    rintro -
    (try subst hM); (try simp only [Eng.ncast] at *); (try simp only [Eng.nI_eq] at *); (try simp only [Eng.real, decide_eq_true_eq, decide_eq_false_iff_not, Bool.not_eq_true', Bool.not_eq_false', Bool.and_eq_true, Bool.or_eq_true, Eng.sEq_dec, Bool.not_true, Bool.not_false, gt_iff_lt, ge_iff_le] at *)
    rw [w64 (by omega)] at *
    show _ = szV rs.length left
    unfold szV
    first | rw [if_pos (by omega)] | rw [if_neg (by omega)]
def c11 : Con := Con.of ⟨[(false, 0, tyTab), (false, 0, .int .i64)], [(0, .int .i64)], fun x => 0 ≤ x.2.1 ∧ x.2.1 ≤ 1048576, fun x y _ => y.1 = szV x.1.2.1.length x.2.1⟩
theorem ok11 : FnOK Tryd.prog 11 c11 := by
  refine FnOK.of_vc mixed tabOk (.cons en49 ok49 .nil) Tryd.func11 rfl (by decide) lv11 hd11 ?_
  rintro ⟨⟨(next : Int), (rs : List RunD), ⟨⟩⟩, (left : Int), ⟨⟩⟩ ⟨(h0 : 0 ≤ left), (h1 : left ≤ 1048576)⟩ hwf
  generalize hM : real = M
  cbv
  refine ⟨fun _ => ⟨h0, h1⟩, ?_⟩
  rintro ⟨(y : Int), ⟨⟩⟩ x' (hy : y = szV rs.length left) - -
  cbv
  refine splM (fun h => ?_) (fun h => ?_) <;> cbv
  all_goals
    rintro -
    (try subst hM); (try simp only [Eng.ncast] at *); (try simp only [Eng.nI_eq] at *); (try simp only [Eng.real, decide_eq_true_eq, decide_eq_false_iff_not, Bool.not_eq_true', Bool.not_eq_false', Bool.and_eq_true, Bool.or_eq_true, Eng.sEq_dec, Bool.not_true, Bool.not_false, gt_iff_lt, ge_iff_le] at *)
    show _ = szV rs.length left
    unfold szV at *
    split at hy <;> omega
def c91 : Con := Con.of ⟨[(false, 0, tyRun)], [(0, tyRun)], fun _ => True, fun x y _ => y.1 = x.1⟩
theorem ok91 : FnOK Tryd.prog 91 c91 := by
  refine FnOK.of_vc mixed tabOk .nil Tryd.func91 rfl (by decide) lv91 hd91 ?_
  rintro ⟨⟨(a : Int), (b : Int), (c : Int), ⟨⟩⟩, ⟨⟩⟩ - hwf
  generalize hM : real = M
  cbv
  exact fun _ => rfl
def c53 : Con := Con.of ⟨[(false, 0, .sl tyRun)], [(1, .sl tyRun)], fun x => x.1.length ≤ 1048576, fun x y _ => y.1 = x.1⟩
theorem ok53 : FnOK Tryd.prog 53 c53 := by
  refine FnOK.of_vc mixed tabOk (.cons en91 ok91 .nil) Tryd.func53 rfl (by decide) lv53 hd53 ?_
  rintro ⟨(rs : List RunD), ⟨⟩⟩ (hl : rs.length ≤ 1048576) hwf
  generalize hM : real = M
  cbv
  refine ⟨by (try subst hM); (try simp only [Eng.ncast] at *); (try simp only [Eng.nI_eq] at *); (try simp only [Eng.real, decide_eq_true_eq, decide_eq_false_iff_not, Bool.not_eq_true', Bool.not_eq_false', Bool.and_eq_true, Bool.or_eq_true, Eng.sEq_dec, Bool.not_true, Bool.not_false, gt_iff_lt, ge_iff_le] at *), by (try subst hM); (try simp only [Eng.ncast] at *); (try simp only [Eng.nI_eq] at *); (try simp only [Eng.real, decide_eq_true_eq, decide_eq_false_iff_not, Bool.not_eq_true', Bool.not_eq_false', Bool.and_eq_true, Bool.or_eq_true, Eng.sEq_dec, Bool.not_true, Bool.not_false, gt_iff_lt, ge_iff_le] at *); omega, ?_⟩
  refine ⟨fun m Γ => ∃ (i : Nat) (j : Int) (ys : List RunD), j = i ∧ i ≤ rs.length ∧ (ys.length = rs.length ∧ ys.take i = rs.take i) ∧ m = rs.length - i ∧ Γ = ⟨23, [(0, .pv [] (.sl tyRun) rs), (3, .ref 0), (4, .pv [] (.int .i64) j)], [(0, .row 0 tyRun ys)], [.hole 0]⟩, ⟨_, 0, 0, _, rfl, Nat.zero_le _, ⟨by (try subst hM); (try simp only [Eng.ncast] at *); (try simp only [Eng.nI_eq] at *); (try simp only [Eng.real, decide_eq_true_eq, decide_eq_false_iff_not, Bool.not_eq_true', Bool.not_eq_false', Bool.and_eq_true, Bool.or_eq_true, Eng.sEq_dec, Bool.not_true, Bool.not_false, gt_iff_lt, ge_iff_le] at *); simp, by simp⟩, rfl, rfl⟩, ?_⟩
  rintro m _ ⟨i, j, ys, hj, hi, ⟨hy1, hy2⟩, rfl, rfl⟩ -
  cbv
  refine splM (fun h => ?_) (fun h => ?_) <;> cbv
  · have hin : i < rs.length := by
      (try subst hM); (try simp only [Eng.ncast] at *); (try simp only [Eng.nI_eq] at *); (try simp only [Eng.real, decide_eq_true_eq, decide_eq_false_iff_not, Bool.not_eq_true', Bool.not_eq_false', Bool.and_eq_true, Bool.or_eq_true, Eng.sEq_dec, Bool.not_true, Bool.not_false, gt_iff_lt, ge_iff_le] at *)
      omega
    (try simp only [Eng.ncast] at hi hj); (try simp only [Eng.nI_eq] at hi hj)
    have hji : j.toNat = i := by rw [hj]; simp
    refine ⟨by (try subst hM); (try simp only [Eng.ncast] at *); (try simp only [Eng.nI_eq] at *); (try simp only [Eng.real, decide_eq_true_eq, decide_eq_false_iff_not, Bool.not_eq_true', Bool.not_eq_false', Bool.and_eq_true, Bool.or_eq_true, Eng.sEq_dec, Bool.not_true, Bool.not_false, gt_iff_lt, ge_iff_le] at *); omega, by (try subst hM); (try simp only [Eng.ncast] at *); (try simp only [Eng.nI_eq] at *); (try simp only [Eng.real, decide_eq_true_eq, decide_eq_false_iff_not, Bool.not_eq_true', Bool.not_eq_false', Bool.and_eq_true, Bool.or_eq_true, Eng.sEq_dec, Bool.not_true, Bool.not_false, gt_iff_lt, ge_iff_le] at *); omega, fun _ => trivial, ?_⟩
    rintro ⟨(z : RunD), ⟨⟩⟩ x' (hz : z = M.get rs j (0, 0, 0, PUnit.unit)) - -
    obtain ⟨z1, z2, z3, ⟨⟩⟩ := z
    cbv
    repeat' (first | (refine And.intro (fun _ => by first | exact drawRd rfl (by decide +kernel) | exact drawTail (by decide +kernel)) ?_; cbv) | (refine And.intro (by (try subst hM); (try simp only [Eng.ncast] at *); (try simp only [Eng.nI_eq] at *); (try simp only [Eng.real, decide_eq_true_eq, decide_eq_false_iff_not, Bool.not_eq_true', Bool.not_eq_false', Bool.and_eq_true, Bool.or_eq_true, Eng.sEq_dec, Bool.not_true, Bool.not_false, gt_iff_lt, ge_iff_le] at *); omega) ?_; cbv))
    refine ⟨rs.length - (i + 1), by omega, i + 1, _, _, ?_, hin, ⟨?_, ?_⟩, rfl, rfl⟩
    · (try subst hM); (try simp only [Eng.ncast] at *); (try simp only [Eng.nI_eq] at *); (try simp only [Eng.real, decide_eq_true_eq, decide_eq_false_iff_not, Bool.not_eq_true', Bool.not_eq_false', Bool.and_eq_true, Bool.or_eq_true, Eng.sEq_dec, Bool.not_true, Bool.not_false, gt_iff_lt, ge_iff_le] at *)
      rw [hj, w64 (by omega)]; omega
    · (try subst hM); (try simp only [Eng.ncast] at *); (try simp only [Eng.nI_eq] at *); (try simp only [Eng.real, decide_eq_true_eq, decide_eq_false_iff_not, Bool.not_eq_true', Bool.not_eq_false', Bool.and_eq_true, Bool.or_eq_true, Eng.sEq_dec, Bool.not_true, Bool.not_false, gt_iff_lt, ge_iff_le] at *)
      simp [hy1]
    · (try subst hM); (try simp only [Eng.ncast] at *); (try simp only [Eng.nI_eq] at *); (try simp only [Eng.real, decide_eq_true_eq, decide_eq_false_iff_not, Bool.not_eq_true', Bool.not_eq_false', Bool.and_eq_true, Bool.or_eq_true, Eng.sEq_dec, Bool.not_true, Bool.not_false, gt_iff_lt, ge_iff_le] at *)
      simp only [hji] at *
      rw [hz, List.getD_eq_getElem?_getD, List.getElem?_eq_getElem hin, Option.getD_some, List.take_add_one, List.take_add_one, List.take_set_of_le (by omega), hy2]
      simp [hy1, hin]
  · rintro -
    (try subst hM); (try simp only [Eng.ncast] at *); (try simp only [Eng.nI_eq] at *); (try simp only [Eng.real, decide_eq_true_eq, decide_eq_false_iff_not, Bool.not_eq_true', Bool.not_eq_false', Bool.and_eq_true, Bool.or_eq_true, Eng.sEq_dec, Bool.not_true, Bool.not_false, gt_iff_lt, ge_iff_le] at *)
    have : i = rs.length := by omega
    subst this
    show ys = rs
    rw [List.take_of_length_le (by omega), List.take_length] at hy2
    exact hy2
def c13 : Con := Con.of ⟨[(false, 0, tyTab)], [(1, tyTab)], fun x => x.1.2.1.length ≤ 1048576, fun x y _ => y.1 = x.1⟩
theorem ok13 : FnOK Tryd.prog 13 c13 := by
  refine FnOK.of_vc mixed tabOk (.cons en53 ok53 .nil) Tryd.func13 rfl (by decide) lv13 hd13 ?_
  rintro ⟨⟨(next : Int), (rs : List RunD), ⟨⟩⟩, ⟨⟩⟩ (hl : rs.length ≤ 1048576) hwf
  generalize hM : real = M
  cbv
  refine ⟨fun _ => hl, ?_⟩
  rintro ⟨(z : List RunD), ⟨⟩⟩ x' (hz : z = rs) - -
  cbv
  rintro -
  subst hz; rfl
def c96 : Con := Con.of ⟨[(false, 0, tyRun), (false, 0, tyRun)], [(0, .bool)], fun _ => True, fun x y _ => (y.1 = true ↔ x.1 = x.2.1)⟩
theorem ok96 : FnOK Tryd.prog 96 c96 := by
  refine FnOK.of_vc mixed tabOk .nil Tryd.func96 rfl (by decide) lv96 hd96 ?_
  rintro ⟨⟨(a : Int), (b : Int), (c : Int), ⟨⟩⟩, ⟨(d : Int), (e : Int), (f : Int), ⟨⟩⟩, ⟨⟩⟩ - hwf
  generalize hM : real = M
  cbv
  repeat' (refine splM (fun h => ?_) (fun h => ?_) <;> cbv)
  all_goals
    rintro -
    (try subst hM); (try simp only [Eng.ncast] at *); (try simp only [Eng.nI_eq] at *); (try simp only [Eng.real, decide_eq_true_eq, decide_eq_false_iff_not, Bool.not_eq_true', Bool.not_eq_false', Bool.and_eq_true, Bool.or_eq_true, Eng.sEq_dec, Bool.not_true, Bool.not_false, gt_iff_lt, ge_iff_le] at *)
    show (_ = true) ↔ ((a, b, c, PUnit.unit) = (d, e, f, PUnit.unit))
    simp_all
end Go.Proofs.YtegbadccjidfjaaDoor.EngTab

/- The laws' helpers: comparisons and marks. -/
namespace Go.Proofs.YtegbadccjidfjaaDoor.EngTab
open Go.Proofs.YtegbadccjidfjaaDoor.Eng
set_option maxRecDepth 100000
set_option linter.unusedVariables false
set_option linter.unusedSimpArgs false
def c56 : Con := Con.of ⟨[(false, 0, .sl tyRun), (false, 0, .sl tyRun)], [(0, .bool)], fun x => x.1.length ≤ 1048576, fun x y _ => (x.1 = x.2.1 → y.1 = true)⟩
theorem ok56 : FnOK Tryd.prog 56 c56 := by
  refine FnOK.of_vc mixed tabOk (.cons en96 ok96 .nil) Tryd.func56 rfl (by decide) lv56 hd56 ?_
  rintro ⟨(xs : List RunD), (ys : List RunD), ⟨⟩⟩ (hl : xs.length ≤ 1048576) hwf
  generalize hM : real = M
  cbv
  refine splM (fun h => ?_) (fun h => ?_) <;> cbv
  · rintro -
    show xs = ys → _
    rintro rfl
    exfalso
    (try subst hM); (try simp only [Eng.ncast] at *); (try simp only [Eng.nI_eq] at *); (try simp only [Eng.real, decide_eq_true_eq, decide_eq_false_iff_not, Bool.not_eq_true', Bool.not_eq_false', Bool.and_eq_true, Bool.or_eq_true, Eng.sEq_dec, Bool.not_true, Bool.not_false, gt_iff_lt, ge_iff_le] at *)
    exact h trivial
  have hyl : ys.length = xs.length := by
    (try subst hM); (try simp only [Eng.ncast] at *); (try simp only [Eng.nI_eq] at *); (try simp only [Eng.real, decide_eq_true_eq, decide_eq_false_iff_not, Bool.not_eq_true', Bool.not_eq_false', Bool.and_eq_true, Bool.or_eq_true, Eng.sEq_dec, Bool.not_true, Bool.not_false, gt_iff_lt, ge_iff_le] at *)
    omega
  refine ⟨fun m Γ => ∃ (i : Nat) (j : Int), j = i ∧ i ≤ xs.length ∧ m = xs.length - i ∧ Γ = ⟨27, [(0, .pv [] (.sl tyRun) xs), (1, .pv [] (.sl tyRun) ys), (5, .pv [] (.int .i64) j)], [], [.hole 0, .hole 0]⟩, ⟨_, 0, 0, rfl, Nat.zero_le _, rfl, rfl⟩, ?_⟩
  rintro m _ ⟨i, j, hj, hi, rfl, rfl⟩ -
  cbv
  refine splM (fun h2 => ?_) (fun h2 => ?_) <;> cbv
  · have hin : i < xs.length := by
      (try subst hM); (try simp only [Eng.ncast] at *); (try simp only [Eng.nI_eq] at *); (try simp only [Eng.real, decide_eq_true_eq, decide_eq_false_iff_not, Bool.not_eq_true', Bool.not_eq_false', Bool.and_eq_true, Bool.or_eq_true, Eng.sEq_dec, Bool.not_true, Bool.not_false, gt_iff_lt, ge_iff_le] at *)
      omega
    (try simp only [Eng.ncast] at hi hj); (try simp only [Eng.nI_eq] at hi hj)
    refine ⟨(fun _ => by first | exact drawRd rfl (by decide +kernel) | exact drawTail (by decide +kernel)), by (try subst hM); (try simp only [Eng.ncast] at *); (try simp only [Eng.nI_eq] at *); (try simp only [Eng.real, decide_eq_true_eq, decide_eq_false_iff_not, Bool.not_eq_true', Bool.not_eq_false', Bool.and_eq_true, Bool.or_eq_true, Eng.sEq_dec, Bool.not_true, Bool.not_false, gt_iff_lt, ge_iff_le] at *); omega, by (try subst hM); (try simp only [Eng.ncast] at *); (try simp only [Eng.nI_eq] at *); (try simp only [Eng.real, decide_eq_true_eq, decide_eq_false_iff_not, Bool.not_eq_true', Bool.not_eq_false', Bool.and_eq_true, Bool.or_eq_true, Eng.sEq_dec, Bool.not_true, Bool.not_false, gt_iff_lt, ge_iff_le] at *); omega, by (try subst hM); (try simp only [Eng.ncast] at *); (try simp only [Eng.nI_eq] at *); (try simp only [Eng.real, decide_eq_true_eq, decide_eq_false_iff_not, Bool.not_eq_true', Bool.not_eq_false', Bool.and_eq_true, Bool.or_eq_true, Eng.sEq_dec, Bool.not_true, Bool.not_false, gt_iff_lt, ge_iff_le] at *); omega, by (try subst hM); (try simp only [Eng.ncast] at *); (try simp only [Eng.nI_eq] at *); (try simp only [Eng.real, decide_eq_true_eq, decide_eq_false_iff_not, Bool.not_eq_true', Bool.not_eq_false', Bool.and_eq_true, Bool.or_eq_true, Eng.sEq_dec, Bool.not_true, Bool.not_false, gt_iff_lt, ge_iff_le] at *); omega, fun _ => trivial, ?_⟩
    rintro ⟨(z : Bool), ⟨⟩⟩ x' (hz : z = true ↔ M.get xs j (0, 0, 0, PUnit.unit) = M.get ys j (0, 0, 0, PUnit.unit)) - -
    cbv
    refine splM (fun h3 => ?_) (fun h3 => ?_) <;> cbv
    · rintro -
      show xs = ys → _
      rintro rfl
      exfalso
      have hzt := hz.2 rfl
      subst hzt
      subst hM
      cases h3
    · refine ⟨xs.length - (i + 1), by omega, i + 1, _, ?_, hin, rfl, rfl⟩
      (try subst hM); (try simp only [Eng.ncast] at *); (try simp only [Eng.nI_eq] at *); (try simp only [Eng.real, decide_eq_true_eq, decide_eq_false_iff_not, Bool.not_eq_true', Bool.not_eq_false', Bool.and_eq_true, Bool.or_eq_true, Eng.sEq_dec, Bool.not_true, Bool.not_false, gt_iff_lt, ge_iff_le] at *)
      rw [hj, w64 (by omega)]; omega
  · rintro - -
    rfl
def c16 : Con := Con.of ⟨[(false, 0, tyTab), (false, 0, tyTab)], [(0, .bool)], fun x => x.1.2.1.length ≤ 1048576, fun x y _ => (x.1 = x.2.1 → y.1 = true)⟩
theorem ok16 : FnOK Tryd.prog 16 c16 := by
  refine FnOK.of_vc mixed tabOk (.cons en56 ok56 .nil) Tryd.func16 rfl (by decide) lv16 hd16 ?_
  rintro ⟨⟨(n1 : Int), (xs : List RunD), ⟨⟩⟩, ⟨(n2 : Int), (ys : List RunD), ⟨⟩⟩, ⟨⟩⟩ (hl : xs.length ≤ 1048576) hwf
  generalize hM : real = M
  cbv
  refine splM (fun h => ?_) (fun h => ?_) <;> cbv
  · rintro -
    show ((n1, xs, PUnit.unit) : Int × List RunD × Unit) = (n2, ys, PUnit.unit) → _
    rintro e
    cases e
    exfalso
    (try subst hM); (try simp only [Eng.ncast] at *); (try simp only [Eng.nI_eq] at *); (try simp only [Eng.real, decide_eq_true_eq, decide_eq_false_iff_not, Bool.not_eq_true', Bool.not_eq_false', Bool.and_eq_true, Bool.or_eq_true, Eng.sEq_dec, Bool.not_true, Bool.not_false, gt_iff_lt, ge_iff_le] at *)
    exact h trivial
  · refine ⟨fun _ => hl, ?_⟩
    rintro ⟨(z : Bool), ⟨⟩⟩ x' (hz : xs = ys → z = true) - -
    cbv
    refine splM (fun h3 => ?_) (fun h3 => ?_) <;> cbv
    · rintro -
      show ((n1, xs, PUnit.unit) : Int × List RunD × Unit) = (n2, ys, PUnit.unit) → _
      rintro e
      cases e
      have := hz rfl
      subst this
      subst hM
      cases h3
    · rintro - -
      rfl
def c15 : Con := Con.of ⟨[(false, 0, tyB), (false, 0, tyB)], [(0, .bool)], fun x => x.1.length ≤ 1048576, fun x y _ => (x.1 = x.2.1 → y.1 = true)⟩
theorem ok15 : FnOK Tryd.prog 15 c15 := by
  refine FnOK.of_vc mixed tabOk .nil Tryd.func15 rfl (by decide) lv15 hd15 ?_
  rintro ⟨(xs : List Int), (ys : List Int), ⟨⟩⟩ (hl : xs.length ≤ 1048576) hwf
  generalize hM : real = M
  cbv
  refine splM (fun h => ?_) (fun h => ?_) <;> cbv
  · rintro -
    show xs = ys → _
    rintro rfl
    exfalso
    (try subst hM); (try simp only [Eng.ncast] at *); (try simp only [Eng.nI_eq] at *); (try simp only [Eng.real, decide_eq_true_eq, decide_eq_false_iff_not, Bool.not_eq_true', Bool.not_eq_false', Bool.and_eq_true, Bool.or_eq_true, Eng.sEq_dec, Bool.not_true, Bool.not_false, gt_iff_lt, ge_iff_le] at *)
    exact h trivial
  have hyl : ys.length = xs.length := by
    (try subst hM); (try simp only [Eng.ncast] at *); (try simp only [Eng.nI_eq] at *); (try simp only [Eng.real, decide_eq_true_eq, decide_eq_false_iff_not, Bool.not_eq_true', Bool.not_eq_false', Bool.and_eq_true, Bool.or_eq_true, Eng.sEq_dec, Bool.not_true, Bool.not_false, gt_iff_lt, ge_iff_le] at *)
    omega
  refine ⟨fun m Γ => ∃ (i : Nat) (j : Int), j = i ∧ i ≤ xs.length ∧ m = xs.length - i ∧ Γ = ⟨26, [(0, .pv [] tyB xs), (1, .pv [] tyB ys), (5, .pv [] (.int .i64) j)], [], [.hole 0, .hole 0]⟩, ⟨_, 0, 0, rfl, Nat.zero_le _, rfl, rfl⟩, ?_⟩
  rintro m _ ⟨i, j, hj, hi, rfl, rfl⟩ -
  cbv
  refine splM (fun h2 => ?_) (fun h2 => ?_) <;> cbv
  · have hin : i < xs.length := by
      (try subst hM); (try simp only [Eng.ncast] at *); (try simp only [Eng.nI_eq] at *); (try simp only [Eng.real, decide_eq_true_eq, decide_eq_false_iff_not, Bool.not_eq_true', Bool.not_eq_false', Bool.and_eq_true, Bool.or_eq_true, Eng.sEq_dec, Bool.not_true, Bool.not_false, gt_iff_lt, ge_iff_le] at *)
      omega
    (try simp only [Eng.ncast] at hi hj); (try simp only [Eng.nI_eq] at hi hj)
    refine ⟨(fun _ => by first | exact drawRd rfl (by decide +kernel) | exact drawTail (by decide +kernel)), by (try subst hM); (try simp only [Eng.ncast] at *); (try simp only [Eng.nI_eq] at *); (try simp only [Eng.real, decide_eq_true_eq, decide_eq_false_iff_not, Bool.not_eq_true', Bool.not_eq_false', Bool.and_eq_true, Bool.or_eq_true, Eng.sEq_dec, Bool.not_true, Bool.not_false, gt_iff_lt, ge_iff_le] at *); omega, by (try subst hM); (try simp only [Eng.ncast] at *); (try simp only [Eng.nI_eq] at *); (try simp only [Eng.real, decide_eq_true_eq, decide_eq_false_iff_not, Bool.not_eq_true', Bool.not_eq_false', Bool.and_eq_true, Bool.or_eq_true, Eng.sEq_dec, Bool.not_true, Bool.not_false, gt_iff_lt, ge_iff_le] at *); omega, by (try subst hM); (try simp only [Eng.ncast] at *); (try simp only [Eng.nI_eq] at *); (try simp only [Eng.real, decide_eq_true_eq, decide_eq_false_iff_not, Bool.not_eq_true', Bool.not_eq_false', Bool.and_eq_true, Bool.or_eq_true, Eng.sEq_dec, Bool.not_true, Bool.not_false, gt_iff_lt, ge_iff_le] at *); omega, by (try subst hM); (try simp only [Eng.ncast] at *); (try simp only [Eng.nI_eq] at *); (try simp only [Eng.real, decide_eq_true_eq, decide_eq_false_iff_not, Bool.not_eq_true', Bool.not_eq_false', Bool.and_eq_true, Bool.or_eq_true, Eng.sEq_dec, Bool.not_true, Bool.not_false, gt_iff_lt, ge_iff_le] at *); omega, ?_⟩
    refine splM (fun h3 => ?_) (fun h3 => ?_) <;> cbv
    · rintro -
      show xs = ys → _
      rintro rfl
      exfalso
      (try subst hM); (try simp only [Eng.ncast] at *); (try simp only [Eng.nI_eq] at *); (try simp only [Eng.real, decide_eq_true_eq, decide_eq_false_iff_not, Bool.not_eq_true', Bool.not_eq_false', Bool.and_eq_true, Bool.or_eq_true, Eng.sEq_dec, Bool.not_true, Bool.not_false, gt_iff_lt, ge_iff_le] at *)
      exact h3 trivial
    · refine ⟨xs.length - (i + 1), by omega, i + 1, _, ?_, hin, rfl, rfl⟩
      (try subst hM); (try simp only [Eng.ncast] at *); (try simp only [Eng.nI_eq] at *); (try simp only [Eng.real, decide_eq_true_eq, decide_eq_false_iff_not, Bool.not_eq_true', Bool.not_eq_false', Bool.and_eq_true, Bool.or_eq_true, Eng.sEq_dec, Bool.not_true, Bool.not_false, gt_iff_lt, ge_iff_le] at *)
      rw [hj, w64 (by omega)]; omega
  · rintro - -
    rfl
def c57 : Con := Con.of ⟨[(true, 1, .sl tyRun), (false, 0, .int .i64)], [(0, .int .i64)], fun x => x.1.length ≤ 1048576 ∧ 0 ≤ x.2.1 ∧ x.2.1 ≤ 1048576, fun x y _ => y.1 = x.2.1 + 3 * x.1.length⟩
theorem ok57 : FnOK Tryd.prog 57 c57 := by
  refine FnOK.of_vc mixed tabOk .nil Tryd.func57 rfl (by decide) lv57 hd57 ?_
  rintro ⟨(xs : List RunD), (k : Int), ⟨⟩⟩ ⟨(hl : xs.length ≤ 1048576), (h0 : 0 ≤ k), (h1 : k ≤ 1048576)⟩ hwf
  generalize hM : real = M
  cbv
  refine ⟨fun m Γ => ∃ (i : Nat) (j q : Int) (ys : List RunD), j = i ∧ i ≤ xs.length ∧ (ys.length = xs.length ∧ q = k + 3 * i) ∧ m = xs.length - i ∧ Γ = ⟨34, [(0, .ref 0), (1, .pv [] (.int .i64) q), (5, .pv [] (.int .i64) j)], [(0, .row 0 tyRun ys)], [.ref 0, .hole 0]⟩, ⟨_, 0, 0, k, xs, rfl, Nat.zero_le _, ⟨rfl, by simp⟩, rfl, rfl⟩, ?_⟩
  rintro m _ ⟨i, j, q, ys, hj, hi, ⟨hy, hq⟩, rfl, rfl⟩ -
  cbv
  refine splM (fun h2 => ?_) (fun h2 => ?_) <;> cbv
  · have hin : i < xs.length := by
      (try subst hM); (try simp only [Eng.ncast] at *); (try simp only [Eng.nI_eq] at *); (try simp only [Eng.real, decide_eq_true_eq, decide_eq_false_iff_not, Bool.not_eq_true', Bool.not_eq_false', Bool.and_eq_true, Bool.or_eq_true, Eng.sEq_dec, Bool.not_true, Bool.not_false, gt_iff_lt, ge_iff_le] at *)
      omega
    (try simp only [Eng.ncast] at hi hj hq); (try simp only [Eng.nI_eq] at hi hj hq)
    repeat' (first | (refine And.intro (fun _ => by first | exact drawRd rfl (by decide +kernel) | exact drawTail (by decide +kernel)) ?_; cbv) | (refine And.intro (by (try subst hM); (try simp only [Eng.ncast] at *); (try simp only [Eng.nI_eq] at *); (try simp only [Eng.real, decide_eq_true_eq, decide_eq_false_iff_not, Bool.not_eq_true', Bool.not_eq_false', Bool.and_eq_true, Bool.or_eq_true, Eng.sEq_dec, Bool.not_true, Bool.not_false, gt_iff_lt, ge_iff_le] at *); first | omega | (simp; omega)) ?_; cbv))
    refine ⟨xs.length - (i + 1), by omega, i + 1, _, _, _, ?_, hin, ⟨?_, ?_⟩, rfl, rfl⟩
    · (try subst hM); (try simp only [Eng.ncast] at *); (try simp only [Eng.nI_eq] at *); (try simp only [Eng.real, decide_eq_true_eq, decide_eq_false_iff_not, Bool.not_eq_true', Bool.not_eq_false', Bool.and_eq_true, Bool.or_eq_true, Eng.sEq_dec, Bool.not_true, Bool.not_false, gt_iff_lt, ge_iff_le] at *)
      rw [hj, w64 (by omega)]; omega
    · (try subst hM); (try simp only [Eng.ncast] at *); (try simp only [Eng.nI_eq] at *); (try simp only [Eng.real, decide_eq_true_eq, decide_eq_false_iff_not, Bool.not_eq_true', Bool.not_eq_false', Bool.and_eq_true, Bool.or_eq_true, Eng.sEq_dec, Bool.not_true, Bool.not_false, gt_iff_lt, ge_iff_le] at *)
      simp [hy]
    · (try subst hM); (try simp only [Eng.ncast] at *); (try simp only [Eng.nI_eq] at *); (try simp only [Eng.real, decide_eq_true_eq, decide_eq_false_iff_not, Bool.not_eq_true', Bool.not_eq_false', Bool.and_eq_true, Bool.or_eq_true, Eng.sEq_dec, Bool.not_true, Bool.not_false, gt_iff_lt, ge_iff_le] at *)
      rw [hq, w64 (x := k + 3 * (i : Int) + 1) (by omega), w64 (x := k + 3 * (i : Int) + 1 + 1) (by omega), w64 (by omega)]; omega
  · rintro -
    (try subst hM); (try simp only [Eng.ncast] at *); (try simp only [Eng.nI_eq] at *); (try simp only [Eng.real, decide_eq_true_eq, decide_eq_false_iff_not, Bool.not_eq_true', Bool.not_eq_false', Bool.and_eq_true, Bool.or_eq_true, Eng.sEq_dec, Bool.not_true, Bool.not_false, gt_iff_lt, ge_iff_le] at *)
    have : i = xs.length := by omega
    subst this
    exact hq
def markB (k : Int) (n : Nat) : List Int := (List.range n).map fun (i : Nat) => IntKind.wrap .u8 (k + (i : Int))
theorem markB_succ (k : Int) (n : Nat) : markB k (n + 1) = markB k n ++ [IntKind.wrap .u8 (k + n)] := by simp [markB, List.range_succ]
theorem markB_len (k : Int) (n : Nat) : (markB k n).length = n := by simp [markB]
theorem markB_get (k : Int) {n i : Nat} (h : i < n) : (markB k n)[i]? = some (IntKind.wrap .u8 (k + i)) := by simp [markB, h]
def c18 : Con := Con.of ⟨[(true, 1, tyB), (false, 0, .int .i64)], [(0, .int .i64)], fun x => x.1.length ≤ 1048576 ∧ 0 ≤ x.2.1 ∧ x.2.1 ≤ 1048576, fun x y x' => y.1 = x.2.1 + x.1.length ∧ x'.1 = markB x.2.1 x.1.length⟩
theorem ok18 : FnOK Tryd.prog 18 c18 := by
  refine FnOK.of_vc mixed tabOk .nil Tryd.func18 rfl (by decide) lv18 hd18 ?_
  rintro ⟨(xs : List Int), (k : Int), ⟨⟩⟩ ⟨(hl : xs.length ≤ 1048576), (h0 : 0 ≤ k), (h1 : k ≤ 1048576)⟩ hwf
  generalize hM : real = M
  cbv
  refine ⟨fun m Γ => ∃ (i : Nat) (j q : Int) (ys : List Int), j = i ∧ i ≤ xs.length ∧ (ys.length = xs.length ∧ q = k + i ∧ ys.take i = markB k i) ∧ m = xs.length - i ∧ Γ = ⟨20, [(0, .ref 0), (1, .pv [] (.int .i64) q), (5, .pv [] (.int .i64) j)], [(0, .row 0 (.int .u8) ys)], [.ref 0, .hole 0]⟩, ⟨_, 0, 0, k, xs, rfl, Nat.zero_le _, ⟨rfl, by simp, by simp [markB]⟩, rfl, rfl⟩, ?_⟩
  rintro m _ ⟨i, j, q, ys, hj, hi, ⟨hy, hq, ht⟩, rfl, rfl⟩ -
  cbv
  refine splM (fun h2 => ?_) (fun h2 => ?_) <;> cbv
  · have hin : i < xs.length := by
      (try subst hM); (try simp only [Eng.ncast] at *); (try simp only [Eng.nI_eq] at *); (try simp only [Eng.real, decide_eq_true_eq, decide_eq_false_iff_not, Bool.not_eq_true', Bool.not_eq_false', Bool.and_eq_true, Bool.or_eq_true, Eng.sEq_dec, Bool.not_true, Bool.not_false, gt_iff_lt, ge_iff_le] at *)
      omega
    (try simp only [Eng.ncast] at hi hj hq); (try simp only [Eng.nI_eq] at hi hj hq)
    have hji : j.toNat = i := by rw [hj]; simp
    repeat' (first | (refine And.intro (fun _ => by first | exact drawRd rfl (by decide +kernel) | exact drawTail (by decide +kernel)) ?_; cbv) | (refine And.intro (by (try subst hM); (try simp only [Eng.ncast] at *); (try simp only [Eng.nI_eq] at *); (try simp only [Eng.real, decide_eq_true_eq, decide_eq_false_iff_not, Bool.not_eq_true', Bool.not_eq_false', Bool.and_eq_true, Bool.or_eq_true, Eng.sEq_dec, Bool.not_true, Bool.not_false, gt_iff_lt, ge_iff_le] at *); omega) ?_; cbv))
    refine ⟨xs.length - (i + 1), by omega, i + 1, _, _, _, ?_, hin, ⟨?_, ?_, ?_⟩, rfl, rfl⟩
    · (try subst hM); (try simp only [Eng.ncast] at *); (try simp only [Eng.nI_eq] at *); (try simp only [Eng.real, decide_eq_true_eq, decide_eq_false_iff_not, Bool.not_eq_true', Bool.not_eq_false', Bool.and_eq_true, Bool.or_eq_true, Eng.sEq_dec, Bool.not_true, Bool.not_false, gt_iff_lt, ge_iff_le] at *)
      rw [hj, w64 (by omega)]; omega
    · (try subst hM); (try simp only [Eng.ncast] at *); (try simp only [Eng.nI_eq] at *); (try simp only [Eng.real, decide_eq_true_eq, decide_eq_false_iff_not, Bool.not_eq_true', Bool.not_eq_false', Bool.and_eq_true, Bool.or_eq_true, Eng.sEq_dec, Bool.not_true, Bool.not_false, gt_iff_lt, ge_iff_le] at *)
      simp [hy]
    · (try subst hM); (try simp only [Eng.ncast] at *); (try simp only [Eng.nI_eq] at *); (try simp only [Eng.real, decide_eq_true_eq, decide_eq_false_iff_not, Bool.not_eq_true', Bool.not_eq_false', Bool.and_eq_true, Bool.or_eq_true, Eng.sEq_dec, Bool.not_true, Bool.not_false, gt_iff_lt, ge_iff_le] at *)
      rw [hq, w64 (by omega)]; omega
    · (try subst hM); (try simp only [Eng.ncast] at *); (try simp only [Eng.nI_eq] at *); (try simp only [Eng.real, decide_eq_true_eq, decide_eq_false_iff_not, Bool.not_eq_true', Bool.not_eq_false', Bool.and_eq_true, Bool.or_eq_true, Eng.sEq_dec, Bool.not_true, Bool.not_false, gt_iff_lt, ge_iff_le] at *)
      simp only [hji] at *
      rw [List.take_add_one, List.take_set_of_le (by omega), ht, markB_succ, hq]
      simp [hy, hin]
  · rintro -
    (try subst hM); (try simp only [Eng.ncast] at *); (try simp only [Eng.nI_eq] at *); (try simp only [Eng.real, decide_eq_true_eq, decide_eq_false_iff_not, Bool.not_eq_true', Bool.not_eq_false', Bool.and_eq_true, Bool.or_eq_true, Eng.sEq_dec, Bool.not_true, Bool.not_false, gt_iff_lt, ge_iff_le] at *)
    have : i = xs.length := by omega
    subst this
    refine ⟨hq, ?_⟩
    show ys = markB k xs.length
    rw [← ht, List.take_of_length_le (by omega)]
def c19 : Con := Con.of ⟨[(false, 0, tyB), (false, 0, .int .i64)], [(0, .int .i64)], fun x => x.1.length ≤ 1048576 ∧ 0 ≤ x.2.1 ∧ x.2.1 ≤ 1048576, fun x y _ => x.1 = markB x.2.1 x.1.length → y.1 = x.2.1 + x.1.length⟩
theorem ok19 : FnOK Tryd.prog 19 c19 := by
  refine FnOK.of_vc mixed tabOk .nil Tryd.func19 rfl (by decide) lv19 hd19 ?_
  rintro ⟨(xs : List Int), (k : Int), ⟨⟩⟩ ⟨(hl : xs.length ≤ 1048576), (h0 : 0 ≤ k), (h1 : k ≤ 1048576)⟩ hwf
  generalize hM : real = M
  cbv
  refine ⟨fun m Γ => ∃ (i : Nat) (j q : Int), j = i ∧ i ≤ xs.length ∧ q = k + i ∧ m = xs.length - i ∧ Γ = ⟨22, [(0, .pv [] tyB xs), (1, .pv [] (.int .i64) q), (5, .pv [] (.int .i64) j)], [], [.hole 0, .hole 0]⟩, ⟨_, 0, 0, k, rfl, Nat.zero_le _, by simp, rfl, rfl⟩, ?_⟩
  rintro m _ ⟨i, j, q, hj, hi, hq, rfl, rfl⟩ -
  cbv
  refine splM (fun h2 => ?_) (fun h2 => ?_) <;> cbv
  · have hin : i < xs.length := by
      (try subst hM); (try simp only [Eng.ncast] at *); (try simp only [Eng.nI_eq] at *); (try simp only [Eng.real, decide_eq_true_eq, decide_eq_false_iff_not, Bool.not_eq_true', Bool.not_eq_false', Bool.and_eq_true, Bool.or_eq_true, Eng.sEq_dec, Bool.not_true, Bool.not_false, gt_iff_lt, ge_iff_le] at *)
      omega
    (try simp only [Eng.ncast] at hi hj hq); (try simp only [Eng.nI_eq] at hi hj hq)
    have hji : j.toNat = i := by rw [hj]; simp
    repeat' (first | (refine And.intro (fun _ => by first | exact drawRd rfl (by decide +kernel) | exact drawTail (by decide +kernel)) ?_; cbv) | (refine And.intro (by (try subst hM); (try simp only [Eng.ncast] at *); (try simp only [Eng.nI_eq] at *); (try simp only [Eng.real, decide_eq_true_eq, decide_eq_false_iff_not, Bool.not_eq_true', Bool.not_eq_false', Bool.and_eq_true, Bool.or_eq_true, Eng.sEq_dec, Bool.not_true, Bool.not_false, gt_iff_lt, ge_iff_le] at *); omega) ?_; cbv))
    refine splM (fun h3 => ?_) (fun h3 => ?_) <;> cbv
    · rintro -
      show xs = markB k xs.length → _
      intro hm
      exfalso
      (try subst hM); (try simp only [Eng.ncast] at *); (try simp only [Eng.nI_eq] at *); (try simp only [Eng.real, decide_eq_true_eq, decide_eq_false_iff_not, Bool.not_eq_true', Bool.not_eq_false', Bool.and_eq_true, Bool.or_eq_true, Eng.sEq_dec, Bool.not_true, Bool.not_false, gt_iff_lt, ge_iff_le] at *)
      apply h3
      rw [hji, hq, List.getD_eq_getElem?_getD, hm, markB_get k hin]; rfl
    · refine ⟨xs.length - (i + 1), by omega, i + 1, _, _, ?_, hin, ?_, rfl, rfl⟩
      · (try subst hM); (try simp only [Eng.ncast] at *); (try simp only [Eng.nI_eq] at *); (try simp only [Eng.real, decide_eq_true_eq, decide_eq_false_iff_not, Bool.not_eq_true', Bool.not_eq_false', Bool.and_eq_true, Bool.or_eq_true, Eng.sEq_dec, Bool.not_true, Bool.not_false, gt_iff_lt, ge_iff_le] at *)
        rw [hj, w64 (by omega)]; omega
      · (try subst hM); (try simp only [Eng.ncast] at *); (try simp only [Eng.nI_eq] at *); (try simp only [Eng.real, decide_eq_true_eq, decide_eq_false_iff_not, Bool.not_eq_true', Bool.not_eq_false', Bool.and_eq_true, Bool.or_eq_true, Eng.sEq_dec, Bool.not_true, Bool.not_false, gt_iff_lt, ge_iff_le] at *)
        rw [hq, w64 (by omega)]; omega
  · rintro - -
    (try subst hM); (try simp only [Eng.ncast] at *); (try simp only [Eng.nI_eq] at *); (try simp only [Eng.real, decide_eq_true_eq, decide_eq_false_iff_not, Bool.not_eq_true', Bool.not_eq_false', Bool.and_eq_true, Bool.or_eq_true, Eng.sEq_dec, Bool.not_true, Bool.not_false, gt_iff_lt, ge_iff_le] at *)
    have : i = xs.length := by omega
    subst this
    exact hq
def c17 : Con := Con.of ⟨[(true, 1, tyTab), (false, 0, .int .i64)], [(0, .int .i64)], fun x => x.1.2.1.length ≤ 1048576 ∧ 0 ≤ x.2.1 ∧ x.2.1 ≤ 1048576, fun x y _ => y.1 = x.2.1 + 3 * x.1.2.1.length⟩
theorem ok17 : FnOK Tryd.prog 17 c17 := by
  refine FnOK.of_vc mixed tabOk (.cons en57 ok57 .nil) Tryd.func17 rfl (by decide) lv17 hd17 ?_
  rintro ⟨⟨(next : Int), (xs : List RunD), ⟨⟩⟩, (k : Int), ⟨⟩⟩ ⟨(hl : xs.length ≤ 1048576), (h0 : 0 ≤ k), (h1 : k ≤ 1048576)⟩ hwf
  generalize hM : real = M
  cbv
  refine ⟨fun _ => ⟨hl, h0, h1⟩, ?_⟩
  rintro ⟨(y : Int), ⟨⟩⟩ ⟨(zs : List RunD), ⟨⟩⟩ (hy : y = k + 3 * xs.length) - -
  cbv
  exact fun _ => hy
end Go.Proofs.YtegbadccjidfjaaDoor.EngTab

/- The law FnExactEncodeTable. -/
namespace Go.Proofs.YtegbadccjidfjaaDoor.EngTab
open Go.Proofs.YtegbadccjidfjaaDoor.Eng
set_option maxRecDepth 100000
set_option linter.unusedVariables false
set_option linter.unusedSimpArgs false
theorem encT_len {next : Int} {rs : List RunD} : (encT next rs).length ≤ 128 := by
  unfold encT
  split
  · rename_i h
    unfold specT sealB fillB
    have := h.2.1
    simp [numB_len, runsB_len]; omega
  · simp
theorem notT : real.not true = false := rfl
theorem eqSelf (x : Int) : real.not (real.dec (real.eq x x)) = false := by rw [dec_iff.2 (show real.eq x x from rfl)]; rfl
def c3 (g : Sen) : Con := { ps := [(false, 0, tyTab)], rs := [(0, .bool)], pre := fun _ => True, post := fun x y _ => y.1 = true, gl := g.gl4 }
set_option maxHeartbeats 4000000 in
theorem ok3 (g : Sen) : FnOK Tryd.prog 3 (c3 g) := by
  refine FnOK.of_vc mixed tabMOk (.cons en11 ok11 (.cons en12 ok12 (.cons en13 ok13 (.cons en14 (ok14 g) (.cons en15 ok15 (.cons en16 ok16 (.cons en17 ok17 (.cons en18 ok18 (.cons en19 ok19 .nil))))))))) Tryd.func3 rfl (by show 1 ≤ Tryd.f3.ntmps; decide) lv3 hd3 ?_
  rintro ⟨⟨(next : Int), (rs : List RunD), ⟨⟩⟩, ⟨⟩⟩ - hwf
  have hlm : rs.length ≤ maxL := hwf.1.2.1.1
  generalize hM : real = M
  cbv
  refine ⟨fun _ => ⟨(by show (0 : Int) ≤ 1048576; omega), (by show (1048576 : Int) ≤ 1048576; omega)⟩, ?_⟩
  rintro ⟨(y0 : Int), ⟨⟩⟩ x0 (hy0 : y0 = szV rs.length 1048576) - -
  cbv
  refine splM (fun h => ?_) (fun h => ?_) <;> cbv
  · exact fun _ => rfl
  have hl : rs.length ≤ 1048576 := by
    (try subst hM); (try simp only [Eng.ncast] at *); (try simp only [Eng.nI_eq] at *); (try simp only [Eng.real, decide_eq_true_eq, decide_eq_false_iff_not, Bool.not_eq_true', Bool.not_eq_false', Bool.and_eq_true, Bool.or_eq_true, Eng.sEq_dec, Bool.not_true, Bool.not_false, gt_iff_lt, ge_iff_le] at *)
    unfold szV at hy0
    split at hy0 <;> omega
  clear h
  refine ⟨fun _ => hl, ?_⟩
  rintro ⟨⟨(n1 : Int), (r1 : List RunD), ⟨⟩⟩, ⟨⟩⟩ x1 (h1 : (n1, r1, PUnit.unit) = (next, rs, PUnit.unit)) - -
  have h1a : n1 = next := congrArg (·.1) h1
  have h1b : r1 = rs := congrArg (·.2.1) h1
  subst h1a; subst h1b
  clear h1
  cbv
  refine ⟨fun _ => hl, ?_⟩
  rintro ⟨(w0 : List Int), (w1 : Int), ⟨⟩⟩ x2 ⟨(hw0 : w0 = encT n1 r1), (hw1 : w1 = encC (tabOK n1 r1))⟩ - -
  cbv
  refine ⟨fun _ => hl, ?_⟩
  rintro ⟨⟨(n2 : Int), (r2 : List RunD), ⟨⟩⟩, ⟨⟩⟩ x3 (h2 : (n2, r2, PUnit.unit) = (n1, r1, PUnit.unit)) - -
  have h2a : n1 = n2 := (congrArg (·.1) h2).symm
  have h2b : r1 = r2 := (congrArg (·.2.1) h2).symm
  subst h2a; subst h2b
  clear h2
  cbv
  refine ⟨fun _ => hl, ?_⟩
  rintro ⟨(g0 : List Int), (g1 : Int), ⟨⟩⟩ x4 ⟨(hg0 : g0 = encT n1 r1), (hg1 : g1 = encC (tabOK n1 r1))⟩ - -
  have hlen : (encT n1 r1).length ≤ 1048576 := Nat.le_trans encT_len (by omega)
  cbv
  refine ⟨fun _ => (by show g0.length ≤ 1048576; rw [hg0]; exact hlen), ?_⟩
  rintro ⟨(e1 : Bool), ⟨⟩⟩ x5 (he1 : g0 = w0 → e1 = true) - -
  have he1' : e1 = true := he1 (hg0.trans hw0.symm)
  subst he1'
  clear he1
  cbv
  have hgw : g1 = w1 := hg1.trans hw1.symm
  subst hgw
  refine splM (fun h => ?_) (fun h => ?_) <;> cbv
  · exfalso; subst hM; rw [notT] at h; cases h
  clear h
  refine splM (fun h => ?_) (fun h => ?_) <;> cbv
  · exfalso; subst hM; rw [eqSelf] at h; cases h
  clear h
  refine ⟨ot3_10, (fun _ => by kernel_rfl), ?_⟩
  cbv
  repeat' (first
    | exact True.intro
    | (refine And.intro ?_ True.intro)
    | (refine And.intro (fun _ => hl) ?_
       rintro ⟨⟨(n3 : Int), (r3 : List RunD), ⟨⟩⟩, ⟨⟩⟩ x6 (h3 : (n3, r3, PUnit.unit) = (n1, r1, PUnit.unit)) - -
       have h3a : n1 = n3 := (congrArg (·.1) h3).symm
       have h3b : r1 = r3 := (congrArg (·.2.1) h3).symm
       subst h3a; subst h3b
       clear h3
       cbv)
    | (refine And.intro (fun _ => hl) ?_
       rintro ⟨(e2 : Bool), ⟨⟩⟩ x7 (he2 : (n1, r1, PUnit.unit) = (n1, r1, PUnit.unit) → e2 = true) - -
       have he2' : e2 = true := he2 rfl
       subst he2'
       clear he2
       cbv)
    | (refine And.intro ?_ ?_))
  all_goals
    refine splM (fun h => ?_) (fun h => ?_) <;> cbv
    · exfalso; subst hM; rw [notT] at h; cases h
    clear h
    refine ⟨fun _ => ⟨hl, (by show (0 : Int) ≤ 1; omega), (by show (1 : Int) ≤ 1048576; omega)⟩, ?_⟩
    rintro ⟨(k1 : Int), ⟨⟩⟩ ⟨⟨(q1 : Int), (q2 : List RunD), ⟨⟩⟩, xk, ⟨⟩⟩ (hk1 : k1 = 1 + 3 * (r1.length : Int)) - -
    cbv
    refine splM (fun h => ?_) (fun h => ?_) <;> cbv
    · exfalso; (try subst hM); (try simp only [Eng.ncast] at *); (try simp only [Eng.nI_eq] at *); (try simp only [Eng.real, decide_eq_true_eq, decide_eq_false_iff_not, Bool.not_eq_true', Bool.not_eq_false', Bool.and_eq_true, Bool.or_eq_true, Eng.sEq_dec, Bool.not_true, Bool.not_false, gt_iff_lt, ge_iff_le] at *); omega
    clear h
    refine ⟨fun _ => (by show g0.length ≤ 1048576; rw [hg0]; exact hlen), ?_⟩
    rintro ⟨(e3 : Bool), ⟨⟩⟩ x8 (he3 : g0 = w0 → e3 = true) - -
    have he3' : e3 = true := he3 (hg0.trans hw0.symm)
    subst he3'
    clear he3
    cbv
    refine splM (fun h => ?_) (fun h => ?_) <;> cbv
    · exfalso; subst hM; rw [notT] at h; cases h
    clear h
    refine splM (fun h => ?_) (fun h => ?_) <;> cbv
    · exfalso; subst hM; rw [eqSelf] at h; cases h
    clear h
    refine ⟨fun _ => ⟨(by show g0.length ≤ 1048576; rw [hg0]; exact hlen), (by show (0 : Int) ≤ 1; omega), (by show (1 : Int) ≤ 1048576; omega)⟩, ?_⟩
    rintro ⟨(m1 : Int), ⟨⟩⟩ ⟨(gm : List Int), xm, ⟨⟩⟩ ⟨(hm1 : m1 = 1 + (g0.length : Int)), (hgm : gm = markB 1 g0.length)⟩ - -
    cbv
    have hgl : gm.length = g0.length := by rw [hgm, markB_len]
    refine ⟨fun _ => ⟨(by show gm.length ≤ 1048576; rw [hgl, hg0]; exact hlen), (by show (0 : Int) ≤ 1; omega), (by show (1 : Int) ≤ 1048576; omega)⟩, ?_⟩
    rintro ⟨(qq : Int), ⟨⟩⟩ x9 (hqq : gm = markB 1 gm.length → qq = 1 + (gm.length : Int)) - -
    have hqv : qq = m1 := by rw [hqq (by rw [hgl]; exact hgm), hm1, hgl]
    subst hqv
    clear hqq
    cbv
    refine splM (fun h => ?_) (fun h => ?_) <;> cbv
    · exfalso; (try subst hM); (try simp only [Eng.ncast] at *); (try simp only [Eng.nI_eq] at *); (try simp only [Eng.real, decide_eq_true_eq, decide_eq_false_iff_not, Bool.not_eq_true', Bool.not_eq_false', Bool.and_eq_true, Bool.or_eq_true, Eng.sEq_dec, Bool.not_true, Bool.not_false, gt_iff_lt, ge_iff_le] at *); omega
    clear h
    refine splM (fun h => ?_) (fun h => ?_) <;> cbv
    · exfalso; subst hM; rw [eqSelf] at h; cases h
    clear h
    refine ⟨fun _ => hl, ?_⟩
    rintro ⟨⟨(n4 : Int), (r4 : List RunD), ⟨⟩⟩, ⟨⟩⟩ x10 (h4 : (n4, r4, PUnit.unit) = (n1, r1, PUnit.unit)) - -
    have h4a : n1 = n4 := (congrArg (·.1) h4).symm
    have h4b : r1 = r4 := (congrArg (·.2.1) h4).symm
    subst h4a; subst h4b
    clear h4
    cbv
    refine ⟨fun _ => hl, ?_⟩
    rintro ⟨(h0 : List Int), (h1 : Int), ⟨⟩⟩ x11 ⟨(hh0 : h0 = encT n1 r1), (hh1 : h1 = encC (tabOK n1 r1))⟩ - -
    cbv
    refine ⟨fun _ => (by show h0.length ≤ 1048576; rw [hh0]; exact hlen), ?_⟩
    rintro ⟨(e5 : Bool), ⟨⟩⟩ x12 (he5 : h0 = w0 → e5 = true) - -
    have he5' : e5 = true := he5 (hh0.trans hw0.symm)
    subst he5'
    clear he5
    have hhw : h1 = g1 := hh1.trans hw1.symm
    subst hhw
    cbv
    refine splM (fun h => ?_) (fun h => ?_) <;> cbv
    · exfalso; subst hM; rw [notT] at h; cases h
    clear h
    refine splM (fun h => ?_) (fun h => ?_) <;> cbv
    · exfalso; subst hM; rw [eqSelf] at h; cases h
    exact fun _ => rfl
end Go.Proofs.YtegbadccjidfjaaDoor.EngTab
