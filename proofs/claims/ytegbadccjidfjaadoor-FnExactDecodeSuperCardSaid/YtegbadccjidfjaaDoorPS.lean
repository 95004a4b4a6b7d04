/- The laws' helpers for superblocks: sizes, copies, comparisons, marks. -/
import Derived.Test.YtegbadccjidfjaaDoorT4
import Derived.Test.YtegbadccjidfjaaDoorO
namespace Go.Proofs.YtegbadccjidfjaaDoor.EngTab
open Go.Proofs.YtegbadccjidfjaaDoor.Eng
set_option maxRecDepth 100000
set_option linter.unusedVariables false
set_option linter.unusedSimpArgs false
def c58 : Con := Con.of ⟨[(false, 0, .sl tyRoot), (false, 0, .int .i64)], [(0, .int .i64)], fun x => 0 ≤ x.2.1 ∧ x.2.1 ≤ 1048576, fun x y _ => y.1 = szV x.1.length x.2.1⟩
theorem ok58 : FnOK Tryd.prog 58 c58 := by
  refine FnOK.of_vc mixed tabOk .nil Tryd.func58 rfl (by decide) lv58 hd58 ?_
  rintro ⟨(rs : List RootD), (left : Int), ⟨⟩⟩ ⟨(h0 : 0 ≤ left), (h1 : left ≤ 1048576)⟩ hwf
  have hl : rs.length ≤ maxL := hwf.1.1
  rw [maxL_eq] at hl
  generalize hM : real = M
  cbv
  refine splM (fun h => ?_) (fun h => ?_) <;> cbv
  all_goals
    rintro -
    (try subst hM); (try simp only [Eng.ncast] at *); (try simp only [Eng.nI_eq] at *); (try simp only [Eng.real, decide_eq_true_eq, decide_eq_false_iff_not, Bool.not_eq_true', Bool.not_eq_false', Bool.and_eq_true, Bool.or_eq_true, Eng.sEq_dec, Bool.not_true, Bool.not_false, gt_iff_lt, ge_iff_le] at *)
    rw [w64 (by omega)] at *
    show _ = szV rs.length left
    unfold szV
    first | rw [if_pos (by omega)] | rw [if_neg (by omega)]
def c20 : Con := Con.of ⟨[(false, 0, tySup), (false, 0, .int .i64)], [(0, .int .i64)], fun x => 0 ≤ x.2.1 ∧ x.2.1 ≤ 1048576, fun x y _ => y.1 = szV x.1.2.2.2.2.1.length x.2.1⟩
theorem ok20 : FnOK Tryd.prog 20 c20 := by
  refine FnOK.of_vc mixed tabOk (.cons en58 ok58 .nil) Tryd.func20 rfl (by decide) lv20 hd20 ?_
  rintro ⟨⟨(bl : Int), (ge : Int), (ne : Int), (ta : Int), (rs : List RootD), ⟨⟩⟩, (left : Int), ⟨⟩⟩ ⟨(h0 : 0 ≤ left), (h1 : left ≤ 1048576)⟩ hwf
  generalize hM : real = M
  cbv
  refine ⟨fun _ => ⟨h0, h1⟩, ?_⟩
  rintro ⟨(y : Int), ⟨⟩⟩ x' (hy : y = szV rs.length left) - -
  cbv
  refine splM (fun h => ?_) (fun h => ?_) <;> cbv
  all_goals
    rintro -
    (try subst hM); (try simp only [Eng.ncast] at *); (try simp only [Eng.nI_eq] at *); (try simp only [Eng.real, decide_eq_true_eq, decide_eq_false_iff_not, Bool.not_eq_true', Bool.not_eq_false', Bool.and_eq_true, Bool.or_eq_true, Eng.sEq_dec, Bool.not_true, Bool.not_false, gt_iff_lt, ge_iff_le] at *)
    show _ = szV rs.length left
    unfold szV at *
    split at hy <;> omega
def c97 : Con := Con.of ⟨[(false, 0, tyRoot)], [(0, tyRoot)], fun _ => True, fun x y _ => y.1 = x.1⟩
theorem ok97 : FnOK Tryd.prog 97 c97 := by
  refine FnOK.of_vc mixed tabOk .nil Tryd.func97 rfl (by decide) lv97 hd97 ?_
  rintro ⟨⟨(a : Int), (b : Int), ⟨⟩⟩, ⟨⟩⟩ - hwf
  generalize hM : real = M
  cbv
  exact fun _ => rfl
def c60 : Con := Con.of ⟨[(false, 0, .sl tyRoot)], [(1, .sl tyRoot)], fun x => x.1.length ≤ 1048576, fun x y _ => y.1 = x.1⟩
theorem ok60 : FnOK Tryd.prog 60 c60 := by
  refine FnOK.of_vc mixed tabOk (.cons en97 ok97 .nil) Tryd.func60 rfl (by decide) lv60 hd60 ?_
  rintro ⟨(rs : List RootD), ⟨⟩⟩ (hl : rs.length ≤ 1048576) hwf
  generalize hM : real = M
  cbv
  refine ⟨by (try subst hM); (try simp only [Eng.ncast] at *); (try simp only [Eng.nI_eq] at *); (try simp only [Eng.real, decide_eq_true_eq, decide_eq_false_iff_not, Bool.not_eq_true', Bool.not_eq_false', Bool.and_eq_true, Bool.or_eq_true, Eng.sEq_dec, Bool.not_true, Bool.not_false, gt_iff_lt, ge_iff_le] at *), by (try subst hM); (try simp only [Eng.ncast] at *); (try simp only [Eng.nI_eq] at *); (try simp only [Eng.real, decide_eq_true_eq, decide_eq_false_iff_not, Bool.not_eq_true', Bool.not_eq_false', Bool.and_eq_true, Bool.or_eq_true, Eng.sEq_dec, Bool.not_true, Bool.not_false, gt_iff_lt, ge_iff_le] at *); omega, ?_⟩
  refine ⟨fun m Γ => ∃ (i : Nat) (j : Int) (ys : List RootD), j = i ∧ i ≤ rs.length ∧ (ys.length = rs.length ∧ ys.take i = rs.take i) ∧ m = rs.length - i ∧ Γ = ⟨23, [(0, .pv [] (.sl tyRoot) rs), (3, .ref 0), (4, .pv [] (.int .i64) j)], [(0, .row 0 tyRoot ys)], [.hole 0]⟩, ⟨_, 0, 0, _, rfl, Nat.zero_le _, ⟨by (try subst hM); (try simp only [Eng.ncast] at *); (try simp only [Eng.nI_eq] at *); (try simp only [Eng.real, decide_eq_true_eq, decide_eq_false_iff_not, Bool.not_eq_true', Bool.not_eq_false', Bool.and_eq_true, Bool.or_eq_true, Eng.sEq_dec, Bool.not_true, Bool.not_false, gt_iff_lt, ge_iff_le] at *); simp, by simp⟩, rfl, rfl⟩, ?_⟩
  rintro m _ ⟨i, j, ys, hj, hi, ⟨hy1, hy2⟩, rfl, rfl⟩ -
  cbv
  refine splM (fun h => ?_) (fun h => ?_) <;> cbv
  · have hin : i < rs.length := by
      (try subst hM); (try simp only [Eng.ncast] at *); (try simp only [Eng.nI_eq] at *); (try simp only [Eng.real, decide_eq_true_eq, decide_eq_false_iff_not, Bool.not_eq_true', Bool.not_eq_false', Bool.and_eq_true, Bool.or_eq_true, Eng.sEq_dec, Bool.not_true, Bool.not_false, gt_iff_lt, ge_iff_le] at *)
      omega
    (try simp only [Eng.ncast] at hi hj); (try simp only [Eng.nI_eq] at hi hj)
    have hji : j.toNat = i := by rw [hj]; simp
    refine ⟨by (try subst hM); (try simp only [Eng.ncast] at *); (try simp only [Eng.nI_eq] at *); (try simp only [Eng.real, decide_eq_true_eq, decide_eq_false_iff_not, Bool.not_eq_true', Bool.not_eq_false', Bool.and_eq_true, Bool.or_eq_true, Eng.sEq_dec, Bool.not_true, Bool.not_false, gt_iff_lt, ge_iff_le] at *); omega, by (try subst hM); (try simp only [Eng.ncast] at *); (try simp only [Eng.nI_eq] at *); (try simp only [Eng.real, decide_eq_true_eq, decide_eq_false_iff_not, Bool.not_eq_true', Bool.not_eq_false', Bool.and_eq_true, Bool.or_eq_true, Eng.sEq_dec, Bool.not_true, Bool.not_false, gt_iff_lt, ge_iff_le] at *); omega, fun _ => trivial, ?_⟩
    rintro ⟨(z : RootD), ⟨⟩⟩ x' (hz : z = M.get rs j (0, 0, PUnit.unit)) - -
    obtain ⟨z1, z2, ⟨⟩⟩ := z
    cbv
    repeat' (first | (refine And.intro (fun _ => by first | exact drawRd rfl (by decide +kernel) | exact drawTail (by decide +kernel)) ?_; cbv) | (refine And.intro (by (try subst hM); (try simp only [Eng.ncast] at *); (try simp only [Eng.nI_eq] at *); (try simp only [Eng.real, decide_eq_true_eq, decide_eq_false_iff_not, Bool.not_eq_true', Bool.not_eq_false', Bool.and_eq_true, Bool.or_eq_true, Eng.sEq_dec, Bool.not_true, Bool.not_false, gt_iff_lt, ge_iff_le] at *); omega) ?_; cbv))
    refine ⟨rs.length - (i + 1), by omega, i + 1, _, _, ?_, hin, ⟨?_, ?_⟩, rfl, rfl⟩
    · (try subst hM); (try simp only [Eng.ncast] at *); (try simp only [Eng.nI_eq] at *); (try simp only [Eng.real, decide_eq_true_eq, decide_eq_false_iff_not, Bool.not_eq_true', Bool.not_eq_false', Bool.and_eq_true, Bool.or_eq_true, Eng.sEq_dec, Bool.not_true, Bool.not_false, gt_iff_lt, ge_iff_le] at *)
      rw [hj, w64 (by omega)]; omega
    · (try subst hM); (try simp only [Eng.ncast] at *); (try simp only [Eng.nI_eq] at *); (try simp only [Eng.real, decide_eq_true_eq, decide_eq_false_iff_not, Bool.not_eq_true', Bool.not_eq_false', Bool.and_eq_true, Bool.or_eq_true, Eng.sEq_dec, Bool.not_true, Bool.not_false, gt_iff_lt, ge_iff_le] at *)
      simp [hy1]
    · (try subst hM); (try simp only [Eng.ncast] at *); (try simp only [Eng.nI_eq] at *); (try simp only [Eng.real, decide_eq_true_eq, decide_eq_false_iff_not, Bool.not_eq_true', Bool.not_eq_false', Bool.and_eq_true, Bool.or_eq_true, Eng.sEq_dec, Bool.not_true, Bool.not_false, gt_iff_lt, ge_iff_le] at *)
      simp only [hji] at *
      rw [hz, List.getD_eq_getElem?_getD, List.getElem?_eq_getElem hin, Option.getD_some, List.take_add_one, List.take_add_one, List.take_set_of_le (by omega), hy2]
      simp [hy1, hin]
  · rintro -
    (try subst hM); (try simp only [Eng.ncast] at *); (try simp only [Eng.nI_eq] at *); (try simp only [Eng.real, decide_eq_true_eq, decide_eq_false_iff_not, Bool.not_eq_true', Bool.not_eq_false', Bool.and_eq_true, Bool.or_eq_true, Eng.sEq_dec, Bool.not_true, Bool.not_false, gt_iff_lt, ge_iff_le] at *)
    have : i = rs.length := by omega
    subst this
    show ys = rs
    rw [List.take_of_length_le (by omega), List.take_length] at hy2
    exact hy2
def c22 : Con := Con.of ⟨[(false, 0, tySup)], [(1, tySup)], fun x => x.1.2.2.2.2.1.length ≤ 1048576, fun x y _ => y.1 = x.1⟩
theorem ok22 : FnOK Tryd.prog 22 c22 := by
  refine FnOK.of_vc mixed tabOk (.cons en60 ok60 .nil) Tryd.func22 rfl (by decide) lv22 hd22 ?_
  rintro ⟨⟨(bl : Int), (ge : Int), (ne : Int), (ta : Int), (rs : List RootD), ⟨⟩⟩, ⟨⟩⟩ (hl : rs.length ≤ 1048576) hwf
  generalize hM : real = M
  cbv
  refine ⟨fun _ => hl, ?_⟩
  rintro ⟨(z : List RootD), ⟨⟩⟩ x' (hz : z = rs) - -
  cbv
  rintro -
  subst hz; rfl
def c98 : Con := Con.of ⟨[(false, 0, tyRoot), (false, 0, tyRoot)], [(0, .bool)], fun _ => True, fun x y _ => (y.1 = true ↔ x.1 = x.2.1)⟩
theorem ok98 : FnOK Tryd.prog 98 c98 := by
  refine FnOK.of_vc mixed tabOk .nil Tryd.func98 rfl (by decide) lv98 hd98 ?_
  rintro ⟨⟨(a : Int), (b : Int), ⟨⟩⟩, ⟨(d : Int), (e : Int), ⟨⟩⟩, ⟨⟩⟩ - hwf
  generalize hM : real = M
  cbv
  repeat' (refine splM (fun h => ?_) (fun h => ?_) <;> cbv)
  all_goals
    rintro -
    (try subst hM); (try simp only [Eng.ncast] at *); (try simp only [Eng.nI_eq] at *); (try simp only [Eng.real, decide_eq_true_eq, decide_eq_false_iff_not, Bool.not_eq_true', Bool.not_eq_false', Bool.and_eq_true, Bool.or_eq_true, Eng.sEq_dec, Bool.not_true, Bool.not_false, gt_iff_lt, ge_iff_le] at *)
    show (_ = true) ↔ ((a, b, PUnit.unit) = (d, e, PUnit.unit))
    simp_all
def c61 : Con := Con.of ⟨[(false, 0, .sl tyRoot), (false, 0, .sl tyRoot)], [(0, .bool)], fun x => x.1.length ≤ 1048576, fun x y _ => (x.1 = x.2.1 → y.1 = true)⟩
theorem ok61 : FnOK Tryd.prog 61 c61 := by
  refine FnOK.of_vc mixed tabOk (.cons en98 ok98 .nil) Tryd.func61 rfl (by decide) lv61 hd61 ?_
  rintro ⟨(xs : List RootD), (ys : List RootD), ⟨⟩⟩ (hl : xs.length ≤ 1048576) hwf
  generalize hM : real = M
  cbv
  refine splM (fun h => ?_) (fun h => ?_) <;> cbv
  · rintro -
    show xs = ys → _
    rintro rfl
    exfalso
    (try subst hM); (try simp only [Eng.ncast] at *); (try simp only [Eng.nI_eq] at *); (try simp only [Eng.real, decide_eq_true_eq, decide_eq_false_iff_not, Bool.not_eq_true', Bool.not_eq_false', Bool.and_eq_true, Bool.or_eq_true, Eng.sEq_dec, Bool.not_true, Bool.not_false, gt_iff_lt, ge_iff_le] at *)
    exact h trivial
  have hyl : ys.length = xs.length := by
    (try subst hM); (try simp only [Eng.ncast] at *); (try simp only [Eng.nI_eq] at *); (try simp only [Eng.real, decide_eq_true_eq, decide_eq_false_iff_not, Bool.not_eq_true', Bool.not_eq_false', Bool.and_eq_true, Bool.or_eq_true, Eng.sEq_dec, Bool.not_true, Bool.not_false, gt_iff_lt, ge_iff_le] at *)
    omega
  refine ⟨fun m Γ => ∃ (i : Nat) (j : Int), j = i ∧ i ≤ xs.length ∧ m = xs.length - i ∧ Γ = ⟨27, [(0, .pv [] (.sl tyRoot) xs), (1, .pv [] (.sl tyRoot) ys), (5, .pv [] (.int .i64) j)], [], [.hole 0, .hole 0]⟩, ⟨_, 0, 0, rfl, Nat.zero_le _, rfl, rfl⟩, ?_⟩
  rintro m _ ⟨i, j, hj, hi, rfl, rfl⟩ -
  cbv
  refine splM (fun h2 => ?_) (fun h2 => ?_) <;> cbv
  · have hin : i < xs.length := by
      (try subst hM); (try simp only [Eng.ncast] at *); (try simp only [Eng.nI_eq] at *); (try simp only [Eng.real, decide_eq_true_eq, decide_eq_false_iff_not, Bool.not_eq_true', Bool.not_eq_false', Bool.and_eq_true, Bool.or_eq_true, Eng.sEq_dec, Bool.not_true, Bool.not_false, gt_iff_lt, ge_iff_le] at *)
      omega
    (try simp only [Eng.ncast] at hi hj); (try simp only [Eng.nI_eq] at hi hj)
    refine ⟨(fun _ => by first | exact drawRd rfl (by decide +kernel) | exact drawTail (by decide +kernel)), by (try subst hM); (try simp only [Eng.ncast] at *); (try simp only [Eng.nI_eq] at *); (try simp only [Eng.real, decide_eq_true_eq, decide_eq_false_iff_not, Bool.not_eq_true', Bool.not_eq_false', Bool.and_eq_true, Bool.or_eq_true, Eng.sEq_dec, Bool.not_true, Bool.not_false, gt_iff_lt, ge_iff_le] at *); omega, by (try subst hM); (try simp only [Eng.ncast] at *); (try simp only [Eng.nI_eq] at *); (try simp only [Eng.real, decide_eq_true_eq, decide_eq_false_iff_not, Bool.not_eq_true', Bool.not_eq_false', Bool.and_eq_true, Bool.or_eq_true, Eng.sEq_dec, Bool.not_true, Bool.not_false, gt_iff_lt, ge_iff_le] at *); omega, by (try subst hM); (try simp only [Eng.ncast] at *); (try simp only [Eng.nI_eq] at *); (try simp only [Eng.real, decide_eq_true_eq, decide_eq_false_iff_not, Bool.not_eq_true', Bool.not_eq_false', Bool.and_eq_true, Bool.or_eq_true, Eng.sEq_dec, Bool.not_true, Bool.not_false, gt_iff_lt, ge_iff_le] at *); omega, by (try subst hM); (try simp only [Eng.ncast] at *); (try simp only [Eng.nI_eq] at *); (try simp only [Eng.real, decide_eq_true_eq, decide_eq_false_iff_not, Bool.not_eq_true', Bool.not_eq_false', Bool.and_eq_true, Bool.or_eq_true, Eng.sEq_dec, Bool.not_true, Bool.not_false, gt_iff_lt, ge_iff_le] at *); omega, fun _ => trivial, ?_⟩
    rintro ⟨(z : Bool), ⟨⟩⟩ x' (hz : z = true ↔ M.get xs j (0, 0, PUnit.unit) = M.get ys j (0, 0, PUnit.unit)) - -
    cbv
    refine splM (fun h3 => ?_) (fun h3 => ?_) <;> cbv
    · rintro -
      show xs = ys → _
      rintro rfl
      exfalso
      have hzt := hz.2 rfl
      subst hzt
      subst hM
      cases h3
    · refine ⟨xs.length - (i + 1), by omega, i + 1, _, ?_, hin, rfl, rfl⟩
      (try subst hM); (try simp only [Eng.ncast] at *); (try simp only [Eng.nI_eq] at *); (try simp only [Eng.real, decide_eq_true_eq, decide_eq_false_iff_not, Bool.not_eq_true', Bool.not_eq_false', Bool.and_eq_true, Bool.or_eq_true, Eng.sEq_dec, Bool.not_true, Bool.not_false, gt_iff_lt, ge_iff_le] at *)
      rw [hj, w64 (by omega)]; omega
  · rintro - -
    rfl
def c24 : Con := Con.of ⟨[(false, 0, tySup), (false, 0, tySup)], [(0, .bool)], fun x => x.1.2.2.2.2.1.length ≤ 1048576, fun x y _ => (x.1 = x.2.1 → y.1 = true)⟩
theorem ok24 : FnOK Tryd.prog 24 c24 := by
  refine FnOK.of_vc mixed tabOk (.cons en61 ok61 .nil) Tryd.func24 rfl (by decide) lv24 hd24 ?_
  rintro ⟨⟨(b1 : Int), (g1 : Int), (n1 : Int), (t1 : Int), (xs : List RootD), ⟨⟩⟩, ⟨(b2 : Int), (g2 : Int), (n2 : Int), (t2 : Int), (ys : List RootD), ⟨⟩⟩, ⟨⟩⟩ (hl : xs.length ≤ 1048576) hwf
  generalize hM : real = M
  cbv
  repeat' (refine splM (fun h => ?_) (fun h => ?_) <;> cbv)
  all_goals first
    | (rintro -
       show ((b1, g1, n1, t1, xs, PUnit.unit) : Int × Int × Int × Int × List RootD × Unit) = (b2, g2, n2, t2, ys, PUnit.unit) → _
       rintro e
       cases e
       exfalso
       (try subst hM); (try simp only [Eng.ncast] at *); (try simp only [Eng.nI_eq] at *); (try simp only [Eng.real, decide_eq_true_eq, decide_eq_false_iff_not, Bool.not_eq_true', Bool.not_eq_false', Bool.and_eq_true, Bool.or_eq_true, Eng.sEq_dec, Bool.not_true, Bool.not_false, gt_iff_lt, ge_iff_le] at *)
       exact h trivial)
    | skip
  · refine ⟨fun _ => hl, ?_⟩
    rintro ⟨(z : Bool), ⟨⟩⟩ x' (hz : xs = ys → z = true) - -
    cbv
    refine splM (fun h3 => ?_) (fun h3 => ?_) <;> cbv
    · rintro -
      show ((b1, g1, n1, t1, xs, PUnit.unit) : Int × Int × Int × Int × List RootD × Unit) = (b2, g2, n2, t2, ys, PUnit.unit) → _
      rintro e
      cases e
      have := hz rfl
      subst this
      subst hM
      cases h3
    · rintro - -
      rfl
def c62 : Con := Con.of ⟨[(true, 1, .sl tyRoot), (false, 0, .int .i64)], [(0, .int .i64)], fun x => x.1.length ≤ 1048576 ∧ 0 ≤ x.2.1 ∧ x.2.1 ≤ 1048576, fun x y _ => y.1 = x.2.1 + 2 * x.1.length⟩
theorem ok62 : FnOK Tryd.prog 62 c62 := by
  refine FnOK.of_vc mixed tabOk .nil Tryd.func62 rfl (by decide) lv62 hd62 ?_
  rintro ⟨(xs : List RootD), (k : Int), ⟨⟩⟩ ⟨(hl : xs.length ≤ 1048576), (h0 : 0 ≤ k), (h1 : k ≤ 1048576)⟩ hwf
  generalize hM : real = M
  cbv
  refine ⟨fun m Γ => ∃ (i : Nat) (j q : Int) (ys : List RootD), j = i ∧ i ≤ xs.length ∧ (ys.length = xs.length ∧ q = k + 2 * i) ∧ m = xs.length - i ∧ Γ = ⟨27, [(0, .ref 0), (1, .pv [] (.int .i64) q), (5, .pv [] (.int .i64) j)], [(0, .row 0 tyRoot ys)], [.ref 0, .hole 0]⟩, ⟨_, 0, 0, k, xs, rfl, Nat.zero_le _, ⟨rfl, by simp⟩, rfl, rfl⟩, ?_⟩
  rintro m _ ⟨i, j, q, ys, hj, hi, ⟨hy, hq⟩, rfl, rfl⟩ -
  cbv
  refine splM (fun h2 => ?_) (fun h2 => ?_) <;> cbv
  · have hin : i < xs.length := by
      (try subst hM); (try simp only [Eng.ncast] at *); (try simp only [Eng.nI_eq] at *); (try simp only [Eng.real, decide_eq_true_eq, decide_eq_false_iff_not, Bool.not_eq_true', Bool.not_eq_false', Bool.and_eq_true, Bool.or_eq_true, Eng.sEq_dec, Bool.not_true, Bool.not_false, gt_iff_lt, ge_iff_le] at *)
      omega
    (try simp only [Eng.ncast] at hi hj hq); (try simp only [Eng.nI_eq] at hi hj hq)
    repeat' (first | (refine And.intro (fun _ => by first | exact drawRd rfl (by decide +kernel) | exact drawTail (by decide +kernel)) ?_; cbv) | (refine And.intro (by (try subst hM); (try simp only [Eng.ncast] at *); (try simp only [Eng.nI_eq] at *); (try simp only [Eng.real, decide_eq_true_eq, decide_eq_false_iff_not, Bool.not_eq_true', Bool.not_eq_false', Bool.and_eq_true, Bool.or_eq_true, Eng.sEq_dec, Bool.not_true, Bool.not_false, gt_iff_lt, ge_iff_le] at *); first | omega | (simp; omega)) ?_; cbv))
    refine ⟨xs.length - (i + 1), by omega, i + 1, _, _, _, ?_, hin, ⟨?_, ?_⟩, rfl, rfl⟩
    · (try subst hM); (try simp only [Eng.ncast] at *); (try simp only [Eng.nI_eq] at *); (try simp only [Eng.real, decide_eq_true_eq, decide_eq_false_iff_not, Bool.not_eq_true', Bool.not_eq_false', Bool.and_eq_true, Bool.or_eq_true, Eng.sEq_dec, Bool.not_true, Bool.not_false, gt_iff_lt, ge_iff_le] at *)
      rw [hj, w64 (by omega)]; omega
    · (try subst hM); (try simp only [Eng.ncast] at *); (try simp only [Eng.nI_eq] at *); (try simp only [Eng.real, decide_eq_true_eq, decide_eq_false_iff_not, Bool.not_eq_true', Bool.not_eq_false', Bool.and_eq_true, Bool.or_eq_true, Eng.sEq_dec, Bool.not_true, Bool.not_false, gt_iff_lt, ge_iff_le] at *)
      simp [hy]
    · (try subst hM); (try simp only [Eng.ncast] at *); (try simp only [Eng.nI_eq] at *); (try simp only [Eng.real, decide_eq_true_eq, decide_eq_false_iff_not, Bool.not_eq_true', Bool.not_eq_false', Bool.and_eq_true, Bool.or_eq_true, Eng.sEq_dec, Bool.not_true, Bool.not_false, gt_iff_lt, ge_iff_le] at *)
      rw [hq, w64 (x := k + 2 * (i : Int) + 1) (by omega), w64 (by omega)]; omega
  · rintro -
    (try subst hM); (try simp only [Eng.ncast] at *); (try simp only [Eng.nI_eq] at *); (try simp only [Eng.real, decide_eq_true_eq, decide_eq_false_iff_not, Bool.not_eq_true', Bool.not_eq_false', Bool.and_eq_true, Bool.or_eq_true, Eng.sEq_dec, Bool.not_true, Bool.not_false, gt_iff_lt, ge_iff_le] at *)
    have : i = xs.length := by omega
    subst this
    exact hq
def c25 : Con := Con.of ⟨[(true, 1, tySup), (false, 0, .int .i64)], [(0, .int .i64)], fun x => x.1.2.2.2.2.1.length ≤ 1048576 ∧ 0 ≤ x.2.1 ∧ x.2.1 ≤ 1048576, fun x y _ => y.1 = x.2.1 + 2 * x.1.2.2.2.2.1.length⟩
theorem ok25 : FnOK Tryd.prog 25 c25 := by
  refine FnOK.of_vc mixed tabOk (.cons en62 ok62 .nil) Tryd.func25 rfl (by decide) lv25 hd25 ?_
  rintro ⟨⟨(bl : Int), (ge : Int), (ne : Int), (ta : Int), (xs : List RootD), ⟨⟩⟩, (k : Int), ⟨⟩⟩ ⟨(hl : xs.length ≤ 1048576), (h0 : 0 ≤ k), (h1 : k ≤ 1048576)⟩ hwf
  generalize hM : real = M
  cbv
  refine ⟨fun _ => ⟨hl, h0, h1⟩, ?_⟩
  rintro ⟨(y : Int), ⟨⟩⟩ ⟨(zs : List RootD), ⟨⟩⟩ (hy : y = k + 2 * xs.length) - -
  cbv
  exact fun _ => hy
end Go.Proofs.YtegbadccjidfjaaDoor.EngTab
