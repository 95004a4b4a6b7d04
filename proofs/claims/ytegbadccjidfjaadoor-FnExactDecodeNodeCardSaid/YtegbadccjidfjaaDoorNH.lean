/- The laws' helpers for nodes: sizes, copies, comparisons, marks. -/
import Derived.Test.YtegbadccjidfjaaDoorT4
import Derived.Test.YtegbadccjidfjaaDoorNS
namespace Go.Proofs.YtegbadccjidfjaaDoor.EngTab
open Go.Proofs.YtegbadccjidfjaaDoor.Eng
set_option maxRecDepth 100000
set_option linter.unusedVariables false
set_option linter.unusedSimpArgs false
def c103 : Con := Con.of ⟨[(false, 0, tyEnt), (false, 0, .int .i64)], [(0, .int .i64)], fun x => 0 ≤ x.2.1 ∧ x.2.1 ≤ 1048576, fun x y _ => -1 ≤ y.1 ∧ y.1 ≤ x.2.1⟩
theorem ok103 : FnOK Tryd.prog 103 c103 := by
  refine FnOK.of_vc mixed tabOk .nil Tryd.func103 rfl (by decide) lv103 hd103 ?_
  rintro ⟨⟨(ky : ByteArray), (vl : ByteArray), (ch : Int), ⟨⟩⟩, (left : Int), ⟨⟩⟩ ⟨(h0 : 0 ≤ left), (h1 : left ≤ 1048576)⟩ hwf
  have hk : ky.size ≤ maxL := hwf.1.1
  have hv : vl.size ≤ maxL := hwf.1.2.1
  rw [maxL_eq] at hk hv
  generalize hM : real = M
  cbv
  repeat' (refine splM (fun h => ?_) (fun h => ?_) <;> cbv)
  all_goals
    rintro -
    (try subst hM); (try simp only [Eng.ncast] at *); (try simp only [Eng.nI_eq] at *); (try simp only [Eng.real, decide_eq_true_eq, decide_eq_false_iff_not, Bool.not_eq_true', Bool.not_eq_false', Bool.and_eq_true, Bool.or_eq_true, Eng.sEq_dec, Bool.not_true, Bool.not_false, gt_iff_lt, ge_iff_le] at *)
    have e1 := w64 (x := left - (ky.size : Int)) (by omega)
    have e2 := w64 (x := left - (ky.size : Int) - (vl.size : Int)) (by omega)
    simp only [e1, e2] at *
    refine ⟨?_, ?_⟩ <;> first | (show (-1 : Int) ≤ _; omega) | (show _ ≤ left; omega)
def c69 : Con := Con.of ⟨[(false, 0, .sl tyEnt), (false, 0, .int .i64)], [(0, .int .i64)], fun x => 0 ≤ x.2.1 ∧ x.2.1 ≤ 1048576, fun x y _ => y.1 < 0 ∨ x.1.length ≤ 1048576⟩
theorem ok69 : FnOK Tryd.prog 69 c69 := by
  refine FnOK.of_vc mixed tabOk (.cons en103 ok103 .nil) Tryd.func69 rfl (by decide) lv69 hd69 ?_
  rintro ⟨(es : List EntD), (left : Int), ⟨⟩⟩ ⟨(h0 : 0 ≤ left), (h1 : left ≤ 1048576)⟩ hwf
  have hl : es.length ≤ maxL := hwf.1.1
  rw [maxL_eq] at hl
  generalize hM : real = M
  cbv
  refine splM (fun h => ?_) (fun h => ?_) <;> cbv
  · exact fun _ => .inl (by show (-1 : Int) < 0; omega)
  have hle : es.length ≤ 1048576 ∧ 0 ≤ IntKind.wrap .i64 (left - (es.length : Int)) ∧ IntKind.wrap .i64 (left - (es.length : Int)) ≤ 1048576 := by
    (try subst hM); (try simp only [Eng.ncast] at *); (try simp only [Eng.nI_eq] at *); (try simp only [Eng.real, decide_eq_true_eq, decide_eq_false_iff_not, Bool.not_eq_true', Bool.not_eq_false', Bool.and_eq_true, Bool.or_eq_true, Eng.sEq_dec, Bool.not_true, Bool.not_false, gt_iff_lt, ge_iff_le] at *)
    rw [w64 (by omega)] at *
    omega
  refine ⟨fun m Γ => ∃ (i : Nat) (j q : Int), j = i ∧ i ≤ es.length ∧ (0 ≤ q ∧ q ≤ 1048576) ∧ m = es.length - i ∧ Γ = ⟨27, [(0, .pv [] (.sl tyEnt) es), (1, .pv [] (.int .i64) q), (5, .pv [] (.int .i64) j)], [], [.hole 0, .hole 0]⟩, ⟨_, 0, 0, _, rfl, Nat.zero_le _, ?_, rfl, rfl⟩, ?_⟩
  · (try subst hM); (try simp only [Eng.ncast] at *); (try simp only [Eng.nI_eq] at *); (try simp only [Eng.real, decide_eq_true_eq, decide_eq_false_iff_not, Bool.not_eq_true', Bool.not_eq_false', Bool.and_eq_true, Bool.or_eq_true, Eng.sEq_dec, Bool.not_true, Bool.not_false, gt_iff_lt, ge_iff_le] at *)
    exact hle.2
  have hl20 := hle.1
  rintro m _ ⟨i, j, q, hj, hi, hq, rfl, rfl⟩ -
  cbv
  refine splM (fun h2 => ?_) (fun h2 => ?_) <;> cbv
  · have hin : i < es.length := by
      (try subst hM); (try simp only [Eng.ncast] at *); (try simp only [Eng.nI_eq] at *); (try simp only [Eng.real, decide_eq_true_eq, decide_eq_false_iff_not, Bool.not_eq_true', Bool.not_eq_false', Bool.and_eq_true, Bool.or_eq_true, Eng.sEq_dec, Bool.not_true, Bool.not_false, gt_iff_lt, ge_iff_le] at *)
      omega
    (try simp only [Eng.ncast] at hi hj); (try simp only [Eng.nI_eq] at hi hj)
    refine ⟨by (try subst hM); (try simp only [Eng.ncast] at *); (try simp only [Eng.nI_eq] at *); (try simp only [Eng.real, decide_eq_true_eq, decide_eq_false_iff_not, Bool.not_eq_true', Bool.not_eq_false', Bool.and_eq_true, Bool.or_eq_true, Eng.sEq_dec, Bool.not_true, Bool.not_false, gt_iff_lt, ge_iff_le] at *); omega, by (try subst hM); (try simp only [Eng.ncast] at *); (try simp only [Eng.nI_eq] at *); (try simp only [Eng.real, decide_eq_true_eq, decide_eq_false_iff_not, Bool.not_eq_true', Bool.not_eq_false', Bool.and_eq_true, Bool.or_eq_true, Eng.sEq_dec, Bool.not_true, Bool.not_false, gt_iff_lt, ge_iff_le] at *); omega, fun _ => hq, ?_⟩
    rintro ⟨(z : Int), ⟨⟩⟩ x' ⟨(hz1 : -1 ≤ z), (hz2 : z ≤ q)⟩ - -
    cbv
    refine splM (fun h3 => ?_) (fun h3 => ?_) <;> cbv
    · exact fun _ => .inl (by show (-1 : Int) < 0; omega)
    · have hz0 : 0 ≤ z := by
        (try subst hM); (try simp only [Eng.ncast] at *); (try simp only [Eng.nI_eq] at *); (try simp only [Eng.real, decide_eq_true_eq, decide_eq_false_iff_not, Bool.not_eq_true', Bool.not_eq_false', Bool.and_eq_true, Bool.or_eq_true, Eng.sEq_dec, Bool.not_true, Bool.not_false, gt_iff_lt, ge_iff_le] at *)
        omega
      refine ⟨es.length - (i + 1), by omega, i + 1, _, _, ?_, hin, ⟨hz0, by omega⟩, rfl, rfl⟩
      (try subst hM); (try simp only [Eng.ncast] at *); (try simp only [Eng.nI_eq] at *); (try simp only [Eng.real, decide_eq_true_eq, decide_eq_false_iff_not, Bool.not_eq_true', Bool.not_eq_false', Bool.and_eq_true, Bool.or_eq_true, Eng.sEq_dec, Bool.not_true, Bool.not_false, gt_iff_lt, ge_iff_le] at *)
      rw [hj, w64 (by omega)]; omega
  · exact fun _ => .inr hl20
def c33 : Con := Con.of ⟨[(false, 0, tyNode), (false, 0, .int .i64)], [(0, .int .i64)], fun x => 0 ≤ x.2.1 ∧ x.2.1 ≤ 1048576, fun x y _ => y.1 < 0 ∨ x.1.2.1.length ≤ 1048576⟩
theorem ok33 : FnOK Tryd.prog 33 c33 := by
  refine FnOK.of_vc mixed tabOk (.cons en69 ok69 .nil) Tryd.func33 rfl (by decide) lv33 hd33 ?_
  rintro ⟨⟨(kind : Int), (es : List EntD), ⟨⟩⟩, (left : Int), ⟨⟩⟩ ⟨(h0 : 0 ≤ left), (h1 : left ≤ 1048576)⟩ hwf
  generalize hM : real = M
  cbv
  refine ⟨fun _ => ⟨h0, h1⟩, ?_⟩
  rintro ⟨(y : Int), ⟨⟩⟩ x' (hy : y < 0 ∨ es.length ≤ 1048576) - -
  cbv
  refine splM (fun h => ?_) (fun h => ?_) <;> cbv
  · exact fun _ => .inl (by show (-1 : Int) < 0; omega)
  · exact fun _ => hy
def c104 : Con := Con.of ⟨[(false, 0, tyEnt)], [(0, tyEnt)], fun _ => True, fun x y _ => y.1 = x.1⟩
theorem ok104 : FnOK Tryd.prog 104 c104 := by
  refine FnOK.of_vc mixed tabOk .nil Tryd.func104 rfl (by decide) lv104 hd104 ?_
  rintro ⟨⟨(a : ByteArray), (b : ByteArray), (c : Int), ⟨⟩⟩, ⟨⟩⟩ - hwf
  generalize hM : real = M
  cbv
  exact fun _ => rfl
def c72 : Con := Con.of ⟨[(false, 0, .sl tyEnt)], [(1, .sl tyEnt)], fun x => x.1.length ≤ 1048576, fun x y _ => y.1 = x.1⟩
theorem ok72 : FnOK Tryd.prog 72 c72 := by
  refine FnOK.of_vc mixed tabOk (.cons en104 ok104 .nil) Tryd.func72 rfl (by decide) lv72 hd72 ?_
  rintro ⟨(rs : List EntD), ⟨⟩⟩ (hl : rs.length ≤ 1048576) hwf
  generalize hM : real = M
  cbv
  refine ⟨by (try subst hM); (try simp only [Eng.ncast] at *); (try simp only [Eng.nI_eq] at *); (try simp only [Eng.real, decide_eq_true_eq, decide_eq_false_iff_not, Bool.not_eq_true', Bool.not_eq_false', Bool.and_eq_true, Bool.or_eq_true, Eng.sEq_dec, Bool.not_true, Bool.not_false, gt_iff_lt, ge_iff_le] at *), by (try subst hM); (try simp only [Eng.ncast] at *); (try simp only [Eng.nI_eq] at *); (try simp only [Eng.real, decide_eq_true_eq, decide_eq_false_iff_not, Bool.not_eq_true', Bool.not_eq_false', Bool.and_eq_true, Bool.or_eq_true, Eng.sEq_dec, Bool.not_true, Bool.not_false, gt_iff_lt, ge_iff_le] at *); omega, ?_⟩
  refine ⟨fun m Γ => ∃ (i : Nat) (j : Int) (ys : List EntD), j = i ∧ i ≤ rs.length ∧ (ys.length = rs.length ∧ ys.take i = rs.take i) ∧ m = rs.length - i ∧ Γ = ⟨23, [(0, .pv [] (.sl tyEnt) rs), (3, .ref 0), (4, .pv [] (.int .i64) j)], [(0, .row 0 tyEnt ys)], [.hole 0]⟩, ⟨_, 0, 0, _, rfl, Nat.zero_le _, ⟨by (try subst hM); (try simp only [Eng.ncast] at *); (try simp only [Eng.nI_eq] at *); (try simp only [Eng.real, decide_eq_true_eq, decide_eq_false_iff_not, Bool.not_eq_true', Bool.not_eq_false', Bool.and_eq_true, Bool.or_eq_true, Eng.sEq_dec, Bool.not_true, Bool.not_false, gt_iff_lt, ge_iff_le] at *); simp, by simp⟩, rfl, rfl⟩, ?_⟩
  rintro m _ ⟨i, j, ys, hj, hi, ⟨hy1, hy2⟩, rfl, rfl⟩ -
  cbv
  refine splM (fun h => ?_) (fun h => ?_) <;> cbv
  · have hin : i < rs.length := by
      (try subst hM); (try simp only [Eng.ncast] at *); (try simp only [Eng.nI_eq] at *); (try simp only [Eng.real, decide_eq_true_eq, decide_eq_false_iff_not, Bool.not_eq_true', Bool.not_eq_false', Bool.and_eq_true, Bool.or_eq_true, Eng.sEq_dec, Bool.not_true, Bool.not_false, gt_iff_lt, ge_iff_le] at *)
      omega
    (try simp only [Eng.ncast] at hi hj); (try simp only [Eng.nI_eq] at hi hj)
    have hji : j.toNat = i := by rw [hj]; simp
    refine ⟨by (try subst hM); (try simp only [Eng.ncast] at *); (try simp only [Eng.nI_eq] at *); (try simp only [Eng.real, decide_eq_true_eq, decide_eq_false_iff_not, Bool.not_eq_true', Bool.not_eq_false', Bool.and_eq_true, Bool.or_eq_true, Eng.sEq_dec, Bool.not_true, Bool.not_false, gt_iff_lt, ge_iff_le] at *); omega, by (try subst hM); (try simp only [Eng.ncast] at *); (try simp only [Eng.nI_eq] at *); (try simp only [Eng.real, decide_eq_true_eq, decide_eq_false_iff_not, Bool.not_eq_true', Bool.not_eq_false', Bool.and_eq_true, Bool.or_eq_true, Eng.sEq_dec, Bool.not_true, Bool.not_false, gt_iff_lt, ge_iff_le] at *); omega, fun _ => trivial, ?_⟩
    rintro ⟨(z : EntD), ⟨⟩⟩ x' (hz : z = M.get rs j (⟨#[]⟩, ⟨#[]⟩, 0, PUnit.unit)) - -
    obtain ⟨z1, z2, z3, ⟨⟩⟩ := z
    cbv
    repeat' (first | (refine And.intro (fun _ => by first | exact drawRd rfl (by decide +kernel) | exact drawTail (by decide +kernel)) ?_; cbv) | (refine And.intro (by (try subst hM); (try simp only [Eng.ncast] at *); (try simp only [Eng.nI_eq] at *); (try simp only [Eng.real, decide_eq_true_eq, decide_eq_false_iff_not, Bool.not_eq_true', Bool.not_eq_false', Bool.and_eq_true, Bool.or_eq_true, Eng.sEq_dec, Bool.not_true, Bool.not_false, gt_iff_lt, ge_iff_le] at *); omega) ?_; cbv))
    refine ⟨rs.length - (i + 1), by omega, i + 1, _, _, ?_, hin, ⟨?_, ?_⟩, rfl, rfl⟩
    · (try subst hM); (try simp only [Eng.ncast] at *); (try simp only [Eng.nI_eq] at *); (try simp only [Eng.real, decide_eq_true_eq, decide_eq_false_iff_not, Bool.not_eq_true', Bool.not_eq_false', Bool.and_eq_true, Bool.or_eq_true, Eng.sEq_dec, Bool.not_true, Bool.not_false, gt_iff_lt, ge_iff_le] at *)
      rw [hj, w64 (by omega)]; omega
    · (try subst hM); (try simp only [Eng.ncast] at *); (try simp only [Eng.nI_eq] at *); (try simp only [Eng.real, decide_eq_true_eq, decide_eq_false_iff_not, Bool.not_eq_true', Bool.not_eq_false', Bool.and_eq_true, Bool.or_eq_true, Eng.sEq_dec, Bool.not_true, Bool.not_false, gt_iff_lt, ge_iff_le] at *)
      simp [hy1]
    · (try subst hM); (try simp only [Eng.ncast] at *); (try simp only [Eng.nI_eq] at *); (try simp only [Eng.real, decide_eq_true_eq, decide_eq_false_iff_not, Bool.not_eq_true', Bool.not_eq_false', Bool.and_eq_true, Bool.or_eq_true, Eng.sEq_dec, Bool.not_true, Bool.not_false, gt_iff_lt, ge_iff_le] at *)
      simp only [hji] at *
      rw [hz, List.getD_eq_getElem?_getD, List.getElem?_eq_getElem hin, Option.getD_some, List.take_add_one, List.take_add_one, List.take_set_of_le (by omega), hy2]
      simp [hy1, hin]
  · rintro -
    (try subst hM); (try simp only [Eng.ncast] at *); (try simp only [Eng.nI_eq] at *); (try simp only [Eng.real, decide_eq_true_eq, decide_eq_false_iff_not, Bool.not_eq_true', Bool.not_eq_false', Bool.and_eq_true, Bool.or_eq_true, Eng.sEq_dec, Bool.not_true, Bool.not_false, gt_iff_lt, ge_iff_le] at *)
    have : i = rs.length := by omega
    subst this
    show ys = rs
    rw [List.take_of_length_le (by omega), List.take_length] at hy2
    exact hy2
def c35 : Con := Con.of ⟨[(false, 0, tyNode)], [(1, tyNode)], fun x => x.1.2.1.length ≤ 1048576, fun x y _ => y.1 = x.1⟩
theorem ok35 : FnOK Tryd.prog 35 c35 := by
  refine FnOK.of_vc mixed tabOk (.cons en72 ok72 .nil) Tryd.func35 rfl (by decide) lv35 hd35 ?_
  rintro ⟨⟨(next : Int), (rs : List EntD), ⟨⟩⟩, ⟨⟩⟩ (hl : rs.length ≤ 1048576) hwf
  generalize hM : real = M
  cbv
  refine ⟨fun _ => hl, ?_⟩
  rintro ⟨(z : List EntD), ⟨⟩⟩ x' (hz : z = rs) - -
  cbv
  rintro -
  subst hz; rfl
def c105 : Con := Con.of ⟨[(false, 0, tyEnt), (false, 0, tyEnt)], [(0, .bool)], fun _ => True, fun x y _ => (y.1 = true ↔ x.1 = x.2.1)⟩
theorem ok105 : FnOK Tryd.prog 105 c105 := by
  refine FnOK.of_vc mixed tabOk .nil Tryd.func105 rfl (by decide) lv105 hd105 ?_
  rintro ⟨⟨(a : ByteArray), (b : ByteArray), (c : Int), ⟨⟩⟩, ⟨(d : ByteArray), (e : ByteArray), (f : Int), ⟨⟩⟩, ⟨⟩⟩ - hwf
  generalize hM : real = M
  cbv
  repeat' (refine splM (fun h => ?_) (fun h => ?_) <;> cbv)
  all_goals
    rintro -
    (try subst hM); (try simp only [Eng.ncast] at *); (try simp only [Eng.nI_eq] at *); (try simp only [Eng.real, decide_eq_true_eq, decide_eq_false_iff_not, Bool.not_eq_true', Bool.not_eq_false', Bool.and_eq_true, Bool.or_eq_true, Eng.sEq_dec, Bool.not_true, Bool.not_false, gt_iff_lt, ge_iff_le] at *)
    show (_ = true) ↔ ((a, b, c, PUnit.unit) = (d, e, f, PUnit.unit))
    simp_all
def c74 : Con := Con.of ⟨[(false, 0, .sl tyEnt), (false, 0, .sl tyEnt)], [(0, .bool)], fun x => x.1.length ≤ 1048576, fun x y _ => (x.1 = x.2.1 → y.1 = true)⟩
theorem ok74 : FnOK Tryd.prog 74 c74 := by
  refine FnOK.of_vc mixed tabOk (.cons en105 ok105 .nil) Tryd.func74 rfl (by decide) lv74 hd74 ?_
  rintro ⟨(xs : List EntD), (ys : List EntD), ⟨⟩⟩ (hl : xs.length ≤ 1048576) hwf
  generalize hM : real = M
  cbv
  refine splM (fun h => ?_) (fun h => ?_) <;> cbv
  · rintro -
    show xs = ys → _
    rintro rfl
    exfalso
    (try subst hM); (try simp only [Eng.ncast] at *); (try simp only [Eng.nI_eq] at *); (try simp only [Eng.real, decide_eq_true_eq, decide_eq_false_iff_not, Bool.not_eq_true', Bool.not_eq_false', Bool.and_eq_true, Bool.or_eq_true, Eng.sEq_dec, Bool.not_true, Bool.not_false, gt_iff_lt, ge_iff_le] at *)
    exact h trivial
  have hyl : ys.length = xs.length := by
    (try subst hM); (try simp only [Eng.ncast] at *); (try simp only [Eng.nI_eq] at *); (try simp only [Eng.real, decide_eq_true_eq, decide_eq_false_iff_not, Bool.not_eq_true', Bool.not_eq_false', Bool.and_eq_true, Bool.or_eq_true, Eng.sEq_dec, Bool.not_true, Bool.not_false, gt_iff_lt, ge_iff_le] at *)
    omega
  refine ⟨fun m Γ => ∃ (i : Nat) (j : Int), j = i ∧ i ≤ xs.length ∧ m = xs.length - i ∧ Γ = ⟨27, [(0, .pv [] (.sl tyEnt) xs), (1, .pv [] (.sl tyEnt) ys), (5, .pv [] (.int .i64) j)], [], [.hole 0, .hole 0]⟩, ⟨_, 0, 0, rfl, Nat.zero_le _, rfl, rfl⟩, ?_⟩
  rintro m _ ⟨i, j, hj, hi, rfl, rfl⟩ -
  cbv
  refine splM (fun h2 => ?_) (fun h2 => ?_) <;> cbv
  · have hin : i < xs.length := by
      (try subst hM); (try simp only [Eng.ncast] at *); (try simp only [Eng.nI_eq] at *); (try simp only [Eng.real, decide_eq_true_eq, decide_eq_false_iff_not, Bool.not_eq_true', Bool.not_eq_false', Bool.and_eq_true, Bool.or_eq_true, Eng.sEq_dec, Bool.not_true, Bool.not_false, gt_iff_lt, ge_iff_le] at *)
      omega
    (try simp only [Eng.ncast] at hi hj); (try simp only [Eng.nI_eq] at hi hj)
    refine ⟨(fun _ => by first | exact drawRd rfl (by decide +kernel) | exact drawTail (by decide +kernel)), by (try subst hM); (try simp only [Eng.ncast] at *); (try simp only [Eng.nI_eq] at *); (try simp only [Eng.real, decide_eq_true_eq, decide_eq_false_iff_not, Bool.not_eq_true', Bool.not_eq_false', Bool.and_eq_true, Bool.or_eq_true, Eng.sEq_dec, Bool.not_true, Bool.not_false, gt_iff_lt, ge_iff_le] at *); omega, by (try subst hM); (try simp only [Eng.ncast] at *); (try simp only [Eng.nI_eq] at *); (try simp only [Eng.real, decide_eq_true_eq, decide_eq_false_iff_not, Bool.not_eq_true', Bool.not_eq_false', Bool.and_eq_true, Bool.or_eq_true, Eng.sEq_dec, Bool.not_true, Bool.not_false, gt_iff_lt, ge_iff_le] at *); omega, by (try subst hM); (try simp only [Eng.ncast] at *); (try simp only [Eng.nI_eq] at *); (try simp only [Eng.real, decide_eq_true_eq, decide_eq_false_iff_not, Bool.not_eq_true', Bool.not_eq_false', Bool.and_eq_true, Bool.or_eq_true, Eng.sEq_dec, Bool.not_true, Bool.not_false, gt_iff_lt, ge_iff_le] at *); omega, by (try subst hM); (try simp only [Eng.ncast] at *); (try simp only [Eng.nI_eq] at *); (try simp only [Eng.real, decide_eq_true_eq, decide_eq_false_iff_not, Bool.not_eq_true', Bool.not_eq_false', Bool.and_eq_true, Bool.or_eq_true, Eng.sEq_dec, Bool.not_true, Bool.not_false, gt_iff_lt, ge_iff_le] at *); omega, fun _ => trivial, ?_⟩
    rintro ⟨(z : Bool), ⟨⟩⟩ x' (hz : z = true ↔ M.get xs j (⟨#[]⟩, ⟨#[]⟩, 0, PUnit.unit) = M.get ys j (⟨#[]⟩, ⟨#[]⟩, 0, PUnit.unit)) - -
    cbv
    refine splM (fun h3 => ?_) (fun h3 => ?_) <;> cbv
    · rintro -
      show xs = ys → _
      rintro rfl
      exfalso
      have hzt := hz.2 rfl
      subst hzt
      subst hM
      cases h3
    · refine ⟨xs.length - (i + 1), by omega, i + 1, _, ?_, hin, rfl, rfl⟩
      (try subst hM); (try simp only [Eng.ncast] at *); (try simp only [Eng.nI_eq] at *); (try simp only [Eng.real, decide_eq_true_eq, decide_eq_false_iff_not, Bool.not_eq_true', Bool.not_eq_false', Bool.and_eq_true, Bool.or_eq_true, Eng.sEq_dec, Bool.not_true, Bool.not_false, gt_iff_lt, ge_iff_le] at *)
      rw [hj, w64 (by omega)]; omega
  · rintro - -
    rfl
def c37 : Con := Con.of ⟨[(false, 0, tyNode), (false, 0, tyNode)], [(0, .bool)], fun x => x.1.2.1.length ≤ 1048576, fun x y _ => (x.1 = x.2.1 → y.1 = true)⟩
theorem ok37 : FnOK Tryd.prog 37 c37 := by
  refine FnOK.of_vc mixed tabOk (.cons en74 ok74 .nil) Tryd.func37 rfl (by decide) lv37 hd37 ?_
  rintro ⟨⟨(n1 : Int), (xs : List EntD), ⟨⟩⟩, ⟨(n2 : Int), (ys : List EntD), ⟨⟩⟩, ⟨⟩⟩ (hl : xs.length ≤ 1048576) hwf
  generalize hM : real = M
  cbv
  refine splM (fun h => ?_) (fun h => ?_) <;> cbv
  · rintro -
    show ((n1, xs, PUnit.unit) : Int × List EntD × Unit) = (n2, ys, PUnit.unit) → _
    rintro e
    cases e
    exfalso
    (try subst hM); (try simp only [Eng.ncast] at *); (try simp only [Eng.nI_eq] at *); (try simp only [Eng.real, decide_eq_true_eq, decide_eq_false_iff_not, Bool.not_eq_true', Bool.not_eq_false', Bool.and_eq_true, Bool.or_eq_true, Eng.sEq_dec, Bool.not_true, Bool.not_false, gt_iff_lt, ge_iff_le] at *)
    exact h trivial
  · refine ⟨fun _ => hl, ?_⟩
    rintro ⟨(z : Bool), ⟨⟩⟩ x' (hz : xs = ys → z = true) - -
    cbv
    refine splM (fun h3 => ?_) (fun h3 => ?_) <;> cbv
    · rintro -
      show ((n1, xs, PUnit.unit) : Int × List EntD × Unit) = (n2, ys, PUnit.unit) → _
      rintro e
      cases e
      have := hz rfl
      subst this
      subst hM
      cases h3
    · rintro - -
      rfl
end Go.Proofs.YtegbadccjidfjaaDoor.EngTab
