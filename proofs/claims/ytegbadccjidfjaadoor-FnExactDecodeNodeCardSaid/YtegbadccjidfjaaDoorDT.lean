/- The law FnExactDecodeTable: its helpers. -/
import Derived.Test.YtegbadccjidfjaaDoorT4
namespace Go.Proofs.YtegbadccjidfjaaDoor.EngTab
open Go.Proofs.YtegbadccjidfjaaDoor.Eng
set_option maxRecDepth 100000
set_option linter.unusedVariables false
set_option linter.unusedSimpArgs false
def c27 : Con := Con.of ⟨[(false, 0, tyB)], [(1, tyB)], fun x => x.1.length ≤ 1048576, fun x y _ => y.1 = x.1⟩
theorem ok27 : FnOK Tryd.prog 27 c27 := by
  refine FnOK.of_vc mixed tabOk .nil Tryd.func27 rfl (by decide) lv27 hd27 ?_
  rintro ⟨(rs : List Int), ⟨⟩⟩ (hl : rs.length ≤ 1048576) hwf
  generalize hM : real = M
  cbv
  refine ⟨by (try subst hM); (try simp only [Eng.ncast] at *); (try simp only [Eng.nI_eq] at *); (try simp only [Eng.real, decide_eq_true_eq, decide_eq_false_iff_not, Bool.not_eq_true', Bool.not_eq_false', Bool.and_eq_true, Bool.or_eq_true, Eng.sEq_dec, Bool.not_true, Bool.not_false, gt_iff_lt, ge_iff_le] at *), by (try subst hM); (try simp only [Eng.ncast] at *); (try simp only [Eng.nI_eq] at *); (try simp only [Eng.real, decide_eq_true_eq, decide_eq_false_iff_not, Bool.not_eq_true', Bool.not_eq_false', Bool.and_eq_true, Bool.or_eq_true, Eng.sEq_dec, Bool.not_true, Bool.not_false, gt_iff_lt, ge_iff_le] at *); omega, ?_⟩
  refine ⟨fun m Γ => ∃ (i : Nat) (j : Int) (ys : List Int), j = i ∧ i ≤ rs.length ∧ (ys.length = rs.length ∧ ys.take i = rs.take i) ∧ m = rs.length - i ∧ Γ = ⟨22, [(0, .pv [] tyB rs), (3, .ref 0), (4, .pv [] (.int .i64) j)], [(0, .row 0 (.int .u8) ys)], [.hole 0]⟩, ⟨_, 0, 0, _, rfl, Nat.zero_le _, ⟨by (try subst hM); (try simp only [Eng.ncast] at *); (try simp only [Eng.nI_eq] at *); (try simp only [Eng.real, decide_eq_true_eq, decide_eq_false_iff_not, Bool.not_eq_true', Bool.not_eq_false', Bool.and_eq_true, Bool.or_eq_true, Eng.sEq_dec, Bool.not_true, Bool.not_false, gt_iff_lt, ge_iff_le] at *); simp, by simp⟩, rfl, rfl⟩, ?_⟩
  rintro m _ ⟨i, j, ys, hj, hi, ⟨hy1, hy2⟩, rfl, rfl⟩ -
  cbv
  refine splM (fun h => ?_) (fun h => ?_) <;> cbv
  · have hin : i < rs.length := by
      (try subst hM); (try simp only [Eng.ncast] at *); (try simp only [Eng.nI_eq] at *); (try simp only [Eng.real, decide_eq_true_eq, decide_eq_false_iff_not, Bool.not_eq_true', Bool.not_eq_false', Bool.and_eq_true, Bool.or_eq_true, Eng.sEq_dec, Bool.not_true, Bool.not_false, gt_iff_lt, ge_iff_le] at *)
      omega
    (try simp only [Eng.ncast] at hi hj); (try simp only [Eng.nI_eq] at hi hj)
    have hji : j.toNat = i := by rw [hj]; simp
    repeat' (first | (refine And.intro (fun _ => by first | exact drawRd rfl (by decide +kernel) | exact drawTail (by decide +kernel)) ?_; cbv) | (refine And.intro (by (try subst hM); (try simp only [Eng.ncast] at *); (try simp only [Eng.nI_eq] at *); (try simp only [Eng.real, decide_eq_true_eq, decide_eq_false_iff_not, Bool.not_eq_true', Bool.not_eq_false', Bool.and_eq_true, Bool.or_eq_true, Eng.sEq_dec, Bool.not_true, Bool.not_false, gt_iff_lt, ge_iff_le] at *); omega) ?_; cbv))
    refine ⟨rs.length - (i + 1), by omega, i + 1, _, _, ?_, hin, ⟨?_, ?_⟩, rfl, rfl⟩
    · (try subst hM); (try simp only [Eng.ncast] at *); (try simp only [Eng.nI_eq] at *); (try simp only [Eng.real, decide_eq_true_eq, decide_eq_false_iff_not, Bool.not_eq_true', Bool.not_eq_false', Bool.and_eq_true, Bool.or_eq_true, Eng.sEq_dec, Bool.not_true, Bool.not_false, gt_iff_lt, ge_iff_le] at *)
      rw [hj, w64 (by omega)]; omega
    · (try subst hM); (try simp only [Eng.ncast] at *); (try simp only [Eng.nI_eq] at *); (try simp only [Eng.real, decide_eq_true_eq, decide_eq_false_iff_not, Bool.not_eq_true', Bool.not_eq_false', Bool.and_eq_true, Bool.or_eq_true, Eng.sEq_dec, Bool.not_true, Bool.not_false, gt_iff_lt, ge_iff_le] at *)
      simp [hy1]
    · (try subst hM); (try simp only [Eng.ncast] at *); (try simp only [Eng.nI_eq] at *); (try simp only [Eng.real, decide_eq_true_eq, decide_eq_false_iff_not, Bool.not_eq_true', Bool.not_eq_false', Bool.and_eq_true, Bool.or_eq_true, Eng.sEq_dec, Bool.not_true, Bool.not_false, gt_iff_lt, ge_iff_le] at *)
      simp only [hji] at *
      rw [List.take_add_one, List.take_set_of_le (by omega), hy2, List.take_add_one]
      simp [hy1, hin]
  · rintro -
    (try subst hM); (try simp only [Eng.ncast] at *); (try simp only [Eng.nI_eq] at *); (try simp only [Eng.real, decide_eq_true_eq, decide_eq_false_iff_not, Bool.not_eq_true', Bool.not_eq_false', Bool.and_eq_true, Bool.or_eq_true, Eng.sEq_dec, Bool.not_true, Bool.not_false, gt_iff_lt, ge_iff_le] at *)
    have : i = rs.length := by omega
    subst this
    show ys = rs
    rw [← List.take_of_length_le (l := ys) (by omega : ys.length ≤ rs.length), hy2, List.take_length]
def markR (k : Int) (n : Nat) : List RunD := (List.range n).map fun (i : Nat) => (k + 3 * (i : Int), k + 3 * (i : Int) + 1, k + 3 * (i : Int) + 2, ())
theorem markR_succ (k : Int) (n : Nat) : markR k (n + 1) = markR k n ++ [(k + 3 * (n : Int), k + 3 * (n : Int) + 1, k + 3 * (n : Int) + 2, ())] := by simp [markR, List.range_succ]
theorem markR_len (k : Int) (n : Nat) : (markR k n).length = n := by simp [markR]
theorem markR_get (k : Int) {n i : Nat} (h : i < n) : (markR k n)[i]? = some (k + 3 * (i : Int), k + 3 * (i : Int) + 1, k + 3 * (i : Int) + 2, ()) := by simp [markR, h]
def c57m : Con := Con.of ⟨[(true, 1, .sl tyRun), (false, 0, .int .i64)], [(0, .int .i64)], fun x => x.1.length ≤ 1048576 ∧ 0 ≤ x.2.1 ∧ x.2.1 ≤ 1048576, fun x y x' => y.1 = x.2.1 + 3 * x.1.length ∧ x'.1 = markR x.2.1 x.1.length⟩
theorem ok57m : FnOK Tryd.prog 57 c57m := by
  refine FnOK.of_vc mixed tabOk .nil Tryd.func57 rfl (by decide) lv57 hd57 ?_
  rintro ⟨(xs : List RunD), (k : Int), ⟨⟩⟩ ⟨(hl : xs.length ≤ 1048576), (h0 : 0 ≤ k), (h1 : k ≤ 1048576)⟩ hwf
  generalize hM : real = M
  cbv
  refine ⟨fun m Γ => ∃ (i : Nat) (j q : Int) (ys : List RunD), j = i ∧ i ≤ xs.length ∧ (ys.length = xs.length ∧ q = k + 3 * i ∧ ys.take i = markR k i) ∧ m = xs.length - i ∧ Γ = ⟨34, [(0, .ref 0), (1, .pv [] (.int .i64) q), (5, .pv [] (.int .i64) j)], [(0, .row 0 tyRun ys)], [.ref 0, .hole 0]⟩, ⟨_, 0, 0, k, xs, rfl, Nat.zero_le _, ⟨rfl, by simp, by simp [markR]⟩, rfl, rfl⟩, ?_⟩
  rintro m _ ⟨i, j, q, ys, hj, hi, ⟨hy, hq, ht⟩, rfl, rfl⟩ -
  cbv
  refine splM (fun h2 => ?_) (fun h2 => ?_) <;> cbv
  · have hin : i < xs.length := by
      (try subst hM); (try simp only [Eng.ncast] at *); (try simp only [Eng.nI_eq] at *); (try simp only [Eng.real, decide_eq_true_eq, decide_eq_false_iff_not, Bool.not_eq_true', Bool.not_eq_false', Bool.and_eq_true, Bool.or_eq_true, Eng.sEq_dec, Bool.not_true, Bool.not_false, gt_iff_lt, ge_iff_le] at *)
      omega
    (try simp only [Eng.ncast] at hi hj hq); (try simp only [Eng.nI_eq] at hi hj hq)
    have hji : j.toNat = i := by rw [hj]; simp
    repeat' (first | (refine And.intro (fun _ => by first | exact drawRd rfl (by decide +kernel) | exact drawTail (by decide +kernel)) ?_; cbv) | (refine And.intro (by (try subst hM); (try simp only [Eng.ncast] at *); (try simp only [Eng.nI_eq] at *); (try simp only [Eng.real, decide_eq_true_eq, decide_eq_false_iff_not, Bool.not_eq_true', Bool.not_eq_false', Bool.and_eq_true, Bool.or_eq_true, Eng.sEq_dec, Bool.not_true, Bool.not_false, gt_iff_lt, ge_iff_le] at *); first | omega | (simp; omega)) ?_; cbv))
    refine ⟨xs.length - (i + 1), by omega, i + 1, _, _, _, ?_, hin, ⟨?_, ?_, ?_⟩, rfl, rfl⟩
    · (try subst hM); (try simp only [Eng.ncast] at *); (try simp only [Eng.nI_eq] at *); (try simp only [Eng.real, decide_eq_true_eq, decide_eq_false_iff_not, Bool.not_eq_true', Bool.not_eq_false', Bool.and_eq_true, Bool.or_eq_true, Eng.sEq_dec, Bool.not_true, Bool.not_false, gt_iff_lt, ge_iff_le] at *)
      rw [hj, w64 (by omega)]; omega
    · (try subst hM); (try simp only [Eng.ncast] at *); (try simp only [Eng.nI_eq] at *); (try simp only [Eng.real, decide_eq_true_eq, decide_eq_false_iff_not, Bool.not_eq_true', Bool.not_eq_false', Bool.and_eq_true, Bool.or_eq_true, Eng.sEq_dec, Bool.not_true, Bool.not_false, gt_iff_lt, ge_iff_le] at *)
      simp [hy]
    · (try subst hM); (try simp only [Eng.ncast] at *); (try simp only [Eng.nI_eq] at *); (try simp only [Eng.real, decide_eq_true_eq, decide_eq_false_iff_not, Bool.not_eq_true', Bool.not_eq_false', Bool.and_eq_true, Bool.or_eq_true, Eng.sEq_dec, Bool.not_true, Bool.not_false, gt_iff_lt, ge_iff_le] at *)
      rw [hq, w64 (x := k + 3 * (i : Int) + 1) (by omega), w64 (x := k + 3 * (i : Int) + 1 + 1) (by omega), w64 (by omega)]; omega
    · (try subst hM); (try simp only [Eng.ncast] at *); (try simp only [Eng.nI_eq] at *); (try simp only [Eng.real, decide_eq_true_eq, decide_eq_false_iff_not, Bool.not_eq_true', Bool.not_eq_false', Bool.and_eq_true, Bool.or_eq_true, Eng.sEq_dec, Bool.not_true, Bool.not_false, gt_iff_lt, ge_iff_le] at *)
      have hiy : i < ys.length := by omega
      rw [w64 (x := q + 1) (by omega), w64 (x := q + 1 + 1) (by omega)]
      simp only [hji, List.set_set]
      simp only [List.getD_eq_getElem?_getD, List.getElem?_set_self hiy, Option.getD_some]
      rw [List.take_add_one, List.take_set_of_le (by omega), ht, markR_succ, hq]
      simp [hy, hin]
      omega
  · rintro -
    (try subst hM); (try simp only [Eng.ncast] at *); (try simp only [Eng.nI_eq] at *); (try simp only [Eng.real, decide_eq_true_eq, decide_eq_false_iff_not, Bool.not_eq_true', Bool.not_eq_false', Bool.and_eq_true, Bool.or_eq_true, Eng.sEq_dec, Bool.not_true, Bool.not_false, gt_iff_lt, ge_iff_le] at *)
    have : i = xs.length := by omega
    subst this
    refine ⟨hq, ?_⟩
    show ys = markR k xs.length
    rw [← ht, List.take_of_length_le (by omega)]
def c17m : Con := Con.of ⟨[(true, 1, tyTab), (false, 0, .int .i64)], [(0, .int .i64)], fun x => x.1.2.1.length ≤ 1048576 ∧ 0 ≤ x.2.1 ∧ x.2.1 ≤ 1048576, fun x y x' => y.1 = x.2.1 + 3 * x.1.2.1.length ∧ x'.1.2.1 = markR x.2.1 x.1.2.1.length⟩
theorem ok17m : FnOK Tryd.prog 17 c17m := by
  refine FnOK.of_vc mixed tabOk (.cons en57 ok57m .nil) Tryd.func17 rfl (by decide) lv17 hd17 ?_
  rintro ⟨⟨(next : Int), (xs : List RunD), ⟨⟩⟩, (k : Int), ⟨⟩⟩ ⟨(hl : xs.length ≤ 1048576), (h0 : 0 ≤ k), (h1 : k ≤ 1048576)⟩ hwf
  generalize hM : real = M
  cbv
  refine ⟨fun _ => ⟨hl, h0, h1⟩, ?_⟩
  rintro ⟨(y : Int), ⟨⟩⟩ ⟨(zs : List RunD), ⟨⟩⟩ ⟨(hy : y = k + 3 * xs.length), (hz : zs = markR k xs.length)⟩ - -
  cbv
  exact fun _ => ⟨hy, hz⟩
def c67 : Con := Con.of ⟨[(false, 0, .sl tyRun), (false, 0, .int .i64)], [(0, .int .i64)], fun x => x.1.length ≤ 1048576 ∧ 0 ≤ x.2.1 ∧ x.2.1 ≤ 1048576, fun x y _ => x.1 = markR x.2.1 x.1.length → y.1 = x.2.1 + 3 * x.1.length⟩
theorem ok67 : FnOK Tryd.prog 67 c67 := by
  refine FnOK.of_vc mixed tabOk .nil Tryd.func67 rfl (by decide) lv67 hd67 ?_
  rintro ⟨(xs : List RunD), (k : Int), ⟨⟩⟩ ⟨(hl : xs.length ≤ 1048576), (h0 : 0 ≤ k), (h1 : k ≤ 1048576)⟩ hwf
  generalize hM : real = M
  cbv
  refine ⟨fun m Γ => ∃ (i : Nat) (j q : Int), j = i ∧ i ≤ xs.length ∧ q = k + 3 * i ∧ m = xs.length - i ∧ Γ = ⟨40, [(0, .pv [] (.sl tyRun) xs), (1, .pv [] (.int .i64) q), (5, .pv [] (.int .i64) j)], [], [.hole 0, .hole 0]⟩, ⟨_, 0, 0, k, rfl, Nat.zero_le _, by simp, rfl, rfl⟩, ?_⟩
  rintro m _ ⟨i, j, q, hj, hi, hq, rfl, rfl⟩ -
  cbv
  refine splM (fun h2 => ?_) (fun h2 => ?_) <;> cbv
  · have hin : i < xs.length := by
      (try subst hM); (try simp only [Eng.ncast] at *); (try simp only [Eng.nI_eq] at *); (try simp only [Eng.real, decide_eq_true_eq, decide_eq_false_iff_not, Bool.not_eq_true', Bool.not_eq_false', Bool.and_eq_true, Bool.or_eq_true, Eng.sEq_dec, Bool.not_true, Bool.not_false, gt_iff_lt, ge_iff_le] at *)
      omega
    (try simp only [Eng.ncast] at hi hj hq); (try simp only [Eng.nI_eq] at hi hj hq)
    have hji : j.toNat = i := by rw [hj]; simp
    have hgt : xs = markR k xs.length → M.get xs j (0, 0, 0, PUnit.unit) = (q, q + 1, q + 2, PUnit.unit) := fun e => by
      subst hM
      show xs.getD j.toNat _ = _
      rw [hji, List.getD_eq_getElem?_getD, e, markR_get k hin, hq]
      rfl
    have bad : ∀ z : Int, (xs = markR k xs.length → False) → (xs = markR k xs.length → z = k + 3 * xs.length) := fun z h e => (h e).elim
    refine ⟨by (try subst hM); (try simp only [Eng.ncast] at *); (try simp only [Eng.nI_eq] at *); (try simp only [Eng.real, decide_eq_true_eq, decide_eq_false_iff_not, Bool.not_eq_true', Bool.not_eq_false', Bool.and_eq_true, Bool.or_eq_true, Eng.sEq_dec, Bool.not_true, Bool.not_false, gt_iff_lt, ge_iff_le] at *); omega, by (try subst hM); (try simp only [Eng.ncast] at *); (try simp only [Eng.nI_eq] at *); (try simp only [Eng.real, decide_eq_true_eq, decide_eq_false_iff_not, Bool.not_eq_true', Bool.not_eq_false', Bool.and_eq_true, Bool.or_eq_true, Eng.sEq_dec, Bool.not_true, Bool.not_false, gt_iff_lt, ge_iff_le] at *); omega, ?_⟩
    refine splM (fun h3 => ?_) (fun h3 => ?_) <;> cbv
    · rintro -
      refine bad _ (fun e => ?_)
      have := hgt e
      (try subst hM); (try simp only [Eng.ncast] at *); (try simp only [Eng.nI_eq] at *); (try simp only [Eng.real, decide_eq_true_eq, decide_eq_false_iff_not, Bool.not_eq_true', Bool.not_eq_false', Bool.and_eq_true, Bool.or_eq_true, Eng.sEq_dec, Bool.not_true, Bool.not_false, gt_iff_lt, ge_iff_le] at *)
      apply h3
      rw [this]
    clear h3
    refine ⟨by (try subst hM); (try simp only [Eng.ncast] at *); (try simp only [Eng.nI_eq] at *); (try simp only [Eng.real, decide_eq_true_eq, decide_eq_false_iff_not, Bool.not_eq_true', Bool.not_eq_false', Bool.and_eq_true, Bool.or_eq_true, Eng.sEq_dec, Bool.not_true, Bool.not_false, gt_iff_lt, ge_iff_le] at *); omega, by (try subst hM); (try simp only [Eng.ncast] at *); (try simp only [Eng.nI_eq] at *); (try simp only [Eng.real, decide_eq_true_eq, decide_eq_false_iff_not, Bool.not_eq_true', Bool.not_eq_false', Bool.and_eq_true, Bool.or_eq_true, Eng.sEq_dec, Bool.not_true, Bool.not_false, gt_iff_lt, ge_iff_le] at *); omega, ?_⟩
    refine splM (fun h3 => ?_) (fun h3 => ?_) <;> cbv
    · rintro -
      refine bad _ (fun e => ?_)
      have := hgt e
      (try subst hM); (try simp only [Eng.ncast] at *); (try simp only [Eng.nI_eq] at *); (try simp only [Eng.real, decide_eq_true_eq, decide_eq_false_iff_not, Bool.not_eq_true', Bool.not_eq_false', Bool.and_eq_true, Bool.or_eq_true, Eng.sEq_dec, Bool.not_true, Bool.not_false, gt_iff_lt, ge_iff_le] at *)
      apply h3
      rw [this, w64 (by omega)]
    clear h3
    refine ⟨by (try subst hM); (try simp only [Eng.ncast] at *); (try simp only [Eng.nI_eq] at *); (try simp only [Eng.real, decide_eq_true_eq, decide_eq_false_iff_not, Bool.not_eq_true', Bool.not_eq_false', Bool.and_eq_true, Bool.or_eq_true, Eng.sEq_dec, Bool.not_true, Bool.not_false, gt_iff_lt, ge_iff_le] at *); omega, by (try subst hM); (try simp only [Eng.ncast] at *); (try simp only [Eng.nI_eq] at *); (try simp only [Eng.real, decide_eq_true_eq, decide_eq_false_iff_not, Bool.not_eq_true', Bool.not_eq_false', Bool.and_eq_true, Bool.or_eq_true, Eng.sEq_dec, Bool.not_true, Bool.not_false, gt_iff_lt, ge_iff_le] at *); omega, ?_⟩
    refine splM (fun h3 => ?_) (fun h3 => ?_) <;> cbv
    · rintro -
      refine bad _ (fun e => ?_)
      have := hgt e
      (try subst hM); (try simp only [Eng.ncast] at *); (try simp only [Eng.nI_eq] at *); (try simp only [Eng.real, decide_eq_true_eq, decide_eq_false_iff_not, Bool.not_eq_true', Bool.not_eq_false', Bool.and_eq_true, Bool.or_eq_true, Eng.sEq_dec, Bool.not_true, Bool.not_false, gt_iff_lt, ge_iff_le] at *)
      apply h3
      rw [this, w64 (x := q + 1) (by omega), w64 (by omega)]
      show q + 2 = q + 1 + 1
      omega
    clear h3
    refine ⟨xs.length - (i + 1), by omega, i + 1, _, _, ?_, hin, ?_, rfl, rfl⟩
    · (try subst hM); (try simp only [Eng.ncast] at *); (try simp only [Eng.nI_eq] at *); (try simp only [Eng.real, decide_eq_true_eq, decide_eq_false_iff_not, Bool.not_eq_true', Bool.not_eq_false', Bool.and_eq_true, Bool.or_eq_true, Eng.sEq_dec, Bool.not_true, Bool.not_false, gt_iff_lt, ge_iff_le] at *)
      rw [hj, w64 (by omega)]; omega
    · (try subst hM); (try simp only [Eng.ncast] at *); (try simp only [Eng.nI_eq] at *); (try simp only [Eng.real, decide_eq_true_eq, decide_eq_false_iff_not, Bool.not_eq_true', Bool.not_eq_false', Bool.and_eq_true, Bool.or_eq_true, Eng.sEq_dec, Bool.not_true, Bool.not_false, gt_iff_lt, ge_iff_le] at *)
      rw [hq, w64 (x := k + 3 * (i : Int) + 1) (by omega), w64 (x := k + 3 * (i : Int) + 1 + 1) (by omega), w64 (by omega)]; omega
  · rintro - -
    (try subst hM); (try simp only [Eng.ncast] at *); (try simp only [Eng.nI_eq] at *); (try simp only [Eng.real, decide_eq_true_eq, decide_eq_false_iff_not, Bool.not_eq_true', Bool.not_eq_false', Bool.and_eq_true, Bool.or_eq_true, Eng.sEq_dec, Bool.not_true, Bool.not_false, gt_iff_lt, ge_iff_le] at *)
    have : i = xs.length := by omega
    subst this
    exact hq
def c29 : Con := Con.of ⟨[(false, 0, tyTab), (false, 0, .int .i64)], [(0, .int .i64)], fun x => x.1.2.1.length ≤ 1048576 ∧ 0 ≤ x.2.1 ∧ x.2.1 ≤ 1048576, fun x y _ => x.1.2.1 = markR x.2.1 x.1.2.1.length → y.1 = x.2.1 + 3 * x.1.2.1.length⟩
theorem ok29 : FnOK Tryd.prog 29 c29 := by
  refine FnOK.of_vc mixed tabOk (.cons en67 ok67 .nil) Tryd.func29 rfl (by decide) lv29 hd29 ?_
  rintro ⟨⟨(next : Int), (xs : List RunD), ⟨⟩⟩, (k : Int), ⟨⟩⟩ ⟨(hl : xs.length ≤ 1048576), (h0 : 0 ≤ k), (h1 : k ≤ 1048576)⟩ hwf
  generalize hM : real = M
  cbv
  refine ⟨fun _ => ⟨hl, h0, h1⟩, ?_⟩
  rintro ⟨(y : Int), ⟨⟩⟩ x' (hy : xs = markR k xs.length → y = k + 3 * xs.length) - -
  cbv
  refine splM (fun h => ?_) (fun h => ?_) <;> cbv
  · rintro -
    show xs = markR k xs.length → _
    intro e
    exfalso
    have := hy e
    (try subst hM); (try simp only [Eng.ncast] at *); (try simp only [Eng.nI_eq] at *); (try simp only [Eng.real, decide_eq_true_eq, decide_eq_false_iff_not, Bool.not_eq_true', Bool.not_eq_false', Bool.and_eq_true, Bool.or_eq_true, Eng.sEq_dec, Bool.not_true, Bool.not_false, gt_iff_lt, ge_iff_le] at *)
    omega
  · exact fun _ => hy
end Go.Proofs.YtegbadccjidfjaaDoor.EngTab
