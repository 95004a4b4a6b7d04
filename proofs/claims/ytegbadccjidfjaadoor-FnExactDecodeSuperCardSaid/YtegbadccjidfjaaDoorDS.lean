/- The law FnExactDecodeSuper: its helpers. -/
import Derived.Test.YtegbadccjidfjaaDoorPS
namespace Go.Proofs.YtegbadccjidfjaaDoor.EngTab
open Go.Proofs.YtegbadccjidfjaaDoor.Eng
set_option maxRecDepth 100000
set_option linter.unusedVariables false
set_option linter.unusedSimpArgs false
def markO (k : Int) (n : Nat) : List RootD := (List.range n).map fun (i : Nat) => (k + 2 * (i : Int), k + 2 * (i : Int) + 1, ())
theorem markO_succ (k : Int) (n : Nat) : markO k (n + 1) = markO k n ++ [(k + 2 * (n : Int), k + 2 * (n : Int) + 1, ())] := by simp [markO, List.range_succ]
theorem markO_len (k : Int) (n : Nat) : (markO k n).length = n := by simp [markO]
theorem markO_get (k : Int) {n i : Nat} (h : i < n) : (markO k n)[i]? = some (k + 2 * (i : Int), k + 2 * (i : Int) + 1, ()) := by simp [markO, h]
def c62m : Con := Con.of ⟨[(true, 1, .sl tyRoot), (false, 0, .int .i64)], [(0, .int .i64)], fun x => x.1.length ≤ 1048576 ∧ 0 ≤ x.2.1 ∧ x.2.1 ≤ 1048576, fun x y x' => y.1 = x.2.1 + 2 * x.1.length ∧ x'.1 = markO x.2.1 x.1.length⟩
theorem ok62m : FnOK Tryd.prog 62 c62m := by
  refine FnOK.of_vc mixed tabOk .nil Tryd.func62 rfl (by decide) lv62 hd62 ?_
  rintro ⟨(xs : List RootD), (k : Int), ⟨⟩⟩ ⟨(hl : xs.length ≤ 1048576), (h0 : 0 ≤ k), (h1 : k ≤ 1048576)⟩ hwf
  generalize hM : real = M
  cbv
  refine ⟨fun m Γ => ∃ (i : Nat) (j q : Int) (ys : List RootD), j = i ∧ i ≤ xs.length ∧ (ys.length = xs.length ∧ q = k + 2 * i ∧ ys.take i = markO k i) ∧ m = xs.length - i ∧ Γ = ⟨27, [(0, .ref 0), (1, .pv [] (.int .i64) q), (5, .pv [] (.int .i64) j)], [(0, .row 0 tyRoot ys)], [.ref 0, .hole 0]⟩, ⟨_, 0, 0, k, xs, rfl, Nat.zero_le _, ⟨rfl, by simp, by simp [markO]⟩, rfl, rfl⟩, ?_⟩
  rintro m _ ⟨i, j, q, ys, hj, hi, ⟨hy, hq, ht⟩, rfl, rfl⟩ -
  cbv
  refine splM (fun h2 => ?_) (fun h2 => ?_) <;> cbv
  · have hin : i < xs.length := by
      (try subst hM); (try simp only [Eng.ncast] at *); (try simp only [Eng.nI_eq] at *); (try simp only [Eng.real, decide_eq_true_eq, decide_eq_false_iff_not, Bool.not_eq_true', Bool.not_eq_false', Bool.and_eq_true, Bool.or_eq_true, Eng.sEq_dec, Bool.not_true, Bool.not_false, gt_iff_lt, ge_iff_le] at *)
      omega
    (try simp only [Eng.ncast] at hi hj hq); (try simp only [Eng.nI_eq] at hi hj hq)
    have hji : j.toNat = i := by rw [hj]; simp
    repeat' (first | (refine And.intro (fun _ => by first | exact drawRd rfl (by decide +kernel) | exact drawTail (by decide +kernel)) ?_; cbv) | (refine And.intro (by (try subst hM); (try simp only [Eng.ncast] at *); (try simp only [Eng.nI_eq] at *); (try simp only [Eng.real, decide_eq_true_eq, decide_eq_false_iff_not, Bool.not_eq_true', Bool.not_eq_false', Bool.and_eq_true, Bool.or_eq_true, Eng.sEq_dec, Bool.not_true, Bool.not_false, gt_iff_lt, ge_iff_le] at *); first | omega | (simp; omega)) ?_; cbv))
    refine ⟨xs.length - (i + 1), by omega, i + 1, _, _, _, ?_, hin, ⟨?_, ?_, ?_⟩, rfl, rfl⟩
    · (try subst hM); (try simp only [Eng.ncast] at *); (try simp only [Eng.nI_eq] at *); (try simp only [Eng.real, decide_eq_true_eq, decide_eq_false_iff_not, Bool.not_eq_true', Bool.not_eq_false', Bool.and_eq_true, Bool.or_eq_true, Eng.sEq_dec, Bool.not_true, Bool.not_false, gt_iff_lt, ge_iff_le] at *)
      rw [hj, w64 (by omega)]; omega
    · (try subst hM); (try simp only [Eng.ncast] at *); (try simp only [Eng.nI_eq] at *); (try simp only [Eng.real, decide_eq_true_eq, decide_eq_false_iff_not, Bool.not_eq_true', Bool.not_eq_false', Bool.and_eq_true, Bool.or_eq_true, Eng.sEq_dec, Bool.not_true, Bool.not_false, gt_iff_lt, ge_iff_le] at *)
      simp [hy]
    · (try subst hM); (try simp only [Eng.ncast] at *); (try simp only [Eng.nI_eq] at *); (try simp only [Eng.real, decide_eq_true_eq, decide_eq_false_iff_not, Bool.not_eq_true', Bool.not_eq_false', Bool.and_eq_true, Bool.or_eq_true, Eng.sEq_dec, Bool.not_true, Bool.not_false, gt_iff_lt, ge_iff_le] at *)
      rw [hq, w64 (x := k + 2 * (i : Int) + 1) (by omega), w64 (by omega)]; omega
    · (try subst hM); (try simp only [Eng.ncast] at *); (try simp only [Eng.nI_eq] at *); (try simp only [Eng.real, decide_eq_true_eq, decide_eq_false_iff_not, Bool.not_eq_true', Bool.not_eq_false', Bool.and_eq_true, Bool.or_eq_true, Eng.sEq_dec, Bool.not_true, Bool.not_false, gt_iff_lt, ge_iff_le] at *)
      have hiy : i < ys.length := by omega
      rw [w64 (x := q + 1) (by omega)]
      simp only [hji, List.set_set]
      simp only [List.getD_eq_getElem?_getD, List.getElem?_set_self hiy, Option.getD_some]
      rw [List.take_add_one, List.take_set_of_le (by omega), ht, markO_succ, hq]
      simp [hy, hin]
  · rintro -
    (try subst hM); (try simp only [Eng.ncast] at *); (try simp only [Eng.nI_eq] at *); (try simp only [Eng.real, decide_eq_true_eq, decide_eq_false_iff_not, Bool.not_eq_true', Bool.not_eq_false', Bool.and_eq_true, Bool.or_eq_true, Eng.sEq_dec, Bool.not_true, Bool.not_false, gt_iff_lt, ge_iff_le] at *)
    have : i = xs.length := by omega
    subst this
    refine ⟨hq, ?_⟩
    show ys = markO k xs.length
    rw [← ht, List.take_of_length_le (by omega)]
def c25m : Con := Con.of ⟨[(true, 1, tySup), (false, 0, .int .i64)], [(0, .int .i64)], fun x => x.1.2.2.2.2.1.length ≤ 1048576 ∧ 0 ≤ x.2.1 ∧ x.2.1 ≤ 1048576, fun x y x' => y.1 = x.2.1 + 2 * x.1.2.2.2.2.1.length ∧ x'.1.2.2.2.2.1 = markO x.2.1 x.1.2.2.2.2.1.length⟩
theorem ok25m : FnOK Tryd.prog 25 c25m := by
  refine FnOK.of_vc mixed tabOk (.cons en62 ok62m .nil) Tryd.func25 rfl (by decide) lv25 hd25 ?_
  rintro ⟨⟨(bl : Int), (ge : Int), (ne : Int), (ta : Int), (xs : List RootD), ⟨⟩⟩, (k : Int), ⟨⟩⟩ ⟨(hl : xs.length ≤ 1048576), (h0 : 0 ≤ k), (h1 : k ≤ 1048576)⟩ hwf
  generalize hM : real = M
  cbv
  refine ⟨fun _ => ⟨hl, h0, h1⟩, ?_⟩
  rintro ⟨(y : Int), ⟨⟩⟩ ⟨(zs : List RootD), ⟨⟩⟩ ⟨(hy : y = k + 2 * xs.length), (hz : zs = markO k xs.length)⟩ - -
  cbv
  exact fun _ => ⟨hy, hz⟩
def c68 : Con := Con.of ⟨[(false, 0, .sl tyRoot), (false, 0, .int .i64)], [(0, .int .i64)], fun x => x.1.length ≤ 1048576 ∧ 0 ≤ x.2.1 ∧ x.2.1 ≤ 1048576, fun x y _ => x.1 = markO x.2.1 x.1.length → y.1 = x.2.1 + 2 * x.1.length⟩
theorem ok68 : FnOK Tryd.prog 68 c68 := by
  refine FnOK.of_vc mixed tabOk .nil Tryd.func68 rfl (by decide) lv68 hd68 ?_
  rintro ⟨(xs : List RootD), (k : Int), ⟨⟩⟩ ⟨(hl : xs.length ≤ 1048576), (h0 : 0 ≤ k), (h1 : k ≤ 1048576)⟩ hwf
  generalize hM : real = M
  cbv
  refine ⟨fun m Γ => ∃ (i : Nat) (j q : Int), j = i ∧ i ≤ xs.length ∧ q = k + 2 * i ∧ m = xs.length - i ∧ Γ = ⟨31, [(0, .pv [] (.sl tyRoot) xs), (1, .pv [] (.int .i64) q), (5, .pv [] (.int .i64) j)], [], [.hole 0, .hole 0]⟩, ⟨_, 0, 0, k, rfl, Nat.zero_le _, by simp, rfl, rfl⟩, ?_⟩
  rintro m _ ⟨i, j, q, hj, hi, hq, rfl, rfl⟩ -
  cbv
  refine splM (fun h2 => ?_) (fun h2 => ?_) <;> cbv
  · have hin : i < xs.length := by
      (try subst hM); (try simp only [Eng.ncast] at *); (try simp only [Eng.nI_eq] at *); (try simp only [Eng.real, decide_eq_true_eq, decide_eq_false_iff_not, Bool.not_eq_true', Bool.not_eq_false', Bool.and_eq_true, Bool.or_eq_true, Eng.sEq_dec, Bool.not_true, Bool.not_false, gt_iff_lt, ge_iff_le] at *)
      omega
    (try simp only [Eng.ncast] at hi hj hq); (try simp only [Eng.nI_eq] at hi hj hq)
    have hji : j.toNat = i := by rw [hj]; simp
    have hgt : xs = markO k xs.length → M.get xs j (0, 0, PUnit.unit) = (q, q + 1, PUnit.unit) := fun e => by
      subst hM
      show xs.getD j.toNat _ = _
      rw [hji, List.getD_eq_getElem?_getD, e, markO_get k hin, hq]
      rfl
    have bad : ∀ z : Int, (xs = markO k xs.length → False) → (xs = markO k xs.length → z = k + 2 * xs.length) := fun z h e => (h e).elim
    refine ⟨by (try subst hM); (try simp only [Eng.ncast] at *); (try simp only [Eng.nI_eq] at *); (try simp only [Eng.real, decide_eq_true_eq, decide_eq_false_iff_not, Bool.not_eq_true', Bool.not_eq_false', Bool.and_eq_true, Bool.or_eq_true, Eng.sEq_dec, Bool.not_true, Bool.not_false, gt_iff_lt, ge_iff_le] at *); omega, by (try subst hM); (try simp only [Eng.ncast] at *); (try simp only [Eng.nI_eq] at *); (try simp only [Eng.real, decide_eq_true_eq, decide_eq_false_iff_not, Bool.not_eq_true', Bool.not_eq_false', Bool.and_eq_true, Bool.or_eq_true, Eng.sEq_dec, Bool.not_true, Bool.not_false, gt_iff_lt, ge_iff_le] at *); omega, ?_⟩
    refine splM (fun h3 => ?_) (fun h3 => ?_) <;> cbv
    · rintro -
      refine bad _ (fun e => ?_)
      have := hgt e
      (try subst hM); (try simp only [Eng.ncast] at *); (try simp only [Eng.nI_eq] at *); (try simp only [Eng.real, decide_eq_true_eq, decide_eq_false_iff_not, Bool.not_eq_true', Bool.not_eq_false', Bool.and_eq_true, Bool.or_eq_true, Eng.sEq_dec, Bool.not_true, Bool.not_false, gt_iff_lt, ge_iff_le] at *)
      apply h3
      rw [this]
    clear h3
    refine ⟨by (try subst hM); (try simp only [Eng.ncast] at *); (try simp only [Eng.nI_eq] at *); (try simp only [Eng.real, decide_eq_true_eq, decide_eq_false_iff_not, Bool.not_eq_true', Bool.not_eq_false', Bool.and_eq_true, Bool.or_eq_true, Eng.sEq_dec, Bool.not_true, Bool.not_false, gt_iff_lt, ge_iff_le] at *); omega, by (try subst hM); (try simp only [Eng.ncast] at *); (try simp only [Eng.nI_eq] at *); (try simp only [Eng.real, decide_eq_true_eq, decide_eq_false_iff_not, Bool.not_eq_true', Bool.not_eq_false', Bool.and_eq_true, Bool.or_eq_true, Eng.sEq_dec, Bool.not_true, Bool.not_false, gt_iff_lt, ge_iff_le] at *); omega, ?_⟩
    refine splM (fun h3 => ?_) (fun h3 => ?_) <;> cbv
    · rintro -
      refine bad _ (fun e => ?_)
      have := hgt e
      (try subst hM); (try simp only [Eng.ncast] at *); (try simp only [Eng.nI_eq] at *); (try simp only [Eng.real, decide_eq_true_eq, decide_eq_false_iff_not, Bool.not_eq_true', Bool.not_eq_false', Bool.and_eq_true, Bool.or_eq_true, Eng.sEq_dec, Bool.not_true, Bool.not_false, gt_iff_lt, ge_iff_le] at *)
      apply h3
      rw [this, w64 (by omega)]
    clear h3
    refine ⟨xs.length - (i + 1), by omega, i + 1, _, _, ?_, hin, ?_, rfl, rfl⟩
    · (try subst hM); (try simp only [Eng.ncast] at *); (try simp only [Eng.nI_eq] at *); (try simp only [Eng.real, decide_eq_true_eq, decide_eq_false_iff_not, Bool.not_eq_true', Bool.not_eq_false', Bool.and_eq_true, Bool.or_eq_true, Eng.sEq_dec, Bool.not_true, Bool.not_false, gt_iff_lt, ge_iff_le] at *)
      rw [hj, w64 (by omega)]; omega
    · (try subst hM); (try simp only [Eng.ncast] at *); (try simp only [Eng.nI_eq] at *); (try simp only [Eng.real, decide_eq_true_eq, decide_eq_false_iff_not, Bool.not_eq_true', Bool.not_eq_false', Bool.and_eq_true, Bool.or_eq_true, Eng.sEq_dec, Bool.not_true, Bool.not_false, gt_iff_lt, ge_iff_le] at *)
      rw [hq, w64 (x := k + 2 * (i : Int) + 1) (by omega), w64 (by omega)]; omega
  · rintro - -
    (try subst hM); (try simp only [Eng.ncast] at *); (try simp only [Eng.nI_eq] at *); (try simp only [Eng.real, decide_eq_true_eq, decide_eq_false_iff_not, Bool.not_eq_true', Bool.not_eq_false', Bool.and_eq_true, Bool.or_eq_true, Eng.sEq_dec, Bool.not_true, Bool.not_false, gt_iff_lt, ge_iff_le] at *)
    have : i = xs.length := by omega
    subst this
    exact hq
def c32 : Con := Con.of ⟨[(false, 0, tySup), (false, 0, .int .i64)], [(0, .int .i64)], fun x => x.1.2.2.2.2.1.length ≤ 1048576 ∧ 0 ≤ x.2.1 ∧ x.2.1 ≤ 1048576, fun x y _ => x.1.2.2.2.2.1 = markO x.2.1 x.1.2.2.2.2.1.length → y.1 = x.2.1 + 2 * x.1.2.2.2.2.1.length⟩
theorem ok32 : FnOK Tryd.prog 32 c32 := by
  refine FnOK.of_vc mixed tabOk (.cons en68 ok68 .nil) Tryd.func32 rfl (by decide) lv32 hd32 ?_
  rintro ⟨⟨(bl : Int), (ge : Int), (ne : Int), (ta : Int), (xs : List RootD), ⟨⟩⟩, (k : Int), ⟨⟩⟩ ⟨(hl : xs.length ≤ 1048576), (h0 : 0 ≤ k), (h1 : k ≤ 1048576)⟩ hwf
  generalize hM : real = M
  cbv
  refine ⟨fun _ => ⟨hl, h0, h1⟩, ?_⟩
  rintro ⟨(y : Int), ⟨⟩⟩ x' (hy : xs = markO k xs.length → y = k + 2 * xs.length) - -
  cbv
  refine splM (fun h => ?_) (fun h => ?_) <;> cbv
  · rintro -
    show xs = markO k xs.length → _
    intro e
    exfalso
    have := hy e
    (try subst hM); (try simp only [Eng.ncast] at *); (try simp only [Eng.nI_eq] at *); (try simp only [Eng.real, decide_eq_true_eq, decide_eq_false_iff_not, Bool.not_eq_true', Bool.not_eq_false', Bool.and_eq_true, Bool.or_eq_true, Eng.sEq_dec, Bool.not_true, Bool.not_false, gt_iff_lt, ge_iff_le] at *)
    omega
  · exact fun _ => hy
end Go.Proofs.YtegbadccjidfjaaDoor.EngTab
