/- Contracts of SplitPath's functions, fourth text: marking and holding. -/
import Derived.Test.YtjpeblicfhfniaaDoorC
namespace Go.Proofs.YtjpeblicfhfniaaDoor.EngTab
open Go.Proofs.YtjpeblicfhfniaaDoor.Eng
set_option maxRecDepth 100000
set_option linter.unusedVariables false
set_option linter.unusedSimpArgs false
noncomputable def marks (k : Int) (n : Nat) : List ByteArray := (List.range n).map fun (i : Nat) => mt (k + i)
theorem marks_len (k : Int) (n : Nat) : (marks k n).length = n := by simp [marks]
theorem marks_succ (k : Int) (n : Nat) : marks k (n + 1) = marks k n ++ [mt (k + n)] := by simp [marks, List.range_succ]
noncomputable def c8 : Con := ⟨[(true, 1, .sl .str), (false, 0, .int .i64)], [(0, .int .i64)], fun x => 0 ≤ x.2.1 ∧ x.2.1 ≤ 1048576 ∧ x.1.length ≤ 1048576, fun x y x' => y.1 = x.2.1 + x.1.length ∧ x'.1 = marks x.2.1 x.1.length⟩
theorem ok8 : FnOK Tryd.prog 8 c8 := by
  refine FnOK.of_vc mixed tabOk (.cons en17 ok17 .nil) Tryd.func8 rfl (by decide) lv8 hd8 ?_
  rintro ⟨(l : List ByteArray), (k : Int), ⟨⟩⟩ ⟨(h0 : 0 ≤ k), (h1 : k ≤ 1048576), (h2 : l.length ≤ 1048576)⟩ hwf
  generalize hM : real = M
  cbv
  refine ⟨fun m Γ => ∃ (i : Nat) (j q : Int) (c : List ByteArray), j = i ∧ q = k + i ∧ i ≤ l.length ∧ c.length = l.length ∧ c.take i = marks k i ∧ m = l.length - i ∧
      Γ = ⟨20, [(0, .ref 0), (1, .pv [] (.int .i64) q), (5, .pv [] (.int .i64) j)], [(0, .row 0 .str c)], [.ref 0, .hole 0]⟩, ⟨_, 0, 0, k, l, rfl, by omega, Nat.zero_le _, rfl, rfl, rfl, rfl⟩, ?_⟩
  rintro m _ ⟨i, j, q, c, hj, hq, hi, hc, hn, rfl, rfl⟩ -
  cbv
  refine splM (fun h => ?_) (fun h => ?_) <;> cbv
  · have il : i < l.length := by (try subst hM); (try simp only [Eng.ncast] at *); (try simp only [Eng.nI_eq] at *); (try simp only [Eng.real, decide_eq_true_eq, decide_eq_false_iff_not, Bool.not_eq_true', Bool.not_eq_false', Bool.and_eq_true, Bool.or_eq_true, Eng.sEq_dec, Bool.not_true, Bool.not_false, gt_iff_lt, ge_iff_le] at *); omega
    clear h
    refine ⟨fun _ => by show q ≤ _; (try subst hM); (try simp only [Eng.ncast] at *); (try simp only [Eng.nI_eq] at *); (try simp only [Eng.real, decide_eq_true_eq, decide_eq_false_iff_not, Bool.not_eq_true', Bool.not_eq_false', Bool.and_eq_true, Bool.or_eq_true, Eng.sEq_dec, Bool.not_true, Bool.not_false, gt_iff_lt, ge_iff_le] at *); omega, ?_⟩
    rintro ⟨(y : ByteArray), ⟨⟩⟩ x' (hy : y = mt q) - -
    cbv
    have hjl : 0 ≤ j ∧ j < c.length := by (try subst hM); (try simp only [Eng.ncast] at *); (try simp only [Eng.nI_eq] at *); (try simp only [Eng.real, decide_eq_true_eq, decide_eq_false_iff_not, Bool.not_eq_true', Bool.not_eq_false', Bool.and_eq_true, Bool.or_eq_true, Eng.sEq_dec, Bool.not_true, Bool.not_false, gt_iff_lt, ge_iff_le] at *); omega
    refine ⟨by (try subst hM); (try simp only [Eng.ncast] at *); (try simp only [Eng.nI_eq] at *); (try simp only [Eng.real, decide_eq_true_eq, decide_eq_false_iff_not, Bool.not_eq_true', Bool.not_eq_false', Bool.and_eq_true, Bool.or_eq_true, Eng.sEq_dec, Bool.not_true, Bool.not_false, gt_iff_lt, ge_iff_le] at *); omega, by (try subst hM); (try simp only [Eng.ncast] at *); (try simp only [Eng.nI_eq] at *); (try simp only [Eng.real, decide_eq_true_eq, decide_eq_false_iff_not, Bool.not_eq_true', Bool.not_eq_false', Bool.and_eq_true, Bool.or_eq_true, Eng.sEq_dec, Bool.not_true, Bool.not_false, gt_iff_lt, ge_iff_le] at *); omega, by (try subst hM); (try simp only [Eng.ncast] at *); (try simp only [Eng.nI_eq] at *); (try simp only [Eng.real, decide_eq_true_eq, decide_eq_false_iff_not, Bool.not_eq_true', Bool.not_eq_false', Bool.and_eq_true, Bool.or_eq_true, Eng.sEq_dec, Bool.not_true, Bool.not_false, gt_iff_lt, ge_iff_le] at *); omega, by (try subst hM); (try simp only [Eng.ncast] at *); (try simp only [Eng.nI_eq] at *); (try simp only [Eng.real, decide_eq_true_eq, decide_eq_false_iff_not, Bool.not_eq_true', Bool.not_eq_false', Bool.and_eq_true, Bool.or_eq_true, Eng.sEq_dec, Bool.not_true, Bool.not_false, gt_iff_lt, ge_iff_le] at *); omega, ?_⟩
    refine ⟨_, ?_, i + 1, M.wrap .i64 (M.add j 1), M.wrap .i64 (M.add q 1), M.set c j y, ?_, ?_, il, ?_, ?_, rfl, rfl⟩
    · omega
    · (try subst hM); (try simp only [Eng.ncast] at *); (try simp only [Eng.nI_eq] at *); (try simp only [Eng.real, decide_eq_true_eq, decide_eq_false_iff_not, Bool.not_eq_true', Bool.not_eq_false', Bool.and_eq_true, Bool.or_eq_true, Eng.sEq_dec, Bool.not_true, Bool.not_false, gt_iff_lt, ge_iff_le] at *)
      rw [w64 (by omega)]; omega
    · (try subst hM); (try simp only [Eng.ncast] at *); (try simp only [Eng.nI_eq] at *); (try simp only [Eng.real, decide_eq_true_eq, decide_eq_false_iff_not, Bool.not_eq_true', Bool.not_eq_false', Bool.and_eq_true, Bool.or_eq_true, Eng.sEq_dec, Bool.not_true, Bool.not_false, gt_iff_lt, ge_iff_le] at *)
      rw [w64 (by omega)]; omega
    · (try subst hM); (try simp only [Eng.ncast] at *); (try simp only [Eng.nI_eq] at *); (try simp only [Eng.real, decide_eq_true_eq, decide_eq_false_iff_not, Bool.not_eq_true', Bool.not_eq_false', Bool.and_eq_true, Bool.or_eq_true, Eng.sEq_dec, Bool.not_true, Bool.not_false, gt_iff_lt, ge_iff_le] at *)
      rw [List.length_set]; exact hc
    · (try subst hM); (try simp only [Eng.ncast] at *); (try simp only [Eng.nI_eq] at *); (try simp only [Eng.real, decide_eq_true_eq, decide_eq_false_iff_not, Bool.not_eq_true', Bool.not_eq_false', Bool.and_eq_true, Bool.or_eq_true, Eng.sEq_dec, Bool.not_true, Bool.not_false, gt_iff_lt, ge_iff_le] at *)
      rw [marks_succ, ← hn, hj, Int.toNat_natCast, List.take_add_one, List.getElem?_set_self (by omega), List.take_set_of_le (by omega), hy, hq]; rfl
  · have il : i = l.length := by (try subst hM); (try simp only [Eng.ncast] at *); (try simp only [Eng.nI_eq] at *); (try simp only [Eng.real, decide_eq_true_eq, decide_eq_false_iff_not, Bool.not_eq_true', Bool.not_eq_false', Bool.and_eq_true, Bool.or_eq_true, Eng.sEq_dec, Bool.not_true, Bool.not_false, gt_iff_lt, ge_iff_le] at *); omega
    rintro -
    (try subst hM); (try simp only [Eng.ncast] at *); (try simp only [Eng.nI_eq] at *); (try simp only [Eng.real, decide_eq_true_eq, decide_eq_false_iff_not, Bool.not_eq_true', Bool.not_eq_false', Bool.and_eq_true, Bool.or_eq_true, Eng.sEq_dec, Bool.not_true, Bool.not_false, gt_iff_lt, ge_iff_le] at *)
    refine ⟨?_, ?_⟩
    · show q = k + (l.length : Int); omega
    · show c = marks k l.length
      rw [← il, ← hn, il, ← hc, List.take_length]
noncomputable def c9 : Con := ⟨[(false, 0, .sl .str), (false, 0, .int .i64)], [(0, .int .i64)], fun x => 0 ≤ x.2.1 ∧ x.2.1 ≤ 1048576 ∧ x.1 = marks x.2.1 x.1.length ∧ x.1.length ≤ 1048576, fun x y _ => y.1 = x.2.1 + x.1.length⟩
theorem ok9 : FnOK Tryd.prog 9 c9 := by
  refine FnOK.of_vc mixed tabOk (.cons en17 ok17 .nil) Tryd.func9 rfl (by decide) lv9 hd9 ?_
  rintro ⟨(l : List ByteArray), (k : Int), ⟨⟩⟩ ⟨(h0 : 0 ≤ k), (h1 : k ≤ 1048576), (hl : l = marks k l.length), (h2 : l.length ≤ 1048576)⟩ hwf
  generalize hM : real = M
  cbv
  refine ⟨fun m Γ => ∃ (i : Nat) (j q : Int), j = i ∧ q = k + i ∧ i ≤ l.length ∧ m = l.length - i ∧
      Γ = ⟨22, [(0, .pv [] (.sl .str) l), (1, .pv [] (.int .i64) q), (5, .pv [] (.int .i64) j)], [], [.hole 0, .hole 0]⟩, ⟨_, 0, 0, k, rfl, by omega, Nat.zero_le _, rfl, rfl⟩, ?_⟩
  rintro m _ ⟨i, j, q, hj, hq, hi, rfl, rfl⟩ -
  cbv
  refine splM (fun h => ?_) (fun h => ?_) <;> cbv
  · have il : i < l.length := by (try subst hM); (try simp only [Eng.ncast] at *); (try simp only [Eng.nI_eq] at *); (try simp only [Eng.real, decide_eq_true_eq, decide_eq_false_iff_not, Bool.not_eq_true', Bool.not_eq_false', Bool.and_eq_true, Bool.or_eq_true, Eng.sEq_dec, Bool.not_true, Bool.not_false, gt_iff_lt, ge_iff_le] at *); omega
    clear h
    have hb1 : M.le 0 j := by (try subst hM); (try simp only [Eng.ncast] at *); (try simp only [Eng.nI_eq] at *); (try simp only [Eng.real, decide_eq_true_eq, decide_eq_false_iff_not, Bool.not_eq_true', Bool.not_eq_false', Bool.and_eq_true, Bool.or_eq_true, Eng.sEq_dec, Bool.not_true, Bool.not_false, gt_iff_lt, ge_iff_le] at *); omega
    have hb2 : M.lt j (M.ofN (M.len l)) := by (try subst hM); (try simp only [Eng.ncast] at *); (try simp only [Eng.nI_eq] at *); (try simp only [Eng.real, decide_eq_true_eq, decide_eq_false_iff_not, Bool.not_eq_true', Bool.not_eq_false', Bool.and_eq_true, Bool.or_eq_true, Eng.sEq_dec, Bool.not_true, Bool.not_false, gt_iff_lt, ge_iff_le] at *); omega
    have hpre : True → c17.pre (q, ()) := fun _ => by show q ≤ _; (try subst hM); (try simp only [Eng.ncast] at *); (try simp only [Eng.nI_eq] at *); (try simp only [Eng.real, decide_eq_true_eq, decide_eq_false_iff_not, Bool.not_eq_true', Bool.not_eq_false', Bool.and_eq_true, Bool.or_eq_true, Eng.sEq_dec, Bool.not_true, Bool.not_false, gt_iff_lt, ge_iff_le] at *); omega
    refine ⟨ot9_4, (fun _ => by kernel_rfl), ?_⟩
    cbv
    repeat' (first | exact hb1 | exact hb2 | exact hpre | exact trivial | refine And.intro ?_ ?_ | (rintro ⟨(y : ByteArray), ⟨⟩⟩ x' (hy : y = mt q) - -; cbv) | (refine splM (fun h => ?_) (fun h => ?_) <;> cbv))
    all_goals (clear hpre hb1 hb2)
    all_goals first
      | (exfalso
         (try subst hM); (try simp only [Eng.ncast] at *); (try simp only [Eng.nI_eq] at *); (try simp only [Eng.real, decide_eq_true_eq, decide_eq_false_iff_not, Bool.not_eq_true', Bool.not_eq_false', Bool.and_eq_true, Bool.or_eq_true, Eng.sEq_dec, Bool.not_true, Bool.not_false, gt_iff_lt, ge_iff_le] at *)
         apply h
         rw [hy, hj, Int.toNat_natCast, List.getD_eq_getElem?_getD]
         have : l[i]? = some (mt (k + i)) := by
           rw [hl, marks, List.getElem?_map, List.getElem?_range il]; rfl
         rw [this, hq]; rfl)
      | (refine ⟨_, ?_, i + 1, M.wrap .i64 (M.add j 1), M.wrap .i64 (M.add q 1), ?_, ?_, il, rfl, rfl⟩
         · omega
         · (try subst hM); (try simp only [Eng.ncast] at *); (try simp only [Eng.nI_eq] at *); (try simp only [Eng.real, decide_eq_true_eq, decide_eq_false_iff_not, Bool.not_eq_true', Bool.not_eq_false', Bool.and_eq_true, Bool.or_eq_true, Eng.sEq_dec, Bool.not_true, Bool.not_false, gt_iff_lt, ge_iff_le] at *)
           rw [w64 (by omega)]; omega
         · (try subst hM); (try simp only [Eng.ncast] at *); (try simp only [Eng.nI_eq] at *); (try simp only [Eng.real, decide_eq_true_eq, decide_eq_false_iff_not, Bool.not_eq_true', Bool.not_eq_false', Bool.and_eq_true, Bool.or_eq_true, Eng.sEq_dec, Bool.not_true, Bool.not_false, gt_iff_lt, ge_iff_le] at *)
           rw [w64 (by omega)]; omega)
  · have il : i = l.length := by (try subst hM); (try simp only [Eng.ncast] at *); (try simp only [Eng.nI_eq] at *); (try simp only [Eng.real, decide_eq_true_eq, decide_eq_false_iff_not, Bool.not_eq_true', Bool.not_eq_false', Bool.and_eq_true, Bool.or_eq_true, Eng.sEq_dec, Bool.not_true, Bool.not_false, gt_iff_lt, ge_iff_le] at *); omega
    rintro -
    (try subst hM); (try simp only [Eng.ncast] at *); (try simp only [Eng.nI_eq] at *); (try simp only [Eng.real, decide_eq_true_eq, decide_eq_false_iff_not, Bool.not_eq_true', Bool.not_eq_false', Bool.and_eq_true, Bool.or_eq_true, Eng.sEq_dec, Bool.not_true, Bool.not_false, gt_iff_lt, ge_iff_le] at *)
    show q = k + (l.length : Int); omega
end Go.Proofs.YtjpeblicfhfniaaDoor.EngTab
