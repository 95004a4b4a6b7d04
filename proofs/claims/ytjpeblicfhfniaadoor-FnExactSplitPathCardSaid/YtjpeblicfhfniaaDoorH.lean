/- The law's own function. -/
import Derived.Test.YtjpeblicfhfniaaDoorF
import Derived.Test.YtjpeblicfhfniaaDoorD
namespace Go.Proofs.YtjpeblicfhfniaaDoor.EngTab
open Go.Proofs.YtjpeblicfhfniaaDoor.Eng
set_option maxRecDepth 100000
set_option linter.unusedVariables false
set_option linter.unusedSimpArgs false
theorem split_len (s : ByteArray) : (split s).1.length ≤ 16 := by
  unfold split
  split
  · simp
  split
  · simp
  split
  · simp
  split
  · simp
  split
  · simp
  · show (cuts _ 47).length ≤ 16; omega
def c3 : Con := ⟨[(false, 0, .str)], [(0, .bool)], fun x => True, fun x y _ => y.1 = true⟩
theorem ok3 : FnOK Tryd.prog 3 c3 := by
  refine FnOK.of_vc mixed tabOk (.cons en5 ok5 (.cons en6 ok6 (.cons en7 ok7 (.cons en8 ok8 (.cons en9 ok9 .nil))))) Tryd.func3 rfl (by decide) lv3 hd3 ?_
  rintro ⟨(s : ByteArray), ⟨⟩⟩ - hwf
  generalize hM : real = M
  cbv
  refine splM (fun h => ?_) (fun h => ?_) <;> cbv
  · exact fun _ => rfl
  clear h
  refine ⟨fun _ => trivial, ?_⟩
  rintro ⟨(w0 : List ByteArray), (w1 : Int), ⟨⟩⟩ x' ⟨(hw0 : w0 = (split s).1), (hw1 : w1 = (split s).2)⟩ - -
  cbv
  refine ⟨fun _ => trivial, ?_⟩
  rintro ⟨(g0 : List ByteArray), (g1 : Int), ⟨⟩⟩ x2 ⟨(hg0 : g0 = (split s).1), (hg1 : g1 = (split s).2)⟩ - -
  obtain rfl : g0 = w0 := by rw [hg0, hw0]
  obtain rfl : g1 = w1 := by rw [hg1, hw1]
  clear hg0 hg1
  have hl : g0.length ≤ 16 := by rw [hw0]; exact split_len s
  cbv
  refine ⟨fun _ => trivial, ?_⟩
  rintro ⟨(e1 : Bool), ⟨⟩⟩ x3 (he1 : e1 = decide (g0 = g0)) - -
  cbv
  refine splM (fun h => ?_) (fun h => ?_) <;> cbv
  · exfalso; (try subst hM); (try simp only [Eng.ncast] at *); (try simp only [Eng.nI_eq] at *); (try simp only [Eng.real, decide_eq_true_eq, decide_eq_false_iff_not, Bool.not_eq_true', Bool.not_eq_false', Bool.and_eq_true, Bool.or_eq_true, Eng.sEq_dec, Bool.not_true, Bool.not_false, gt_iff_lt, ge_iff_le] at *); simp [he1] at h
  clear h
  refine splM (fun h => ?_) (fun h => ?_) <;> cbv
  · exfalso; (try subst hM); (try simp only [Eng.ncast] at *); (try simp only [Eng.nI_eq] at *); (try simp only [Eng.real, decide_eq_true_eq, decide_eq_false_iff_not, Bool.not_eq_true', Bool.not_eq_false', Bool.and_eq_true, Bool.or_eq_true, Eng.sEq_dec, Bool.not_true, Bool.not_false, gt_iff_lt, ge_iff_le] at *); exact h trivial
  clear h
  refine ⟨fun _ => ⟨by show (0 : Int) ≤ 1; decide, by show (1 : Int) ≤ 1048576; decide, by show g0.length ≤ 1048576; omega⟩, ?_⟩
  rintro ⟨(m : Int), ⟨⟩⟩ ⟨(g2 : List ByteArray), (k2 : Int), ⟨⟩⟩ ⟨(hm1 : m = 1 + (g0.length : Int)), (hg2 : g2 = marks 1 g0.length)⟩ - -
  cbv
  have hl2 : g2.length = g0.length := by rw [hg2, marks_len]
  refine ⟨fun _ => ⟨by show (0 : Int) ≤ 1; decide, by show (1 : Int) ≤ 1048576; decide, by show g2 = marks 1 g2.length; rw [hl2]; exact hg2, by show g2.length ≤ 1048576; omega⟩, ?_⟩
  rintro ⟨(q : Int), ⟨⟩⟩ x4 (hq : q = 1 + (g2.length : Int)) - -
  have hqm : q = m := by rw [hq, hl2, hm1]
  have hq0 : 0 ≤ q := by rw [hq]; omega
  clear hg2
  cbv
  refine splM (fun h => ?_) (fun h => ?_) <;> cbv
  · exfalso; (try subst hM); (try simp only [Eng.ncast] at *); (try simp only [Eng.nI_eq] at *); (try simp only [Eng.real, decide_eq_true_eq, decide_eq_false_iff_not, Bool.not_eq_true', Bool.not_eq_false', Bool.and_eq_true, Bool.or_eq_true, Eng.sEq_dec, Bool.not_true, Bool.not_false, gt_iff_lt, ge_iff_le] at *); omega
  clear h
  refine splM (fun h => ?_) (fun h => ?_) <;> cbv
  · exfalso; (try subst hM); (try simp only [Eng.ncast] at *); (try simp only [Eng.nI_eq] at *); (try simp only [Eng.real, decide_eq_true_eq, decide_eq_false_iff_not, Bool.not_eq_true', Bool.not_eq_false', Bool.and_eq_true, Bool.or_eq_true, Eng.sEq_dec, Bool.not_true, Bool.not_false, gt_iff_lt, ge_iff_le] at *); exact h hqm
  clear h
  refine ⟨fun _ => trivial, ?_⟩
  rintro ⟨(k0 : List ByteArray), (k1 : Int), ⟨⟩⟩ x5 ⟨(hk0 : k0 = (split s).1), (hk1 : k1 = (split s).2)⟩ - -
  obtain rfl : k0 = g0 := by rw [hk0, hw0]
  obtain rfl : k1 = g1 := by rw [hk1, hw1]
  cbv
  refine ⟨fun _ => trivial, ?_⟩
  rintro ⟨(e2 : Bool), ⟨⟩⟩ x6 (he2 : e2 = decide (k0 = k0)) - -
  cbv
  refine splM (fun h => ?_) (fun h => ?_) <;> cbv
  · exfalso; (try subst hM); (try simp only [Eng.ncast] at *); (try simp only [Eng.nI_eq] at *); (try simp only [Eng.real, decide_eq_true_eq, decide_eq_false_iff_not, Bool.not_eq_true', Bool.not_eq_false', Bool.and_eq_true, Bool.or_eq_true, Eng.sEq_dec, Bool.not_true, Bool.not_false, gt_iff_lt, ge_iff_le] at *); simp [he2] at h
  clear h
  refine splM (fun h => ?_) (fun h => ?_) <;> cbv
  · exfalso; (try subst hM); (try simp only [Eng.ncast] at *); (try simp only [Eng.nI_eq] at *); (try simp only [Eng.real, decide_eq_true_eq, decide_eq_false_iff_not, Bool.not_eq_true', Bool.not_eq_false', Bool.and_eq_true, Bool.or_eq_true, Eng.sEq_dec, Bool.not_true, Bool.not_false, gt_iff_lt, ge_iff_le] at *); exact h trivial
  exact fun _ => rfl
end Go.Proofs.YtjpeblicfhfniaaDoor.EngTab
