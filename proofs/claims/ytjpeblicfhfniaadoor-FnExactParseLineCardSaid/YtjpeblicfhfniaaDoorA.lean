/- Contracts of SplitPath's functions, first text: the specification's. -/
import Derived.Test.YtjpeblicfhfniaaDoorEngTab
namespace Go.Proofs.YtjpeblicfhfniaaDoor.EngTab
open Go.Proofs.YtjpeblicfhfniaaDoor.Eng
set_option maxRecDepth 100000
set_option linter.unusedVariables false
set_option linter.unusedSimpArgs false
def nameB (b : Int) : Bool := decide (33 ≤ b ∧ b ≤ 126 ∧ b ≠ 47)
def byteAt (s : ByteArray) (i : Int) : Int := ((s[i.toNat]?).map fun b => (b.toNat : Int)).getD 0
/-- All bytes from place i on (n of them) may stand in a name. -/
def nameAll (s : ByteArray) : Nat → Nat → Bool
  | 0, _ => true
  | n + 1, i => nameB (byteAt s i) && nameAll s n (i + 1)
def nameC (s : ByteArray) : Int := if s.size = 0 then 12 else if nameAll s s.size 0 = false then 12 else if s.size > 8 then 4 else 0
def c24 : Con := Con.of ⟨[(false, 0, .int .u8)], [(0, .bool)], fun _ => True, fun x y _ => y.1 = nameB x.1⟩
theorem ok24 : FnOK Tryd.prog 24 c24 := by
  refine FnOK.of_vc mixed tabOk .nil Tryd.func24 rfl (by decide) lv24 hd24 ?_
  rintro ⟨(b : Int), ⟨⟩⟩ - hwf
  generalize hM : real = M
  cbv
  repeat' (refine splM (fun h => ?_) (fun h => ?_) <;> cbv)
  all_goals (rintro -; (try subst hM); (try simp only [Eng.ncast] at *); (try simp only [Eng.nI_eq] at *); (try simp only [Eng.real, decide_eq_true_eq, decide_eq_false_iff_not, Bool.not_eq_true', Bool.not_eq_false', Bool.and_eq_true, Bool.or_eq_true, Eng.sEq_dec, Bool.not_true, Bool.not_false, gt_iff_lt, ge_iff_le] at *); simp only [c24, Con.of, nameB]; first | (by_cases hb : b = 47 <;> simp [*]) | (rw [eq_comm, decide_eq_false_iff_not]; omega))
def c14 : Con := Con.of ⟨[(false, 0, .str)], [(0, .int .i64)], fun x => x.1.size ≤ 1048576, fun x y _ => y.1 = nameC x.1⟩
theorem ok14 : FnOK Tryd.prog 14 c14 := by
  refine FnOK.of_vc mixed tabOk (.cons en24 ok24 .nil) Tryd.func14 rfl (by decide) lv14 hd14 ?_
  rintro ⟨(s : ByteArray), ⟨⟩⟩ (hs : s.size ≤ 1048576) hwf
  generalize hM : real = M
  cbv
  refine splM (fun h => ?_) (fun h => ?_) <;> cbv
  · rintro -
    (try subst hM); (try simp only [Eng.ncast] at *); (try simp only [Eng.nI_eq] at *); (try simp only [Eng.real, decide_eq_true_eq, decide_eq_false_iff_not, Bool.not_eq_true', Bool.not_eq_false', Bool.and_eq_true, Bool.or_eq_true, Eng.sEq_dec, Bool.not_true, Bool.not_false, gt_iff_lt, ge_iff_le] at *)
    have : s.size = 0 := size_nil.1 h
    simp [c14, Con.of, nameC, this]
  · have hne : s.size ≠ 0 := by
      (try subst hM); (try simp only [Eng.ncast] at *); (try simp only [Eng.nI_eq] at *); (try simp only [Eng.real, decide_eq_true_eq, decide_eq_false_iff_not, Bool.not_eq_true', Bool.not_eq_false', Bool.and_eq_true, Bool.or_eq_true, Eng.sEq_dec, Bool.not_true, Bool.not_false, gt_iff_lt, ge_iff_le] at *)
      exact fun h0 => h (size_nil.2 h0)
    clear h
    refine ⟨fun m Γ => ∃ (i : Nat) (j : Int), j = i ∧ i ≤ s.size ∧ nameAll s (s.size - i) i = nameAll s s.size 0 ∧ m = s.size - i ∧ Γ = ⟨20, [(0, .pv [] .str s), (3, .pv [] (.int .i64) j)], [], [.hole 0]⟩, ⟨_, 0, 0, rfl, Nat.zero_le _, rfl, rfl, rfl⟩, ?_⟩
    rintro m _ ⟨i, j, hj, hi, hn, rfl, rfl⟩ -
    cbv
    refine splM (fun h => ?_) (fun h => ?_) <;> cbv
    · have hlt : i < s.size := by (try subst hM); (try simp only [Eng.ncast] at *); (try simp only [Eng.nI_eq] at *); (try simp only [Eng.real, decide_eq_true_eq, decide_eq_false_iff_not, Bool.not_eq_true', Bool.not_eq_false', Bool.and_eq_true, Bool.or_eq_true, Eng.sEq_dec, Bool.not_true, Bool.not_false, gt_iff_lt, ge_iff_le] at *); omega
      have hst : nameAll s (s.size - i) i = (nameB (byteAt s j) && nameAll s (s.size - (i + 1)) (i + 1)) := by
        rw [show s.size - i = (s.size - (i + 1)) + 1 by omega]
        simp only [nameAll]; (try subst hM); (try simp only [Eng.ncast] at *); (try simp only [Eng.nI_eq] at *); (try simp only [Eng.real, decide_eq_true_eq, decide_eq_false_iff_not, Bool.not_eq_true', Bool.not_eq_false', Bool.and_eq_true, Bool.or_eq_true, Eng.sEq_dec, Bool.not_true, Bool.not_false, gt_iff_lt, ge_iff_le] at *); rw [hj]
      refine ⟨by (try subst hM); (try simp only [Eng.ncast] at *); (try simp only [Eng.nI_eq] at *); (try simp only [Eng.real, decide_eq_true_eq, decide_eq_false_iff_not, Bool.not_eq_true', Bool.not_eq_false', Bool.and_eq_true, Bool.or_eq_true, Eng.sEq_dec, Bool.not_true, Bool.not_false, gt_iff_lt, ge_iff_le] at *); omega, by (try subst hM); (try simp only [Eng.ncast] at *); (try simp only [Eng.nI_eq] at *); (try simp only [Eng.real, decide_eq_true_eq, decide_eq_false_iff_not, Bool.not_eq_true', Bool.not_eq_false', Bool.and_eq_true, Bool.or_eq_true, Eng.sEq_dec, Bool.not_true, Bool.not_false, gt_iff_lt, ge_iff_le] at *); omega, fun _ => trivial, ?_⟩
      rintro ⟨(y : Bool), ⟨⟩⟩ x' (hy : y = nameB (M.sGet s j)) - -
      cbv
      refine splM (fun h => ?_) (fun h => ?_) <;> cbv
      · rintro -
        have h1 : y = false := by (try subst hM); (try simp only [Eng.ncast] at *); (try simp only [Eng.nI_eq] at *); (try simp only [Eng.real, decide_eq_true_eq, decide_eq_false_iff_not, Bool.not_eq_true', Bool.not_eq_false', Bool.and_eq_true, Bool.or_eq_true, Eng.sEq_dec, Bool.not_true, Bool.not_false, gt_iff_lt, ge_iff_le] at *); exact h
        have h2 : nameB (byteAt s j) = false := by rw [← h1, hy, ← hM]; rfl
        have : nameAll s s.size 0 = false := by rw [← hn, hst, h2]; rfl
        simp [c14, Con.of, nameC, this]
      · have h1 : y = true := by (try subst hM); (try simp only [Eng.ncast] at *); (try simp only [Eng.nI_eq] at *); (try simp only [Eng.real, decide_eq_true_eq, decide_eq_false_iff_not, Bool.not_eq_true', Bool.not_eq_false', Bool.and_eq_true, Bool.or_eq_true, Eng.sEq_dec, Bool.not_true, Bool.not_false, gt_iff_lt, ge_iff_le] at *); exact h
        have h2 : nameB (byteAt s j) = true := by rw [← h1, hy, ← hM]; rfl
        refine ⟨_, ?_, i + 1, M.wrap .i64 (M.add j 1), ?_, hlt, ?_, rfl, rfl⟩
        · omega
        · (try subst hM); (try simp only [Eng.ncast] at *); (try simp only [Eng.nI_eq] at *); (try simp only [Eng.real, decide_eq_true_eq, decide_eq_false_iff_not, Bool.not_eq_true', Bool.not_eq_false', Bool.and_eq_true, Bool.or_eq_true, Eng.sEq_dec, Bool.not_true, Bool.not_false, gt_iff_lt, ge_iff_le] at *)
          rw [w64 (by omega)]; omega
        · rw [← hn, hst, h2]; rfl
    · have hlt : i = s.size := by (try subst hM); (try simp only [Eng.ncast] at *); (try simp only [Eng.nI_eq] at *); (try simp only [Eng.real, decide_eq_true_eq, decide_eq_false_iff_not, Bool.not_eq_true', Bool.not_eq_false', Bool.and_eq_true, Bool.or_eq_true, Eng.sEq_dec, Bool.not_true, Bool.not_false, gt_iff_lt, ge_iff_le] at *); omega
      have hall : nameAll s s.size 0 = true := by rw [← hn, hlt, Nat.sub_self]; rfl
      refine splM (fun h => ?_) (fun h => ?_) <;> cbv
      · rintro -
        have : s.size > 8 := by (try subst hM); (try simp only [Eng.ncast] at *); (try simp only [Eng.nI_eq] at *); (try simp only [Eng.real, decide_eq_true_eq, decide_eq_false_iff_not, Bool.not_eq_true', Bool.not_eq_false', Bool.and_eq_true, Bool.or_eq_true, Eng.sEq_dec, Bool.not_true, Bool.not_false, gt_iff_lt, ge_iff_le] at *); omega
        simp [c14, Con.of, nameC, hall, this, hne]
      · rintro -
        have : ¬ s.size > 8 := by (try subst hM); (try simp only [Eng.ncast] at *); (try simp only [Eng.nI_eq] at *); (try simp only [Eng.real, decide_eq_true_eq, decide_eq_false_iff_not, Bool.not_eq_true', Bool.not_eq_false', Bool.and_eq_true, Bool.or_eq_true, Eng.sEq_dec, Bool.not_true, Bool.not_false, gt_iff_lt, ge_iff_le] at *); omega
        simp [c14, Con.of, nameC, hall, this, hne]
end Go.Proofs.YtjpeblicfhfniaaDoor.EngTab
