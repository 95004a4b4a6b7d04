/- Contracts of ParseLine's functions, first text: numbers and masks. -/
import Derived.Test.YtjpeblicfhfniaaDoorEngTabP
import Derived.Test.YtjpeblicfhfniaaDoorA
namespace Go.Proofs.YtjpeblicfhfniaaDoor.EngTabP
open Go.Proofs.YtjpeblicfhfniaaDoor.Eng
open Go.Proofs.YtjpeblicfhfniaaDoor.EngTab (byteAt)
set_option maxRecDepth 100000
set_option linter.unusedVariables false
set_option linter.unusedSimpArgs false
def maskAll (s : ByteArray) : Nat → Nat → Bool
  | 0, _ => true
  | n + 1, i => decide (byteAt s i = 48 ∨ byteAt s i = 49) && maskAll s n (i + 1)
def maskOk (s : ByteArray) : Bool := decide (1 ≤ s.size ∧ s.size ≤ 200) && maskAll s s.size 0
def c20 : Con := Con.of ⟨[(false, 0, .str)], [(0, .bool)], fun x => x.1.size ≤ 1048576, fun x y _ => y.1 = maskOk x.1⟩
theorem ok20 : FnOK Tryd.prog 20 c20 := by
  refine FnOK.of_vc mixed tabOk .nil Tryd.func20 rfl (by decide) lv20 hd20 ?_
  rintro ⟨(s : ByteArray), ⟨⟩⟩ (hs : s.size ≤ 1048576) hwf
  generalize hM : real = M
  cbv
  refine splM (fun h => ?_) (fun h => ?_) <;> cbv
  · rintro -
    have h1 : ¬ 1 ≤ s.size := by (try subst hM); (try simp only [Eng.ncast] at *); (try simp only [Eng.nI_eq] at *); (try simp only [Eng.real, decide_eq_true_eq, decide_eq_false_iff_not, Bool.not_eq_true', Bool.not_eq_false', Bool.and_eq_true, Bool.or_eq_true, Eng.sEq_dec, Bool.not_true, Bool.not_false, gt_iff_lt, ge_iff_le] at *); omega
    show false = maskOk s
    simp [maskOk, h1]
  have h1 : 1 ≤ s.size := by (try subst hM); (try simp only [Eng.ncast] at *); (try simp only [Eng.nI_eq] at *); (try simp only [Eng.real, decide_eq_true_eq, decide_eq_false_iff_not, Bool.not_eq_true', Bool.not_eq_false', Bool.and_eq_true, Bool.or_eq_true, Eng.sEq_dec, Bool.not_true, Bool.not_false, gt_iff_lt, ge_iff_le] at *); omega
  clear h
  refine splM (fun h => ?_) (fun h => ?_) <;> cbv
  · rintro -
    have h2 : ¬ s.size ≤ 200 := by (try subst hM); (try simp only [Eng.ncast] at *); (try simp only [Eng.nI_eq] at *); (try simp only [Eng.real, decide_eq_true_eq, decide_eq_false_iff_not, Bool.not_eq_true', Bool.not_eq_false', Bool.and_eq_true, Bool.or_eq_true, Eng.sEq_dec, Bool.not_true, Bool.not_false, gt_iff_lt, ge_iff_le] at *); omega
    show false = maskOk s
    simp [maskOk, h2]
  have h2 : s.size ≤ 200 := by (try subst hM); (try simp only [Eng.ncast] at *); (try simp only [Eng.nI_eq] at *); (try simp only [Eng.real, decide_eq_true_eq, decide_eq_false_iff_not, Bool.not_eq_true', Bool.not_eq_false', Bool.and_eq_true, Bool.or_eq_true, Eng.sEq_dec, Bool.not_true, Bool.not_false, gt_iff_lt, ge_iff_le] at *); omega
  clear h
  refine ⟨fun m Γ => ∃ (i : Nat) (j : Int), j = i ∧ i ≤ s.size ∧ maskAll s (s.size - i) i = maskAll s s.size 0 ∧ m = s.size - i ∧ Γ = ⟨28, [(0, .pv [] .str s), (3, .pv [] (.int .i64) j)], [], [.hole 0]⟩, ⟨_, 0, 0, rfl, Nat.zero_le _, rfl, rfl, rfl⟩, ?_⟩
  rintro m _ ⟨i, j, hj, hi, hn, rfl, rfl⟩ -
  cbv
  refine splM (fun h => ?_) (fun h => ?_) <;> cbv
  · have hlt : i < s.size := by (try subst hM); (try simp only [Eng.ncast] at *); (try simp only [Eng.nI_eq] at *); (try simp only [Eng.real, decide_eq_true_eq, decide_eq_false_iff_not, Bool.not_eq_true', Bool.not_eq_false', Bool.and_eq_true, Bool.or_eq_true, Eng.sEq_dec, Bool.not_true, Bool.not_false, gt_iff_lt, ge_iff_le] at *); omega
    clear h
    have hst : maskAll s (s.size - i) i = (decide (byteAt s j = 48 ∨ byteAt s j = 49) && maskAll s (s.size - (i + 1)) (i + 1)) := by
      rw [show s.size - i = (s.size - (i + 1)) + 1 by omega]
      simp only [maskAll]; (try subst hM); (try simp only [Eng.ncast] at *); (try simp only [Eng.nI_eq] at *); (try simp only [Eng.real, decide_eq_true_eq, decide_eq_false_iff_not, Bool.not_eq_true', Bool.not_eq_false', Bool.and_eq_true, Bool.or_eq_true, Eng.sEq_dec, Bool.not_true, Bool.not_false, gt_iff_lt, ge_iff_le] at *); rw [hj]
    have hb1 : M.le 0 j := by (try subst hM); (try simp only [Eng.ncast] at *); (try simp only [Eng.nI_eq] at *); (try simp only [Eng.real, decide_eq_true_eq, decide_eq_false_iff_not, Bool.not_eq_true', Bool.not_eq_false', Bool.and_eq_true, Bool.or_eq_true, Eng.sEq_dec, Bool.not_true, Bool.not_false, gt_iff_lt, ge_iff_le] at *); omega
    have hb2 : M.lt j (M.sLen s) := by (try subst hM); (try simp only [Eng.ncast] at *); (try simp only [Eng.nI_eq] at *); (try simp only [Eng.real, decide_eq_true_eq, decide_eq_false_iff_not, Bool.not_eq_true', Bool.not_eq_false', Bool.and_eq_true, Bool.or_eq_true, Eng.sEq_dec, Bool.not_true, Bool.not_false, gt_iff_lt, ge_iff_le] at *); omega
    have hgo : (byteAt s j = 48 ∨ byteAt s j = 49) → ∃ (i' : Nat), M.wrap .i64 (M.add j 1) = i' ∧ i' ≤ s.size ∧ maskAll s (s.size - i') i' = maskAll s s.size 0 ∧ s.size - i' < s.size - i := by
      intro hg
      refine ⟨i + 1, ?_, hlt, ?_, by omega⟩
      · (try subst hM); (try simp only [Eng.ncast] at *); (try simp only [Eng.nI_eq] at *); (try simp only [Eng.real, decide_eq_true_eq, decide_eq_false_iff_not, Bool.not_eq_true', Bool.not_eq_false', Bool.and_eq_true, Bool.or_eq_true, Eng.sEq_dec, Bool.not_true, Bool.not_false, gt_iff_lt, ge_iff_le] at *)
        rw [w64 (by omega)]; omega
      · rw [← hn, hst, decide_eq_true hg]; rfl
    refine ⟨hb1, hb2, ?_⟩
    refine splM (fun h => ?_) (fun h => ?_) <;> cbv
    · have h3 : byteAt s j ≠ 48 := by (try subst hM); (try simp only [Eng.ncast] at *); (try simp only [Eng.nI_eq] at *); (try simp only [Eng.real, decide_eq_true_eq, decide_eq_false_iff_not, Bool.not_eq_true', Bool.not_eq_false', Bool.and_eq_true, Bool.or_eq_true, Eng.sEq_dec, Bool.not_true, Bool.not_false, gt_iff_lt, ge_iff_le] at *); exact h
      clear h
      refine ⟨hb1, hb2, ?_⟩
      refine splM (fun h => ?_) (fun h => ?_) <;> cbv
      · have h4 : byteAt s j ≠ 49 := by (try subst hM); (try simp only [Eng.ncast] at *); (try simp only [Eng.nI_eq] at *); (try simp only [Eng.real, decide_eq_true_eq, decide_eq_false_iff_not, Bool.not_eq_true', Bool.not_eq_false', Bool.and_eq_true, Bool.or_eq_true, Eng.sEq_dec, Bool.not_true, Bool.not_false, gt_iff_lt, ge_iff_le] at *); exact h
        rintro -
        show false = maskOk s
        have : maskAll s s.size 0 = false := by rw [← hn, hst, decide_eq_false (by omega)]; rfl
        simp [maskOk, this]
      · have h4 : byteAt s j = 49 := by (try subst hM); (try simp only [Eng.ncast] at *); (try simp only [Eng.nI_eq] at *); (try simp only [Eng.real, decide_eq_true_eq, decide_eq_false_iff_not, Bool.not_eq_true', Bool.not_eq_false', Bool.and_eq_true, Bool.or_eq_true, Eng.sEq_dec, Bool.not_true, Bool.not_false, gt_iff_lt, ge_iff_le] at *); exact h
        obtain ⟨i', g1, g2, g3, g4⟩ := hgo (.inr h4)
        exact ⟨_, g4, i', _, g1, g2, g3, rfl, rfl⟩
    · have h3 : byteAt s j = 48 := by (try subst hM); (try simp only [Eng.ncast] at *); (try simp only [Eng.nI_eq] at *); (try simp only [Eng.real, decide_eq_true_eq, decide_eq_false_iff_not, Bool.not_eq_true', Bool.not_eq_false', Bool.and_eq_true, Bool.or_eq_true, Eng.sEq_dec, Bool.not_true, Bool.not_false, gt_iff_lt, ge_iff_le] at *); exact h
      obtain ⟨i', g1, g2, g3, g4⟩ := hgo (.inl h3)
      exact ⟨_, g4, i', _, g1, g2, g3, rfl, rfl⟩
  · have hlt : i = s.size := by (try subst hM); (try simp only [Eng.ncast] at *); (try simp only [Eng.nI_eq] at *); (try simp only [Eng.real, decide_eq_true_eq, decide_eq_false_iff_not, Bool.not_eq_true', Bool.not_eq_false', Bool.and_eq_true, Bool.or_eq_true, Eng.sEq_dec, Bool.not_true, Bool.not_false, gt_iff_lt, ge_iff_le] at *); omega
    rintro -
    show true = maskOk s
    have : maskAll s s.size 0 = true := by rw [← hn, hlt, Nat.sub_self]; rfl
    simp [maskOk, this, h1, h2]
def digs (s : ByteArray) : Nat → Nat → Int → Option Int
  | 0, _, v => some v
  | n + 1, i, v => if 48 ≤ byteAt s i ∧ byteAt s i ≤ 57 then digs s n (i + 1) (v * 10 + (byteAt s i - 48)) else none
def num (s : ByteArray) : Int × Bool :=
  if s.size < 1 ∨ 6 < s.size ∨ (1 < s.size ∧ byteAt s 0 = 48) then (0, false) else match digs s s.size 0 0 with
    | some v => (v, true)
    | none => (0, false)
theorem pow10 {i : Nat} (h : i ≤ 6) : (10 : Int) ^ i ≤ 1000000 ∧ (1 : Int) ≤ 10 ^ i := by
  have : i = 0 ∨ i = 1 ∨ i = 2 ∨ i = 3 ∨ i = 4 ∨ i = 5 ∨ i = 6 := by omega
  rcases this with rfl | rfl | rfl | rfl | rfl | rfl | rfl <;> decide
def c19 : Con := Con.of ⟨[(false, 0, .str)], [(0, .int .i64), (0, .bool)], fun x => x.1.size ≤ 1048576, fun x y _ => y.1 = (num x.1).1 ∧ y.2.1 = (num x.1).2⟩
theorem ok19 : FnOK Tryd.prog 19 c19 := by
  refine FnOK.of_vc mixed tabOk .nil Tryd.func19 rfl (by decide) lv19 hd19 ?_
  rintro ⟨(s : ByteArray), ⟨⟩⟩ (hs : s.size ≤ 1048576) hwf
  generalize hM : real = M
  cbv
  refine splM (fun h => ?_) (fun h => ?_) <;> cbv
  · have h1 : s.size < 1 := by (try subst hM); (try simp only [Eng.ncast] at *); (try simp only [Eng.nI_eq] at *); (try simp only [Eng.real, decide_eq_true_eq, decide_eq_false_iff_not, Bool.not_eq_true', Bool.not_eq_false', Bool.and_eq_true, Bool.or_eq_true, Eng.sEq_dec, Bool.not_true, Bool.not_false, gt_iff_lt, ge_iff_le] at *); omega
    rintro -
    have : num s = (0, false) := by unfold num; rw [if_pos (.inl h1)]
    show (0 : Int) = (num s).1 ∧ false = (num s).2
    rw [this]; exact ⟨rfl, rfl⟩
  have h1 : ¬ s.size < 1 := by (try subst hM); (try simp only [Eng.ncast] at *); (try simp only [Eng.nI_eq] at *); (try simp only [Eng.real, decide_eq_true_eq, decide_eq_false_iff_not, Bool.not_eq_true', Bool.not_eq_false', Bool.and_eq_true, Bool.or_eq_true, Eng.sEq_dec, Bool.not_true, Bool.not_false, gt_iff_lt, ge_iff_le] at *); omega
  clear h
  refine splM (fun h => ?_) (fun h => ?_) <;> cbv
  · have h2 : 6 < s.size := by (try subst hM); (try simp only [Eng.ncast] at *); (try simp only [Eng.nI_eq] at *); (try simp only [Eng.real, decide_eq_true_eq, decide_eq_false_iff_not, Bool.not_eq_true', Bool.not_eq_false', Bool.and_eq_true, Bool.or_eq_true, Eng.sEq_dec, Bool.not_true, Bool.not_false, gt_iff_lt, ge_iff_le] at *); omega
    rintro -
    have : num s = (0, false) := by unfold num; rw [if_pos (.inr (.inl h2))]
    show (0 : Int) = (num s).1 ∧ false = (num s).2
    rw [this]; exact ⟨rfl, rfl⟩
  have h2 : ¬ 6 < s.size := by (try subst hM); (try simp only [Eng.ncast] at *); (try simp only [Eng.nI_eq] at *); (try simp only [Eng.real, decide_eq_true_eq, decide_eq_false_iff_not, Bool.not_eq_true', Bool.not_eq_false', Bool.and_eq_true, Bool.or_eq_true, Eng.sEq_dec, Bool.not_true, Bool.not_false, gt_iff_lt, ge_iff_le] at *); omega
  clear h
  refine ⟨by (try subst hM); (try simp only [Eng.ncast] at *); (try simp only [Eng.nI_eq] at *); (try simp only [Eng.real, decide_eq_true_eq, decide_eq_false_iff_not, Bool.not_eq_true', Bool.not_eq_false', Bool.and_eq_true, Bool.or_eq_true, Eng.sEq_dec, Bool.not_true, Bool.not_false, gt_iff_lt, ge_iff_le] at *); omega, by (try subst hM); (try simp only [Eng.ncast] at *); (try simp only [Eng.nI_eq] at *); (try simp only [Eng.real, decide_eq_true_eq, decide_eq_false_iff_not, Bool.not_eq_true', Bool.not_eq_false', Bool.and_eq_true, Bool.or_eq_true, Eng.sEq_dec, Bool.not_true, Bool.not_false, gt_iff_lt, ge_iff_le] at *); omega, ?_⟩
  refine splM (fun h => ?_) (fun h => ?_) <;> cbv
  · have h3 : byteAt s 0 = 48 := by (try subst hM); (try simp only [Eng.ncast] at *); (try simp only [Eng.nI_eq] at *); (try simp only [Eng.real, decide_eq_true_eq, decide_eq_false_iff_not, Bool.not_eq_true', Bool.not_eq_false', Bool.and_eq_true, Bool.or_eq_true, Eng.sEq_dec, Bool.not_true, Bool.not_false, gt_iff_lt, ge_iff_le] at *); exact h
    clear h
    refine splM (fun h => ?_) (fun h => ?_) <;> cbv
    · have h4 : 1 < s.size := by (try subst hM); (try simp only [Eng.ncast] at *); (try simp only [Eng.nI_eq] at *); (try simp only [Eng.real, decide_eq_true_eq, decide_eq_false_iff_not, Bool.not_eq_true', Bool.not_eq_false', Bool.and_eq_true, Bool.or_eq_true, Eng.sEq_dec, Bool.not_true, Bool.not_false, gt_iff_lt, ge_iff_le] at *); omega
      rintro -
      have : num s = (0, false) := by unfold num; rw [if_pos (.inr (.inr ⟨h4, h3⟩))]
      show (0 : Int) = (num s).1 ∧ false = (num s).2
      rw [this]; exact ⟨rfl, rfl⟩
    have hcc : ¬ (s.size < 1 ∨ 6 < s.size ∨ (1 < s.size ∧ byteAt s 0 = 48)) := by (try subst hM); (try simp only [Eng.ncast] at *); (try simp only [Eng.nI_eq] at *); (try simp only [Eng.real, decide_eq_true_eq, decide_eq_false_iff_not, Bool.not_eq_true', Bool.not_eq_false', Bool.and_eq_true, Bool.or_eq_true, Eng.sEq_dec, Bool.not_true, Bool.not_false, gt_iff_lt, ge_iff_le] at *); omega
    clear h h3
    refine ⟨fun m Γ => ∃ (i : Nat) (j v : Int), j = i ∧ i ≤ s.size ∧ 0 ≤ v ∧ v < 10 ^ i ∧ digs s (s.size - i) i v = digs s s.size 0 0 ∧ m = s.size - i ∧ Γ = ⟨49, [(0, .pv [] .str s), (4, .pv [] (.int .i64) v), (5, .pv [] (.int .i64) j)], [], [.hole 0]⟩,
      ⟨_, 0, 0, 0, rfl, Nat.zero_le _, Int.le_refl 0, by decide, rfl, rfl, rfl⟩, ?_⟩
    rintro m _ ⟨i, j, v, hj, hi, hv0, hv1, hn, rfl, rfl⟩ -
    cbv
    refine splM (fun h => ?_) (fun h => ?_) <;> cbv
    · have hlt : i < s.size := by (try subst hM); (try simp only [Eng.ncast] at *); (try simp only [Eng.nI_eq] at *); (try simp only [Eng.real, decide_eq_true_eq, decide_eq_false_iff_not, Bool.not_eq_true', Bool.not_eq_false', Bool.and_eq_true, Bool.or_eq_true, Eng.sEq_dec, Bool.not_true, Bool.not_false, gt_iff_lt, ge_iff_le] at *); omega
      clear h
      have hst : digs s (s.size - i) i v = if 48 ≤ byteAt s j ∧ byteAt s j ≤ 57 then digs s (s.size - (i + 1)) (i + 1) (v * 10 + (byteAt s j - 48)) else none := by
        rw [show s.size - i = (s.size - (i + 1)) + 1 by omega]
        simp only [digs]; (try subst hM); (try simp only [Eng.ncast] at *); (try simp only [Eng.nI_eq] at *); (try simp only [Eng.real, decide_eq_true_eq, decide_eq_false_iff_not, Bool.not_eq_true', Bool.not_eq_false', Bool.and_eq_true, Bool.or_eq_true, Eng.sEq_dec, Bool.not_true, Bool.not_false, gt_iff_lt, ge_iff_le] at *); rw [hj]
      have hb1 : M.le 0 j := by (try subst hM); (try simp only [Eng.ncast] at *); (try simp only [Eng.nI_eq] at *); (try simp only [Eng.real, decide_eq_true_eq, decide_eq_false_iff_not, Bool.not_eq_true', Bool.not_eq_false', Bool.and_eq_true, Bool.or_eq_true, Eng.sEq_dec, Bool.not_true, Bool.not_false, gt_iff_lt, ge_iff_le] at *); omega
      have hb2 : M.lt j (M.sLen s) := by (try subst hM); (try simp only [Eng.ncast] at *); (try simp only [Eng.nI_eq] at *); (try simp only [Eng.real, decide_eq_true_eq, decide_eq_false_iff_not, Bool.not_eq_true', Bool.not_eq_false', Bool.and_eq_true, Bool.or_eq_true, Eng.sEq_dec, Bool.not_true, Bool.not_false, gt_iff_lt, ge_iff_le] at *); omega
      have hbad : ¬ (48 ≤ byteAt s j ∧ byteAt s j ≤ 57) → num s = (0, false) := by
        intro hb
        rw [if_neg hb] at hst
        have hd : digs s s.size 0 0 = none := by rw [← hn, hst]
        unfold num; rw [if_neg hcc, hd]
      refine ⟨hb1, hb2, ?_⟩
      refine splM (fun h => ?_) (fun h => ?_) <;> cbv
      · have h4 : byteAt s j < 48 := by (try subst hM); (try simp only [Eng.ncast] at *); (try simp only [Eng.nI_eq] at *); (try simp only [Eng.real, decide_eq_true_eq, decide_eq_false_iff_not, Bool.not_eq_true', Bool.not_eq_false', Bool.and_eq_true, Bool.or_eq_true, Eng.sEq_dec, Bool.not_true, Bool.not_false, gt_iff_lt, ge_iff_le] at *); exact h
        rintro -
        show (0 : Int) = (num s).1 ∧ false = (num s).2
        rw [hbad (by omega)]; exact ⟨rfl, rfl⟩
      have h4 : ¬ byteAt s j < 48 := by (try subst hM); (try simp only [Eng.ncast] at *); (try simp only [Eng.nI_eq] at *); (try simp only [Eng.real, decide_eq_true_eq, decide_eq_false_iff_not, Bool.not_eq_true', Bool.not_eq_false', Bool.and_eq_true, Bool.or_eq_true, Eng.sEq_dec, Bool.not_true, Bool.not_false, gt_iff_lt, ge_iff_le] at *); exact h
      clear h
      refine ⟨hb1, hb2, ?_⟩
      refine splM (fun h => ?_) (fun h => ?_) <;> cbv
      · have h5 : 57 < byteAt s j := by (try subst hM); (try simp only [Eng.ncast] at *); (try simp only [Eng.nI_eq] at *); (try simp only [Eng.real, decide_eq_true_eq, decide_eq_false_iff_not, Bool.not_eq_true', Bool.not_eq_false', Bool.and_eq_true, Bool.or_eq_true, Eng.sEq_dec, Bool.not_true, Bool.not_false, gt_iff_lt, ge_iff_le] at *); exact h
        rintro -
        show (0 : Int) = (num s).1 ∧ false = (num s).2
        rw [hbad (by omega)]; exact ⟨rfl, rfl⟩
      have h5 : ¬ 57 < byteAt s j := by (try subst hM); (try simp only [Eng.ncast] at *); (try simp only [Eng.nI_eq] at *); (try simp only [Eng.real, decide_eq_true_eq, decide_eq_false_iff_not, Bool.not_eq_true', Bool.not_eq_false', Bool.and_eq_true, Bool.or_eq_true, Eng.sEq_dec, Bool.not_true, Bool.not_false, gt_iff_lt, ge_iff_le] at *); exact h
      clear h
      have h6 : M.wrap .u8 (M.sub (M.sGet s j) 48) = byteAt s j - 48 := by
        have : M.sGet s j = byteAt s j := by (try subst hM); (try simp only [Eng.ncast] at *); (try simp only [Eng.nI_eq] at *); (try simp only [Eng.real, decide_eq_true_eq, decide_eq_false_iff_not, Bool.not_eq_true', Bool.not_eq_false', Bool.and_eq_true, Bool.or_eq_true, Eng.sEq_dec, Bool.not_true, Bool.not_false, gt_iff_lt, ge_iff_le] at *); rfl
        rw [this]
        (try subst hM); (try simp only [Eng.ncast] at *); (try simp only [Eng.nI_eq] at *); (try simp only [Eng.real, decide_eq_true_eq, decide_eq_false_iff_not, Bool.not_eq_true', Bool.not_eq_false', Bool.and_eq_true, Bool.or_eq_true, Eng.sEq_dec, Bool.not_true, Bool.not_false, gt_iff_lt, ge_iff_le] at *)
        rw [w8 (by omega)]
      have h7 : M.wrap .i64 (M.add (M.wrap .i64 (M.mul v 10)) (M.wrap .i64 (M.wrap .u8 (M.sub (M.sGet s j) 48)))) = v * 10 + (byteAt s j - 48) := by
        rw [h6]
        have hp := (pow10 (i := i) (by omega)).1
        clear hst hn hbad hb1 hb2 h6
        (try subst hM); (try simp only [Eng.ncast] at *); (try simp only [Eng.nI_eq] at *); (try simp only [Eng.real, decide_eq_true_eq, decide_eq_false_iff_not, Bool.not_eq_true', Bool.not_eq_false', Bool.and_eq_true, Bool.or_eq_true, Eng.sEq_dec, Bool.not_true, Bool.not_false, gt_iff_lt, ge_iff_le] at *)
        rw [w64 (x := v * 10) (by omega), w64 (x := byteAt s j - 48) (by omega), w64 (by omega)]
      refine ⟨hb1, hb2, _, ?_, i + 1, _, _, ?_, hlt, ?_, ?_, ?_, rfl, rfl⟩
      · omega
      · show M.wrap .i64 (M.add j 1) = _
        (try subst hM); (try simp only [Eng.ncast] at *); (try simp only [Eng.nI_eq] at *); (try simp only [Eng.real, decide_eq_true_eq, decide_eq_false_iff_not, Bool.not_eq_true', Bool.not_eq_false', Bool.and_eq_true, Bool.or_eq_true, Eng.sEq_dec, Bool.not_true, Bool.not_false, gt_iff_lt, ge_iff_le] at *)
        rw [w64 (by omega)]; omega
      · show 0 ≤ M.wrap .i64 (M.add (M.wrap .i64 (M.mul v 10)) (M.wrap .i64 (M.wrap .u8 (M.sub (M.sGet s j) 48))))
        rw [h7]; omega
      · show M.wrap .i64 (M.add (M.wrap .i64 (M.mul v 10)) (M.wrap .i64 (M.wrap .u8 (M.sub (M.sGet s j) 48)))) < _
        rw [h7, Int.pow_succ]; omega
      · show digs s (s.size - (i + 1)) (i + 1) (M.wrap .i64 (M.add (M.wrap .i64 (M.mul v 10)) (M.wrap .i64 (M.wrap .u8 (M.sub (M.sGet s j) 48))))) = _
        rw [h7, ← hn, hst, if_pos (by omega)]
    · have hlt : i = s.size := by (try subst hM); (try simp only [Eng.ncast] at *); (try simp only [Eng.nI_eq] at *); (try simp only [Eng.real, decide_eq_true_eq, decide_eq_false_iff_not, Bool.not_eq_true', Bool.not_eq_false', Bool.and_eq_true, Bool.or_eq_true, Eng.sEq_dec, Bool.not_true, Bool.not_false, gt_iff_lt, ge_iff_le] at *); omega
      rintro -
      show v = (num s).1 ∧ true = (num s).2
      have hd : digs s s.size 0 0 = some v := by rw [← hn, hlt, Nat.sub_self]; rfl
      unfold num; rw [if_neg hcc, hd]; exact ⟨rfl, rfl⟩
  · have h3 : byteAt s 0 ≠ 48 := by (try subst hM); (try simp only [Eng.ncast] at *); (try simp only [Eng.nI_eq] at *); (try simp only [Eng.real, decide_eq_true_eq, decide_eq_false_iff_not, Bool.not_eq_true', Bool.not_eq_false', Bool.and_eq_true, Bool.or_eq_true, Eng.sEq_dec, Bool.not_true, Bool.not_false, gt_iff_lt, ge_iff_le] at *); exact h
    have hcc : ¬ (s.size < 1 ∨ 6 < s.size ∨ (1 < s.size ∧ byteAt s 0 = 48)) := by omega
    clear h h3
    refine ⟨fun m Γ => ∃ (i : Nat) (j v : Int), j = i ∧ i ≤ s.size ∧ 0 ≤ v ∧ v < 10 ^ i ∧ digs s (s.size - i) i v = digs s s.size 0 0 ∧ m = s.size - i ∧ Γ = ⟨49, [(0, .pv [] .str s), (4, .pv [] (.int .i64) v), (5, .pv [] (.int .i64) j)], [], [.hole 0]⟩,
      ⟨_, 0, 0, 0, rfl, Nat.zero_le _, Int.le_refl 0, by decide, rfl, rfl, rfl⟩, ?_⟩
    rintro m _ ⟨i, j, v, hj, hi, hv0, hv1, hn, rfl, rfl⟩ -
    cbv
    refine splM (fun h => ?_) (fun h => ?_) <;> cbv
    · have hlt : i < s.size := by (try subst hM); (try simp only [Eng.ncast] at *); (try simp only [Eng.nI_eq] at *); (try simp only [Eng.real, decide_eq_true_eq, decide_eq_false_iff_not, Bool.not_eq_true', Bool.not_eq_false', Bool.and_eq_true, Bool.or_eq_true, Eng.sEq_dec, Bool.not_true, Bool.not_false, gt_iff_lt, ge_iff_le] at *); omega
      clear h
      have hst : digs s (s.size - i) i v = if 48 ≤ byteAt s j ∧ byteAt s j ≤ 57 then digs s (s.size - (i + 1)) (i + 1) (v * 10 + (byteAt s j - 48)) else none := by
        rw [show s.size - i = (s.size - (i + 1)) + 1 by omega]
        simp only [digs]; (try subst hM); (try simp only [Eng.ncast] at *); (try simp only [Eng.nI_eq] at *); (try simp only [Eng.real, decide_eq_true_eq, decide_eq_false_iff_not, Bool.not_eq_true', Bool.not_eq_false', Bool.and_eq_true, Bool.or_eq_true, Eng.sEq_dec, Bool.not_true, Bool.not_false, gt_iff_lt, ge_iff_le] at *); rw [hj]
      have hb1 : M.le 0 j := by (try subst hM); (try simp only [Eng.ncast] at *); (try simp only [Eng.nI_eq] at *); (try simp only [Eng.real, decide_eq_true_eq, decide_eq_false_iff_not, Bool.not_eq_true', Bool.not_eq_false', Bool.and_eq_true, Bool.or_eq_true, Eng.sEq_dec, Bool.not_true, Bool.not_false, gt_iff_lt, ge_iff_le] at *); omega
      have hb2 : M.lt j (M.sLen s) := by (try subst hM); (try simp only [Eng.ncast] at *); (try simp only [Eng.nI_eq] at *); (try simp only [Eng.real, decide_eq_true_eq, decide_eq_false_iff_not, Bool.not_eq_true', Bool.not_eq_false', Bool.and_eq_true, Bool.or_eq_true, Eng.sEq_dec, Bool.not_true, Bool.not_false, gt_iff_lt, ge_iff_le] at *); omega
      have hbad : ¬ (48 ≤ byteAt s j ∧ byteAt s j ≤ 57) → num s = (0, false) := by
        intro hb
        rw [if_neg hb] at hst
        have hd : digs s s.size 0 0 = none := by rw [← hn, hst]
        unfold num; rw [if_neg hcc, hd]
      refine ⟨hb1, hb2, ?_⟩
      refine splM (fun h => ?_) (fun h => ?_) <;> cbv
      · have h4 : byteAt s j < 48 := by (try subst hM); (try simp only [Eng.ncast] at *); (try simp only [Eng.nI_eq] at *); (try simp only [Eng.real, decide_eq_true_eq, decide_eq_false_iff_not, Bool.not_eq_true', Bool.not_eq_false', Bool.and_eq_true, Bool.or_eq_true, Eng.sEq_dec, Bool.not_true, Bool.not_false, gt_iff_lt, ge_iff_le] at *); exact h
        rintro -
        show (0 : Int) = (num s).1 ∧ false = (num s).2
        rw [hbad (by omega)]; exact ⟨rfl, rfl⟩
      have h4 : ¬ byteAt s j < 48 := by (try subst hM); (try simp only [Eng.ncast] at *); (try simp only [Eng.nI_eq] at *); (try simp only [Eng.real, decide_eq_true_eq, decide_eq_false_iff_not, Bool.not_eq_true', Bool.not_eq_false', Bool.and_eq_true, Bool.or_eq_true, Eng.sEq_dec, Bool.not_true, Bool.not_false, gt_iff_lt, ge_iff_le] at *); exact h
      clear h
      refine ⟨hb1, hb2, ?_⟩
      refine splM (fun h => ?_) (fun h => ?_) <;> cbv
      · have h5 : 57 < byteAt s j := by (try subst hM); (try simp only [Eng.ncast] at *); (try simp only [Eng.nI_eq] at *); (try simp only [Eng.real, decide_eq_true_eq, decide_eq_false_iff_not, Bool.not_eq_true', Bool.not_eq_false', Bool.and_eq_true, Bool.or_eq_true, Eng.sEq_dec, Bool.not_true, Bool.not_false, gt_iff_lt, ge_iff_le] at *); exact h
        rintro -
        show (0 : Int) = (num s).1 ∧ false = (num s).2
        rw [hbad (by omega)]; exact ⟨rfl, rfl⟩
      have h5 : ¬ 57 < byteAt s j := by (try subst hM); (try simp only [Eng.ncast] at *); (try simp only [Eng.nI_eq] at *); (try simp only [Eng.real, decide_eq_true_eq, decide_eq_false_iff_not, Bool.not_eq_true', Bool.not_eq_false', Bool.and_eq_true, Bool.or_eq_true, Eng.sEq_dec, Bool.not_true, Bool.not_false, gt_iff_lt, ge_iff_le] at *); exact h
      clear h
      have h6 : M.wrap .u8 (M.sub (M.sGet s j) 48) = byteAt s j - 48 := by
        have : M.sGet s j = byteAt s j := by (try subst hM); (try simp only [Eng.ncast] at *); (try simp only [Eng.nI_eq] at *); (try simp only [Eng.real, decide_eq_true_eq, decide_eq_false_iff_not, Bool.not_eq_true', Bool.not_eq_false', Bool.and_eq_true, Bool.or_eq_true, Eng.sEq_dec, Bool.not_true, Bool.not_false, gt_iff_lt, ge_iff_le] at *); rfl
        rw [this]
        (try subst hM); (try simp only [Eng.ncast] at *); (try simp only [Eng.nI_eq] at *); (try simp only [Eng.real, decide_eq_true_eq, decide_eq_false_iff_not, Bool.not_eq_true', Bool.not_eq_false', Bool.and_eq_true, Bool.or_eq_true, Eng.sEq_dec, Bool.not_true, Bool.not_false, gt_iff_lt, ge_iff_le] at *)
        rw [w8 (by omega)]
      have h7 : M.wrap .i64 (M.add (M.wrap .i64 (M.mul v 10)) (M.wrap .i64 (M.wrap .u8 (M.sub (M.sGet s j) 48)))) = v * 10 + (byteAt s j - 48) := by
        rw [h6]
        have hp := (pow10 (i := i) (by omega)).1
        clear hst hn hbad hb1 hb2 h6
        (try subst hM); (try simp only [Eng.ncast] at *); (try simp only [Eng.nI_eq] at *); (try simp only [Eng.real, decide_eq_true_eq, decide_eq_false_iff_not, Bool.not_eq_true', Bool.not_eq_false', Bool.and_eq_true, Bool.or_eq_true, Eng.sEq_dec, Bool.not_true, Bool.not_false, gt_iff_lt, ge_iff_le] at *)
        rw [w64 (x := v * 10) (by omega), w64 (x := byteAt s j - 48) (by omega), w64 (by omega)]
      refine ⟨hb1, hb2, _, ?_, i + 1, _, _, ?_, hlt, ?_, ?_, ?_, rfl, rfl⟩
      · omega
      · show M.wrap .i64 (M.add j 1) = _
        (try subst hM); (try simp only [Eng.ncast] at *); (try simp only [Eng.nI_eq] at *); (try simp only [Eng.real, decide_eq_true_eq, decide_eq_false_iff_not, Bool.not_eq_true', Bool.not_eq_false', Bool.and_eq_true, Bool.or_eq_true, Eng.sEq_dec, Bool.not_true, Bool.not_false, gt_iff_lt, ge_iff_le] at *)
        rw [w64 (by omega)]; omega
      · show 0 ≤ M.wrap .i64 (M.add (M.wrap .i64 (M.mul v 10)) (M.wrap .i64 (M.wrap .u8 (M.sub (M.sGet s j) 48))))
        rw [h7]; omega
      · show M.wrap .i64 (M.add (M.wrap .i64 (M.mul v 10)) (M.wrap .i64 (M.wrap .u8 (M.sub (M.sGet s j) 48)))) < _
        rw [h7, Int.pow_succ]; omega
      · show digs s (s.size - (i + 1)) (i + 1) (M.wrap .i64 (M.add (M.wrap .i64 (M.mul v 10)) (M.wrap .i64 (M.wrap .u8 (M.sub (M.sGet s j) 48))))) = _
        rw [h7, ← hn, hst, if_pos (by omega)]
    · have hlt : i = s.size := by (try subst hM); (try simp only [Eng.ncast] at *); (try simp only [Eng.nI_eq] at *); (try simp only [Eng.real, decide_eq_true_eq, decide_eq_false_iff_not, Bool.not_eq_true', Bool.not_eq_false', Bool.and_eq_true, Bool.or_eq_true, Eng.sEq_dec, Bool.not_true, Bool.not_false, gt_iff_lt, ge_iff_le] at *); omega
      rintro -
      show v = (num s).1 ∧ true = (num s).2
      have hd : digs s s.size 0 0 = some v := by rw [← hn, hlt, Nat.sub_self]; rfl
      unfold num; rw [if_neg hcc, hd]; exact ⟨rfl, rfl⟩
end Go.Proofs.YtjpeblicfhfniaaDoor.EngTabP
