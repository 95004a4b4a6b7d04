/- Contracts of ParseLine's functions, second text: the program's decimal, by the iterator. -/
import Derived.Test.YtjpeblicfhfniaaDoorP
namespace Go.Proofs.YtjpeblicfhfniaaDoor.EngTabP
open Go.Proofs.YtjpeblicfhfniaaDoor.Eng
open Go.Proofs.YtjpeblicfhfniaaDoor.EngTab (byteAt)
set_option maxRecDepth 100000
set_option linter.unusedVariables false
set_option linter.unusedSimpArgs false
theorem dec_false {p : Prop} (h : real.dec p = false) : ¬ p := fun hp => by rw [dec_iff.2 hp] at h; cases h
theorem w32 {x : Int} (h : -2147483648 ≤ x ∧ x ≤ 2147483647) : IntKind.wrap .i32 x = x := IntWalk.i32_in x h
theorem rune_at (s : ByteArray) (i : Nat) (h : i < s.size) : (byteAt s i < 128 ∧ real.rune s i = byteAt s i ∧ real.runeW s i = 1) ∨ (128 ≤ byteAt s i ∧ 128 ≤ real.rune s i) := by
  have hb : byteAt s i = ((s[i]'h).toNat : Int) := by
    unfold byteAt; rw [Int.toNat_natCast, getElem?_pos s i h]; rfl
  have e1 : real.rune s i = ((Utf8.decode s i).1 : Int) := by show ((Utf8.decode s (i : Int).toNat).1 : Int) = _; rw [Int.toNat_natCast]
  have e2 : real.runeW s i = ((Utf8.decode s i).2 : Int) := by show ((Utf8.decode s (i : Int).toNat).2 : Int) = _; rw [Int.toNat_natCast]
  by_cases ha : (s[i]'h).toNat < 128
  · left
    rw [e1, e2, decode_ascii s i h ha, hb]
    exact ⟨by omega, rfl, rfl⟩
  · right
    have := (decode_high s i h (by omega)).1
    rw [e1, hb]; omega
def c22 : Con := Con.of ⟨[(false, 0, .str)], [(0, .int .i64), (0, .bool)], fun x => x.1.size ≤ 1048576, fun x y _ => y.1 = (num x.1).1 ∧ y.2.1 = (num x.1).2⟩
theorem ok22 : FnOK Tryd.prog 22 c22 := by
  refine FnOK.of_vc mixed tabOk .nil Tryd.func22 rfl (by decide) lv22 hd22 ?_
  rintro ⟨(s : ByteArray), ⟨⟩⟩ (hs : s.size ≤ 1048576) hwf
  generalize hM : real = M
  cbv
  refine splM (fun h => ?_) (fun h => ?_) <;> cbv
  · have h1 : s.size < 1 := by (try subst hM); (try simp only [Eng.ncast] at *); (try simp only [Eng.nI_eq] at *); (try simp only [Eng.real, decide_eq_true_eq, decide_eq_false_iff_not, Bool.not_eq_true', Bool.not_eq_false', Bool.and_eq_true, Bool.or_eq_true, Eng.sEq_dec, Bool.not_true, Bool.not_false, gt_iff_lt, ge_iff_le] at *); omega
    rintro -
    have : num s = (0, false) := by unfold num; rw [if_pos (.inl h1)]
    show (0 : Int) = (num s).1 ∧ false = (num s).2
    rw [this]; exact ⟨rfl, rfl⟩
  have h1 : ¬ s.size < 1 := by (try subst hM); (try simp only [Eng.ncast] at *); (try simp only [Eng.nI_eq] at *); (try simp only [Eng.real, decide_eq_true_eq, decide_eq_false_iff_not, Bool.not_eq_true', Bool.not_eq_false', Bool.and_eq_true, Bool.or_eq_true, Eng.sEq_dec, Bool.not_true, Bool.not_false, gt_iff_lt, ge_iff_le] at *); omega
  clear h
  refine splM (fun h => ?_) (fun h => ?_) <;> cbv
  · have h2 : 6 < s.size := by (try subst hM); (try simp only [Eng.ncast] at *); (try simp only [Eng.nI_eq] at *); (try simp only [Eng.real, decide_eq_true_eq, decide_eq_false_iff_not, Bool.not_eq_true', Bool.not_eq_false', Bool.and_eq_true, Bool.or_eq_true, Eng.sEq_dec, Bool.not_true, Bool.not_false, gt_iff_lt, ge_iff_le] at *); omega
    rintro -
    have : num s = (0, false) := by unfold num; rw [if_pos (.inr (.inl h2))]
    show (0 : Int) = (num s).1 ∧ false = (num s).2
    rw [this]; exact ⟨rfl, rfl⟩
  have h2 : ¬ 6 < s.size := by (try subst hM); (try simp only [Eng.ncast] at *); (try simp only [Eng.nI_eq] at *); (try simp only [Eng.real, decide_eq_true_eq, decide_eq_false_iff_not, Bool.not_eq_true', Bool.not_eq_false', Bool.and_eq_true, Bool.or_eq_true, Eng.sEq_dec, Bool.not_true, Bool.not_false, gt_iff_lt, ge_iff_le] at *); omega
  clear h
  refine splM (fun h => ?_) (fun h => ?_) <;> cbv
  · have h3 : 1 < s.size := by (try subst hM); (try simp only [Eng.ncast] at *); (try simp only [Eng.nI_eq] at *); (try simp only [Eng.real, decide_eq_true_eq, decide_eq_false_iff_not, Bool.not_eq_true', Bool.not_eq_false', Bool.and_eq_true, Bool.or_eq_true, Eng.sEq_dec, Bool.not_true, Bool.not_false, gt_iff_lt, ge_iff_le] at *); omega
    clear h
    refine ⟨by (try subst hM); (try simp only [Eng.ncast] at *); (try simp only [Eng.nI_eq] at *); (try simp only [Eng.real, decide_eq_true_eq, decide_eq_false_iff_not, Bool.not_eq_true', Bool.not_eq_false', Bool.and_eq_true, Bool.or_eq_true, Eng.sEq_dec, Bool.not_true, Bool.not_false, gt_iff_lt, ge_iff_le] at *); omega, by (try subst hM); (try simp only [Eng.ncast] at *); (try simp only [Eng.nI_eq] at *); (try simp only [Eng.real, decide_eq_true_eq, decide_eq_false_iff_not, Bool.not_eq_true', Bool.not_eq_false', Bool.and_eq_true, Bool.or_eq_true, Eng.sEq_dec, Bool.not_true, Bool.not_false, gt_iff_lt, ge_iff_le] at *); omega, ?_⟩
    refine splM (fun h => ?_) (fun h => ?_) <;> cbv
    · have h4 : byteAt s 0 = 48 := by (try subst hM); (try simp only [Eng.ncast] at *); (try simp only [Eng.nI_eq] at *); (try simp only [Eng.real, decide_eq_true_eq, decide_eq_false_iff_not, Bool.not_eq_true', Bool.not_eq_false', Bool.and_eq_true, Bool.or_eq_true, Eng.sEq_dec, Bool.not_true, Bool.not_false, gt_iff_lt, ge_iff_le] at *); exact h
      rintro -
      have : num s = (0, false) := by unfold num; rw [if_pos (.inr (.inr ⟨h3, h4⟩))]
      show (0 : Int) = (num s).1 ∧ false = (num s).2
      rw [this]; exact ⟨rfl, rfl⟩
    have h4 : byteAt s 0 ≠ 48 := by (try subst hM); (try simp only [Eng.ncast] at *); (try simp only [Eng.nI_eq] at *); (try simp only [Eng.real, decide_eq_true_eq, decide_eq_false_iff_not, Bool.not_eq_true', Bool.not_eq_false', Bool.and_eq_true, Bool.or_eq_true, Eng.sEq_dec, Bool.not_true, Bool.not_false, gt_iff_lt, ge_iff_le] at *); exact h
    have hcc : ¬ (s.size < 1 ∨ 6 < s.size ∨ (1 < s.size ∧ byteAt s 0 = 48)) := by omega
    clear h h3 h4
    refine ⟨fun m Γ => ∃ (i : Nat) (j v : Int), j = i ∧ i ≤ s.size ∧ 0 ≤ v ∧ v < 10 ^ i ∧ digs s (s.size - i) i v = digs s s.size 0 0 ∧ m = s.size - i ∧ Γ = ⟨43, [(4, .pv [] (.int .i64) v), (26, .ad 0 .unit 0 [])], [(0, .iter s j)], [.hole 0]⟩,
      ⟨_, 0, 0, 0, rfl, Nat.zero_le _, Int.le_refl 0, by decide, rfl, rfl, rfl⟩, ?_⟩
    rintro m _ ⟨i, j, v, hj, hi, hv0, hv1, hn, rfl, rfl⟩ -
    cbv
    refine splM (fun h => ?_) (fun h => ?_) <;> cbv
    · have hlt : i < s.size := by (try subst hM); (try simp only [Eng.ncast] at *); (try simp only [Eng.nI_eq] at *); (try simp only [Eng.real, decide_eq_true_eq, decide_eq_false_iff_not, Bool.not_eq_true', Bool.not_eq_false', Bool.and_eq_true, Bool.or_eq_true, Eng.sEq_dec, Bool.not_true, Bool.not_false, gt_iff_lt, ge_iff_le] at *); omega
      clear h
      have hst : digs s (s.size - i) i v = if 48 ≤ byteAt s j ∧ byteAt s j ≤ 57 then digs s (s.size - (i + 1)) (i + 1) (v * 10 + (byteAt s j - 48)) else none := by
        rw [show s.size - i = (s.size - (i + 1)) + 1 by omega]
        simp only [digs]; (try subst hM); (try simp only [Eng.ncast] at *); (try simp only [Eng.nI_eq] at *); (try simp only [Eng.real, decide_eq_true_eq, decide_eq_false_iff_not, Bool.not_eq_true', Bool.not_eq_false', Bool.and_eq_true, Bool.or_eq_true, Eng.sEq_dec, Bool.not_true, Bool.not_false, gt_iff_lt, ge_iff_le] at *); rw [hj]
      have hru : (byteAt s j < 128 ∧ M.rune s j = byteAt s j ∧ M.runeW s j = 1) ∨ (128 ≤ byteAt s j ∧ 128 ≤ M.rune s j) := by
        have := rune_at s i hlt
        subst hM
        have hj' : j = (i : Int) := hj
        rw [hj']; exact this
      have hbad : ¬ (48 ≤ byteAt s j ∧ byteAt s j ≤ 57) → num s = (0, false) := by
        intro hb
        rw [if_neg hb] at hst
        have hd : digs s s.size 0 0 = none := by rw [← hn, hst]
        unfold num; rw [if_neg hcc, hd]
      refine splM (fun h => ?_) (fun h => ?_) <;> cbv
      · have h4 : M.rune s j < 48 := by subst hM; exact dec_iff.1 h
        rintro -
        show (0 : Int) = (num s).1 ∧ false = (num s).2
        rw [hbad (by omega)]; exact ⟨rfl, rfl⟩
      have h4 : ¬ M.rune s j < 48 := by subst hM; exact dec_false h
      clear h
      refine splM (fun h => ?_) (fun h => ?_) <;> cbv
      · have h5 : 57 < M.rune s j := by subst hM; exact dec_iff.1 h
        rintro -
        show (0 : Int) = (num s).1 ∧ false = (num s).2
        rw [hbad (by omega)]; exact ⟨rfl, rfl⟩
      have h5 : ¬ 57 < M.rune s j := by subst hM; exact dec_false h
      clear h
      obtain ⟨hb7, hr, hw⟩ : byteAt s j < 128 ∧ M.rune s j = byteAt s j ∧ M.runeW s j = 1 := by
        rcases hru with h6 | ⟨_, h6⟩
        · exact h6
        · omega
      rw [hr] at h4 h5
      have h6 : M.wrap .i32 (M.sub (M.rune s j) 48) = byteAt s j - 48 := by
        rw [hr]
        clear hbad hst hru hr hw
        (try subst hM); (try simp only [Eng.ncast] at *); (try simp only [Eng.nI_eq] at *); (try simp only [Eng.real, decide_eq_true_eq, decide_eq_false_iff_not, Bool.not_eq_true', Bool.not_eq_false', Bool.and_eq_true, Bool.or_eq_true, Eng.sEq_dec, Bool.not_true, Bool.not_false, gt_iff_lt, ge_iff_le] at *)
        rw [w32 (by omega)]
      have h7 : M.wrap .i64 (M.add (M.wrap .i64 (M.mul v 10)) (M.wrap .i64 (M.wrap .i32 (M.sub (M.rune s j) 48)))) = v * 10 + (byteAt s j - 48) := by
        rw [h6]
        have hp := (pow10 (i := i) (by omega)).1
        clear hst hn hbad h6 hru
        clear hr hw
        (try subst hM); (try simp only [Eng.ncast] at *); (try simp only [Eng.nI_eq] at *); (try simp only [Eng.real, decide_eq_true_eq, decide_eq_false_iff_not, Bool.not_eq_true', Bool.not_eq_false', Bool.and_eq_true, Bool.or_eq_true, Eng.sEq_dec, Bool.not_true, Bool.not_false, gt_iff_lt, ge_iff_le] at *)
        rw [w64 (x := v * 10) (by omega), w64 (x := byteAt s j - 48) (by omega), w64 (by omega)]
      have h8 : M.add j (M.runeW s j) = ((i + 1 : Nat) : Int) := by
        rw [hw]; clear hst hn hbad h6 hru hr hw h7; (try subst hM); (try simp only [Eng.ncast] at *); (try simp only [Eng.nI_eq] at *); (try simp only [Eng.real, decide_eq_true_eq, decide_eq_false_iff_not, Bool.not_eq_true', Bool.not_eq_false', Bool.and_eq_true, Bool.or_eq_true, Eng.sEq_dec, Bool.not_true, Bool.not_false, gt_iff_lt, ge_iff_le] at *); omega
      refine ⟨_, ?_, i + 1, _, _, h8, hlt, ?_, ?_, ?_, rfl, rfl⟩
      · omega
      · show 0 ≤ M.wrap .i64 (M.add (M.wrap .i64 (M.mul v 10)) (M.wrap .i64 (M.wrap .i32 (M.sub (M.rune s j) 48))))
        rw [h7]; omega
      · show M.wrap .i64 (M.add (M.wrap .i64 (M.mul v 10)) (M.wrap .i64 (M.wrap .i32 (M.sub (M.rune s j) 48)))) < _
        rw [h7, Int.pow_succ]; omega
      · show digs s (s.size - (i + 1)) (i + 1) (M.wrap .i64 (M.add (M.wrap .i64 (M.mul v 10)) (M.wrap .i64 (M.wrap .i32 (M.sub (M.rune s j) 48))))) = _
        rw [h7, ← hn, hst, if_pos (by omega)]
    · have hlt : i = s.size := by (try subst hM); (try simp only [Eng.ncast] at *); (try simp only [Eng.nI_eq] at *); (try simp only [Eng.real, decide_eq_true_eq, decide_eq_false_iff_not, Bool.not_eq_true', Bool.not_eq_false', Bool.and_eq_true, Bool.or_eq_true, Eng.sEq_dec, Bool.not_true, Bool.not_false, gt_iff_lt, ge_iff_le] at *); omega
      rintro -
      show v = (num s).1 ∧ true = (num s).2
      have hd : digs s s.size 0 0 = some v := by rw [← hn, hlt, Nat.sub_self]; rfl
      unfold num; rw [if_neg hcc, hd]; exact ⟨rfl, rfl⟩
  · have h3 : ¬ 1 < s.size := by (try subst hM); (try simp only [Eng.ncast] at *); (try simp only [Eng.nI_eq] at *); (try simp only [Eng.real, decide_eq_true_eq, decide_eq_false_iff_not, Bool.not_eq_true', Bool.not_eq_false', Bool.and_eq_true, Bool.or_eq_true, Eng.sEq_dec, Bool.not_true, Bool.not_false, gt_iff_lt, ge_iff_le] at *); omega
    have hcc : ¬ (s.size < 1 ∨ 6 < s.size ∨ (1 < s.size ∧ byteAt s 0 = 48)) := by omega
    clear h h3
    refine ⟨fun m Γ => ∃ (i : Nat) (j v : Int), j = i ∧ i ≤ s.size ∧ 0 ≤ v ∧ v < 10 ^ i ∧ digs s (s.size - i) i v = digs s s.size 0 0 ∧ m = s.size - i ∧ Γ = ⟨43, [(4, .pv [] (.int .i64) v), (26, .ad 0 .unit 0 [])], [(0, .iter s j)], [.hole 0]⟩,
      ⟨_, 0, 0, 0, rfl, Nat.zero_le _, Int.le_refl 0, by decide, rfl, rfl, rfl⟩, ?_⟩
    rintro m _ ⟨i, j, v, hj, hi, hv0, hv1, hn, rfl, rfl⟩ -
    cbv
    refine splM (fun h => ?_) (fun h => ?_) <;> cbv
    · have hlt : i < s.size := by (try subst hM); (try simp only [Eng.ncast] at *); (try simp only [Eng.nI_eq] at *); (try simp only [Eng.real, decide_eq_true_eq, decide_eq_false_iff_not, Bool.not_eq_true', Bool.not_eq_false', Bool.and_eq_true, Bool.or_eq_true, Eng.sEq_dec, Bool.not_true, Bool.not_false, gt_iff_lt, ge_iff_le] at *); omega
      clear h
      have hst : digs s (s.size - i) i v = if 48 ≤ byteAt s j ∧ byteAt s j ≤ 57 then digs s (s.size - (i + 1)) (i + 1) (v * 10 + (byteAt s j - 48)) else none := by
        rw [show s.size - i = (s.size - (i + 1)) + 1 by omega]
        simp only [digs]; (try subst hM); (try simp only [Eng.ncast] at *); (try simp only [Eng.nI_eq] at *); (try simp only [Eng.real, decide_eq_true_eq, decide_eq_false_iff_not, Bool.not_eq_true', Bool.not_eq_false', Bool.and_eq_true, Bool.or_eq_true, Eng.sEq_dec, Bool.not_true, Bool.not_false, gt_iff_lt, ge_iff_le] at *); rw [hj]
      have hru : (byteAt s j < 128 ∧ M.rune s j = byteAt s j ∧ M.runeW s j = 1) ∨ (128 ≤ byteAt s j ∧ 128 ≤ M.rune s j) := by
        have := rune_at s i hlt
        subst hM
        have hj' : j = (i : Int) := hj
        rw [hj']; exact this
      have hbad : ¬ (48 ≤ byteAt s j ∧ byteAt s j ≤ 57) → num s = (0, false) := by
        intro hb
        rw [if_neg hb] at hst
        have hd : digs s s.size 0 0 = none := by rw [← hn, hst]
        unfold num; rw [if_neg hcc, hd]
      refine splM (fun h => ?_) (fun h => ?_) <;> cbv
      · have h4 : M.rune s j < 48 := by subst hM; exact dec_iff.1 h
        rintro -
        show (0 : Int) = (num s).1 ∧ false = (num s).2
        rw [hbad (by omega)]; exact ⟨rfl, rfl⟩
      have h4 : ¬ M.rune s j < 48 := by subst hM; exact dec_false h
      clear h
      refine splM (fun h => ?_) (fun h => ?_) <;> cbv
      · have h5 : 57 < M.rune s j := by subst hM; exact dec_iff.1 h
        rintro -
        show (0 : Int) = (num s).1 ∧ false = (num s).2
        rw [hbad (by omega)]; exact ⟨rfl, rfl⟩
      have h5 : ¬ 57 < M.rune s j := by subst hM; exact dec_false h
      clear h
      obtain ⟨hb7, hr, hw⟩ : byteAt s j < 128 ∧ M.rune s j = byteAt s j ∧ M.runeW s j = 1 := by
        rcases hru with h6 | ⟨_, h6⟩
        · exact h6
        · omega
      rw [hr] at h4 h5
      have h6 : M.wrap .i32 (M.sub (M.rune s j) 48) = byteAt s j - 48 := by
        rw [hr]
        clear hbad hst hru hr hw
        (try subst hM); (try simp only [Eng.ncast] at *); (try simp only [Eng.nI_eq] at *); (try simp only [Eng.real, decide_eq_true_eq, decide_eq_false_iff_not, Bool.not_eq_true', Bool.not_eq_false', Bool.and_eq_true, Bool.or_eq_true, Eng.sEq_dec, Bool.not_true, Bool.not_false, gt_iff_lt, ge_iff_le] at *)
        rw [w32 (by omega)]
      have h7 : M.wrap .i64 (M.add (M.wrap .i64 (M.mul v 10)) (M.wrap .i64 (M.wrap .i32 (M.sub (M.rune s j) 48)))) = v * 10 + (byteAt s j - 48) := by
        rw [h6]
        have hp := (pow10 (i := i) (by omega)).1
        clear hst hn hbad h6 hru
        clear hr hw
        (try subst hM); (try simp only [Eng.ncast] at *); (try simp only [Eng.nI_eq] at *); (try simp only [Eng.real, decide_eq_true_eq, decide_eq_false_iff_not, Bool.not_eq_true', Bool.not_eq_false', Bool.and_eq_true, Bool.or_eq_true, Eng.sEq_dec, Bool.not_true, Bool.not_false, gt_iff_lt, ge_iff_le] at *)
        rw [w64 (x := v * 10) (by omega), w64 (x := byteAt s j - 48) (by omega), w64 (by omega)]
      have h8 : M.add j (M.runeW s j) = ((i + 1 : Nat) : Int) := by
        rw [hw]; clear hst hn hbad h6 hru hr hw h7; (try subst hM); (try simp only [Eng.ncast] at *); (try simp only [Eng.nI_eq] at *); (try simp only [Eng.real, decide_eq_true_eq, decide_eq_false_iff_not, Bool.not_eq_true', Bool.not_eq_false', Bool.and_eq_true, Bool.or_eq_true, Eng.sEq_dec, Bool.not_true, Bool.not_false, gt_iff_lt, ge_iff_le] at *); omega
      refine ⟨_, ?_, i + 1, _, _, h8, hlt, ?_, ?_, ?_, rfl, rfl⟩
      · omega
      · show 0 ≤ M.wrap .i64 (M.add (M.wrap .i64 (M.mul v 10)) (M.wrap .i64 (M.wrap .i32 (M.sub (M.rune s j) 48))))
        rw [h7]; omega
      · show M.wrap .i64 (M.add (M.wrap .i64 (M.mul v 10)) (M.wrap .i64 (M.wrap .i32 (M.sub (M.rune s j) 48)))) < _
        rw [h7, Int.pow_succ]; omega
      · show digs s (s.size - (i + 1)) (i + 1) (M.wrap .i64 (M.add (M.wrap .i64 (M.mul v 10)) (M.wrap .i64 (M.wrap .i32 (M.sub (M.rune s j) 48))))) = _
        rw [h7, ← hn, hst, if_pos (by omega)]
    · have hlt : i = s.size := by (try subst hM); (try simp only [Eng.ncast] at *); (try simp only [Eng.nI_eq] at *); (try simp only [Eng.real, decide_eq_true_eq, decide_eq_false_iff_not, Bool.not_eq_true', Bool.not_eq_false', Bool.and_eq_true, Bool.or_eq_true, Eng.sEq_dec, Bool.not_true, Bool.not_false, gt_iff_lt, ge_iff_le] at *); omega
      rintro -
      show v = (num s).1 ∧ true = (num s).2
      have hd : digs s s.size 0 0 = some v := by rw [← hn, hlt, Nat.sub_self]; rfl
      unfold num; rw [if_neg hcc, hd]; exact ⟨rfl, rfl⟩
end Go.Proofs.YtjpeblicfhfniaaDoor.EngTabP
