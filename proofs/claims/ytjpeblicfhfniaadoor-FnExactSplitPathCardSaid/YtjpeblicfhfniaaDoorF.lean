/- Contracts of SplitPath's functions, sixth text: both SplitPaths. -/
import Derived.Test.YtjpeblicfhfniaaDoorE
import Derived.Test.YtjpeblicfhfniaaDoorG
namespace Go.Proofs.YtjpeblicfhfniaaDoor.EngTab
open Go.Proofs.YtjpeblicfhfniaaDoor.Eng
set_option maxRecDepth 100000
set_option linter.unusedVariables false
set_option linter.unusedSimpArgs false
def c15 : Con := ⟨[(false, 0, .str), (false, 0, .str)], [(1, .sl .str)], fun x => x.1.size ≤ 1048576 ∧ x.2.1 = slash, fun x y _ => y.1 = cuts x.1 47⟩
theorem ok15 : FnOK Tryd.prog 15 c15 := by
  refine FnOK.of_vc mixed tabOk (.cons en25 ok25 .nil) Tryd.func15 rfl (by decide) lv15 hd15 ?_
  rintro ⟨(s : ByteArray), (sep : ByteArray), ⟨⟩⟩ ⟨(hs : s.size ≤ 1048576), (hsep : sep = slash)⟩ hwf
  generalize hM : real = M
  cbv
  refine ⟨fun _ => ⟨hs, hsep, rfl, rfl⟩, ?_⟩
  rintro ⟨(y : List ByteArray), ⟨⟩⟩ x' (hy : y = cuts s 47) - -
  cbv
  exact fun _ => hy
/-- The first name that is not good: its code. -/
def codes : List ByteArray → Int
  | [] => 0
  | s :: l => if nameC s = 0 then codes l else nameC s
def split (s : ByteArray) : List ByteArray × Int :=
  if s.size > 200 then ([], 4) else if s.size = 0 ∨ byteAt s 0 ≠ 47 then ([], 12) else if s = slash then ([], 0) else
    if codes (cuts (s.extract 1 s.size) 47) ≠ 0 then ([], codes (cuts (s.extract 1 s.size) 47)) else if (cuts (s.extract 1 s.size) 47).length > 16 then ([], 4) else (cuts (s.extract 1 s.size) 47, 0)
theorem byteAt_ext (s : ByteArray) (f i k : Nat) (h : k < (s.extract f i).size) : byteAt (s.extract f i) k = byteAt s ((f + k : Nat) : Int) := by
  rw [ByteArray.size_extract] at h
  unfold byteAt
  rw [Int.toNat_natCast, Int.toNat_natCast]
  have e : (s.extract f i)[k]? = s[f + k]? := by
    rw [getElem?_pos _ _ (by rw [ByteArray.size_extract]; exact h), getElem?_pos _ _ (by omega), ByteArray.getElem_extract]
  rw [e]
theorem cuts_no (s : ByteArray) : ∀ (n f i : Nat), i + n = s.size → f ≤ i → (∀ k, f ≤ k → k < i → byteAt s (k : Int) ≠ 47) → ∀ t ∈ cutsN s 47 n f i, t.size ≤ s.size ∧ ∀ k < t.size, byteAt t (k : Int) ≠ 47
  | 0, f, i, h, hf, hk, t, ht => by
    simp only [cutsN, List.mem_singleton] at ht
    subst ht
    refine ⟨by rw [ByteArray.size_extract]; omega, fun k h1 => ?_⟩
    rw [byteAt_ext _ _ _ _ h1]
    rw [ByteArray.size_extract] at h1
    exact hk _ (by omega) (by omega)
  | n + 1, f, i, h, hf, hk, t, ht => by
    simp only [cutsN] at ht
    split at ht
    · rcases List.mem_cons.1 ht with rfl | ht
      · refine ⟨by rw [ByteArray.size_extract]; omega, fun k h1 => ?_⟩
        rw [byteAt_ext _ _ _ _ h1]
        rw [ByteArray.size_extract] at h1
        exact hk _ (by omega) (by omega)
      · exact cuts_no s n (i + 1) (i + 1) (by omega) (Nat.le_refl _) (fun k h1 h2 => by omega) t ht
    · rename_i hb
      exact cuts_no s n f (i + 1) (by omega) (by omega) (fun k h1 h2 => by
        by_cases e : k = i
        · rw [e]; exact hb
        · exact hk k h1 (by omega)) t ht
theorem cuts_len (s : ByteArray) : ∀ (n f i : Nat), (cutsN s 47 n f i).length ≤ n + 1
  | 0, f, i => by simp [cutsN]
  | n + 1, f, i => by
    simp only [cutsN]
    split
    · have := cuts_len s n (i + 1) (i + 1); simp only [List.length_cons]; omega
    · have := cuts_len s n f (i + 1); omega
def c6 : Con := ⟨[(false, 0, .str)], [(1, .sl .str), (0, .int .i64)], fun x => True, fun x y _ => y.1 = (split x.1).1 ∧ y.2.1 = (split x.1).2⟩
theorem ok6 : FnOK Tryd.prog 6 c6 := by
  refine FnOK.of_vc mixed tabOk (.cons en15 ok15 (.cons en16 ok16 .nil)) Tryd.func6 rfl (by decide) lv6 hd6 ?_
  rintro ⟨(s : ByteArray), ⟨⟩⟩ - hwf
  generalize hM : real = M
  cbv
  refine splM (fun h => ?_) (fun h => ?_) <;> cbv
  · rintro -
    have h1 : s.size > 200 := by (try subst hM); (try simp only [Eng.ncast] at *); (try simp only [Eng.nI_eq] at *); (try simp only [Eng.real, decide_eq_true_eq, decide_eq_false_iff_not, Bool.not_eq_true', Bool.not_eq_false', Bool.and_eq_true, Bool.or_eq_true, Eng.sEq_dec, Bool.not_true, Bool.not_false, gt_iff_lt, ge_iff_le] at *); omega
    constructor <;> simp [c6, split, h1]
  have h1 : ¬ s.size > 200 := by (try subst hM); (try simp only [Eng.ncast] at *); (try simp only [Eng.nI_eq] at *); (try simp only [Eng.real, decide_eq_true_eq, decide_eq_false_iff_not, Bool.not_eq_true', Bool.not_eq_false', Bool.and_eq_true, Bool.or_eq_true, Eng.sEq_dec, Bool.not_true, Bool.not_false, gt_iff_lt, ge_iff_le] at *); omega
  clear h
  refine splM (fun h => ?_) (fun h => ?_) <;> cbv
  · rintro -
    have h2 : s.size = 0 := by (try subst hM); (try simp only [Eng.ncast] at *); (try simp only [Eng.nI_eq] at *); (try simp only [Eng.real, decide_eq_true_eq, decide_eq_false_iff_not, Bool.not_eq_true', Bool.not_eq_false', Bool.and_eq_true, Bool.or_eq_true, Eng.sEq_dec, Bool.not_true, Bool.not_false, gt_iff_lt, ge_iff_le] at *); exact size_nil.1 h
    constructor <;> simp [c6, split, h2]
  have h2 : s.size ≠ 0 := by (try subst hM); (try simp only [Eng.ncast] at *); (try simp only [Eng.nI_eq] at *); (try simp only [Eng.real, decide_eq_true_eq, decide_eq_false_iff_not, Bool.not_eq_true', Bool.not_eq_false', Bool.and_eq_true, Bool.or_eq_true, Eng.sEq_dec, Bool.not_true, Bool.not_false, gt_iff_lt, ge_iff_le] at *); exact fun h0 => h (size_nil.2 h0)
  clear h
  refine ⟨by (try subst hM); (try simp only [Eng.ncast] at *); (try simp only [Eng.nI_eq] at *); (try simp only [Eng.real, decide_eq_true_eq, decide_eq_false_iff_not, Bool.not_eq_true', Bool.not_eq_false', Bool.and_eq_true, Bool.or_eq_true, Eng.sEq_dec, Bool.not_true, Bool.not_false, gt_iff_lt, ge_iff_le] at *); omega, by (try subst hM); (try simp only [Eng.ncast] at *); (try simp only [Eng.nI_eq] at *); (try simp only [Eng.real, decide_eq_true_eq, decide_eq_false_iff_not, Bool.not_eq_true', Bool.not_eq_false', Bool.and_eq_true, Bool.or_eq_true, Eng.sEq_dec, Bool.not_true, Bool.not_false, gt_iff_lt, ge_iff_le] at *); omega, splM (fun h => ?_) (fun h => ?_)⟩ <;> cbv
  · rintro -
    have h3 : byteAt s 0 ≠ 47 := by (try subst hM); (try simp only [Eng.ncast] at *); (try simp only [Eng.nI_eq] at *); (try simp only [Eng.real, decide_eq_true_eq, decide_eq_false_iff_not, Bool.not_eq_true', Bool.not_eq_false', Bool.and_eq_true, Bool.or_eq_true, Eng.sEq_dec, Bool.not_true, Bool.not_false, gt_iff_lt, ge_iff_le] at *); exact h
    constructor <;> simp [c6, split, h1, h2, h3]
  have h3 : byteAt s 0 = 47 := by (try subst hM); (try simp only [Eng.ncast] at *); (try simp only [Eng.nI_eq] at *); (try simp only [Eng.real, decide_eq_true_eq, decide_eq_false_iff_not, Bool.not_eq_true', Bool.not_eq_false', Bool.and_eq_true, Bool.or_eq_true, Eng.sEq_dec, Bool.not_true, Bool.not_false, gt_iff_lt, ge_iff_le] at *); exact h
  clear h
  refine splM (fun h => ?_) (fun h => ?_) <;> cbv
  · rintro -
    have h4 : s = slash := by (try subst hM); (try simp only [Eng.ncast] at *); (try simp only [Eng.nI_eq] at *); (try simp only [Eng.real, decide_eq_true_eq, decide_eq_false_iff_not, Bool.not_eq_true', Bool.not_eq_false', Bool.and_eq_true, Bool.or_eq_true, Eng.sEq_dec, Bool.not_true, Bool.not_false, gt_iff_lt, ge_iff_le] at *); exact h
    have h5 : split s = ([], 0) := by unfold split; rw [if_neg h1, if_neg (by simp [h2, h3]), if_pos h4]
    show ([] : List ByteArray) = (split s).1 ∧ (0 : Int) = (split s).2
    rw [h5]; exact ⟨rfl, rfl⟩
  have h4 : s ≠ slash := by (try subst hM); (try simp only [Eng.ncast] at *); (try simp only [Eng.nI_eq] at *); (try simp only [Eng.real, decide_eq_true_eq, decide_eq_false_iff_not, Bool.not_eq_true', Bool.not_eq_false', Bool.and_eq_true, Bool.or_eq_true, Eng.sEq_dec, Bool.not_true, Bool.not_false, gt_iff_lt, ge_iff_le] at *); exact h
  clear h
  refine ⟨by (try subst hM); (try simp only [Eng.ncast] at *); (try simp only [Eng.nI_eq] at *); (try simp only [Eng.real, decide_eq_true_eq, decide_eq_false_iff_not, Bool.not_eq_true', Bool.not_eq_false', Bool.and_eq_true, Bool.or_eq_true, Eng.sEq_dec, Bool.not_true, Bool.not_false, gt_iff_lt, ge_iff_le] at *); omega, by (try subst hM); (try simp only [Eng.ncast] at *); (try simp only [Eng.nI_eq] at *); (try simp only [Eng.real, decide_eq_true_eq, decide_eq_false_iff_not, Bool.not_eq_true', Bool.not_eq_false', Bool.and_eq_true, Bool.or_eq_true, Eng.sEq_dec, Bool.not_true, Bool.not_false, gt_iff_lt, ge_iff_le] at *); omega, by (try subst hM); (try simp only [Eng.ncast] at *); (try simp only [Eng.nI_eq] at *); (try simp only [Eng.real, decide_eq_true_eq, decide_eq_false_iff_not, Bool.not_eq_true', Bool.not_eq_false', Bool.and_eq_true, Bool.or_eq_true, Eng.sEq_dec, Bool.not_true, Bool.not_false, gt_iff_lt, ge_iff_le] at *); omega, fun _ => ⟨?_, rfl⟩, ?_⟩
  · rw [← hM]
    show (s.extract _ _).size ≤ _
    rw [ByteArray.size_extract]; omega
  rintro ⟨(y : List ByteArray), ⟨⟩⟩ x' hy - -
  have hy : y = cuts (s.extract 1 s.size) 47 := by subst hM; exact hy
  have hps : ∀ t ∈ y, t.size ≤ 1048576 ∧ ∀ k < t.size, byteAt t k ≠ 47 := by
    intro t ht
    rw [hy] at ht
    have := cuts_no (s.extract 1 s.size) (s.extract 1 s.size).size 0 0 (by omega) (by omega) (fun k _ h => by omega) t ht
    refine ⟨?_, this.2⟩
    have h5 := this.1
    rw [ByteArray.size_extract] at h5; omega
  have hyl : y.length ≤ 201 := by
    rw [hy]
    have := cuts_len (s.extract 1 s.size) (s.extract 1 s.size).size 0 0
    unfold cuts
    have h5 : (s.extract 1 s.size).size ≤ 200 := by rw [ByteArray.size_extract]; omega
    omega
  have hsp : split s = if codes y ≠ 0 then ([], codes y) else if y.length > 16 then ([], 4) else (y, 0) := by
    unfold split; rw [if_neg h1, if_neg (by simp [h2, h3]), if_neg h4, hy]
  clear hy
  cbv
  refine ⟨fun m Γ => ∃ (i : Nat) (j : Int), j = i ∧ i ≤ y.length ∧ codes (y.drop i) = codes y ∧ m = y.length - i ∧ Γ = ⟨39, [(4, .ref 0), (23, .ref 0), (24, .pv [] (.int .i64) (M.ofN (M.len y))), (25, .pv [] (.int .i64) j)], [(0, .row 0 .str y)], [.hole 0]⟩,
    ⟨_, 0, 0, rfl, Nat.zero_le _, rfl, rfl, rfl⟩, ?_⟩
  rintro m _ ⟨i, j, hj, hi, hc, rfl, rfl⟩ -
  cbv
  refine splM (fun h => ?_) (fun h => ?_) <;> cbv
  · have il : i < y.length := by (try subst hM); (try simp only [Eng.ncast] at *); (try simp only [Eng.nI_eq] at *); (try simp only [Eng.real, decide_eq_true_eq, decide_eq_false_iff_not, Bool.not_eq_true', Bool.not_eq_false', Bool.and_eq_true, Bool.or_eq_true, Eng.sEq_dec, Bool.not_true, Bool.not_false, gt_iff_lt, ge_iff_le] at *); omega
    clear h
    have hget : M.get y j (⟨#[]⟩ : ByteArray) = y[i] := by
      (try subst hM); (try simp only [Eng.ncast] at *); (try simp only [Eng.nI_eq] at *); (try simp only [Eng.real, decide_eq_true_eq, decide_eq_false_iff_not, Bool.not_eq_true', Bool.not_eq_false', Bool.and_eq_true, Bool.or_eq_true, Eng.sEq_dec, Bool.not_true, Bool.not_false, gt_iff_lt, ge_iff_le] at *)
      rw [hj, Int.toNat_natCast, List.getD_eq_getElem?_getD, List.getElem?_eq_getElem il]; rfl
    have hcd : codes (y.drop i) = if nameC y[i] = 0 then codes (y.drop (i + 1)) else nameC y[i] := by
      rw [List.drop_eq_getElem_cons il, codes]
    have hp := hps y[i] (List.getElem_mem il)
    refine ⟨by (try subst hM); (try simp only [Eng.ncast] at *); (try simp only [Eng.nI_eq] at *); (try simp only [Eng.real, decide_eq_true_eq, decide_eq_false_iff_not, Bool.not_eq_true', Bool.not_eq_false', Bool.and_eq_true, Bool.or_eq_true, Eng.sEq_dec, Bool.not_true, Bool.not_false, gt_iff_lt, ge_iff_le] at *); omega, by (try subst hM); (try simp only [Eng.ncast] at *); (try simp only [Eng.nI_eq] at *); (try simp only [Eng.real, decide_eq_true_eq, decide_eq_false_iff_not, Bool.not_eq_true', Bool.not_eq_false', Bool.and_eq_true, Bool.or_eq_true, Eng.sEq_dec, Bool.not_true, Bool.not_false, gt_iff_lt, ge_iff_le] at *); omega, by (try subst hM); (try simp only [Eng.ncast] at *); (try simp only [Eng.nI_eq] at *); (try simp only [Eng.real, decide_eq_true_eq, decide_eq_false_iff_not, Bool.not_eq_true', Bool.not_eq_false', Bool.and_eq_true, Bool.or_eq_true, Eng.sEq_dec, Bool.not_true, Bool.not_false, gt_iff_lt, ge_iff_le] at *); omega, by (try subst hM); (try simp only [Eng.ncast] at *); (try simp only [Eng.nI_eq] at *); (try simp only [Eng.real, decide_eq_true_eq, decide_eq_false_iff_not, Bool.not_eq_true', Bool.not_eq_false', Bool.and_eq_true, Bool.or_eq_true, Eng.sEq_dec, Bool.not_true, Bool.not_false, gt_iff_lt, ge_iff_le] at *); omega, fun _ => ?_, ?_⟩
    · show (M.get y j (⟨#[]⟩ : ByteArray)).size ≤ 1048576 ∧ ∀ k < (M.get y j (⟨#[]⟩ : ByteArray)).size, byteAt (M.get y j (⟨#[]⟩ : ByteArray)) k ≠ 47
      rw [hget]; exact hp
    rintro ⟨(z : Int), ⟨⟩⟩ x' (hz : z = nameC (M.get y j (⟨#[]⟩ : ByteArray))) - -
    rw [hget] at hz
    cbv
    refine splM (fun h => ?_) (fun h => ?_) <;> cbv
    · have hz0 : z ≠ 0 := by (try subst hM); (try simp only [Eng.ncast] at *); (try simp only [Eng.nI_eq] at *); (try simp only [Eng.real, decide_eq_true_eq, decide_eq_false_iff_not, Bool.not_eq_true', Bool.not_eq_false', Bool.and_eq_true, Bool.or_eq_true, Eng.sEq_dec, Bool.not_true, Bool.not_false, gt_iff_lt, ge_iff_le] at *); exact h
      rintro -
      have h5 : split s = ([], z) := by
        rw [hsp]
        have : codes y = z := by rw [← hc, hcd, if_neg (by rw [← hz]; exact hz0), hz]
        rw [this, if_pos hz0]
      show ([] : List ByteArray) = (split s).1 ∧ z = (split s).2
      rw [h5]; exact ⟨rfl, rfl⟩
    · have hz0 : z = 0 := by (try subst hM); (try simp only [Eng.ncast] at *); (try simp only [Eng.nI_eq] at *); (try simp only [Eng.real, decide_eq_true_eq, decide_eq_false_iff_not, Bool.not_eq_true', Bool.not_eq_false', Bool.and_eq_true, Bool.or_eq_true, Eng.sEq_dec, Bool.not_true, Bool.not_false, gt_iff_lt, ge_iff_le] at *); omega
      refine ⟨_, ?_, i + 1, M.wrap .i64 (M.add j 1), ?_, il, ?_, rfl, rfl⟩
      · omega
      · (try subst hM); (try simp only [Eng.ncast] at *); (try simp only [Eng.nI_eq] at *); (try simp only [Eng.real, decide_eq_true_eq, decide_eq_false_iff_not, Bool.not_eq_true', Bool.not_eq_false', Bool.and_eq_true, Bool.or_eq_true, Eng.sEq_dec, Bool.not_true, Bool.not_false, gt_iff_lt, ge_iff_le] at *)
        rw [w64 (by omega)]; omega
      · rw [← hc, hcd, if_pos (by rw [← hz]; exact hz0)]
  · have il : i = y.length := by (try subst hM); (try simp only [Eng.ncast] at *); (try simp only [Eng.nI_eq] at *); (try simp only [Eng.real, decide_eq_true_eq, decide_eq_false_iff_not, Bool.not_eq_true', Bool.not_eq_false', Bool.and_eq_true, Bool.or_eq_true, Eng.sEq_dec, Bool.not_true, Bool.not_false, gt_iff_lt, ge_iff_le] at *); omega
    have hc0 : codes y = 0 := by rw [← hc, il, List.drop_length]; rfl
    refine splM (fun h => ?_) (fun h => ?_) <;> cbv
    · rintro -
      have h5 : y.length > 16 := by (try subst hM); (try simp only [Eng.ncast] at *); (try simp only [Eng.nI_eq] at *); (try simp only [Eng.real, decide_eq_true_eq, decide_eq_false_iff_not, Bool.not_eq_true', Bool.not_eq_false', Bool.and_eq_true, Bool.or_eq_true, Eng.sEq_dec, Bool.not_true, Bool.not_false, gt_iff_lt, ge_iff_le] at *); omega
      show ([] : List ByteArray) = (split s).1 ∧ (4 : Int) = (split s).2
      rw [hsp, hc0, if_neg (by simp), if_pos h5]; exact ⟨rfl, rfl⟩
    · rintro -
      have h5 : ¬ y.length > 16 := by (try subst hM); (try simp only [Eng.ncast] at *); (try simp only [Eng.nI_eq] at *); (try simp only [Eng.real, decide_eq_true_eq, decide_eq_false_iff_not, Bool.not_eq_true', Bool.not_eq_false', Bool.and_eq_true, Bool.or_eq_true, Eng.sEq_dec, Bool.not_true, Bool.not_false, gt_iff_lt, ge_iff_le] at *); omega
      show y = (split s).1 ∧ (0 : Int) = (split s).2
      rw [hsp, hc0, if_neg (by simp), if_neg h5]; exact ⟨rfl, rfl⟩
def c5 : Con := ⟨[(false, 0, .str)], [(1, .sl .str), (0, .int .i64)], fun x => True, fun x y _ => y.1 = (split x.1).1 ∧ y.2.1 = (split x.1).2⟩
theorem ok5 : FnOK Tryd.prog 5 c5 := by
  refine FnOK.of_vc mixed tabOk (.cons en13 ok13 (.cons en14 ok14 .nil)) Tryd.func5 rfl (by decide) lv5 hd5 ?_
  rintro ⟨(s : ByteArray), ⟨⟩⟩ - hwf
  generalize hM : real = M
  cbv
  refine splM (fun h => ?_) (fun h => ?_) <;> cbv
  · rintro -
    have h1 : s.size > 200 := by (try subst hM); (try simp only [Eng.ncast] at *); (try simp only [Eng.nI_eq] at *); (try simp only [Eng.real, decide_eq_true_eq, decide_eq_false_iff_not, Bool.not_eq_true', Bool.not_eq_false', Bool.and_eq_true, Bool.or_eq_true, Eng.sEq_dec, Bool.not_true, Bool.not_false, gt_iff_lt, ge_iff_le] at *); omega
    constructor <;> simp [c5, split, h1]
  have h1 : ¬ s.size > 200 := by (try subst hM); (try simp only [Eng.ncast] at *); (try simp only [Eng.nI_eq] at *); (try simp only [Eng.real, decide_eq_true_eq, decide_eq_false_iff_not, Bool.not_eq_true', Bool.not_eq_false', Bool.and_eq_true, Bool.or_eq_true, Eng.sEq_dec, Bool.not_true, Bool.not_false, gt_iff_lt, ge_iff_le] at *); omega
  clear h
  refine splM (fun h => ?_) (fun h => ?_) <;> cbv
  · rintro -
    have h2 : s.size = 0 := by (try subst hM); (try simp only [Eng.ncast] at *); (try simp only [Eng.nI_eq] at *); (try simp only [Eng.real, decide_eq_true_eq, decide_eq_false_iff_not, Bool.not_eq_true', Bool.not_eq_false', Bool.and_eq_true, Bool.or_eq_true, Eng.sEq_dec, Bool.not_true, Bool.not_false, gt_iff_lt, ge_iff_le] at *); omega
    constructor <;> simp [c5, split, h2]
  have h2 : s.size ≠ 0 := by (try subst hM); (try simp only [Eng.ncast] at *); (try simp only [Eng.nI_eq] at *); (try simp only [Eng.real, decide_eq_true_eq, decide_eq_false_iff_not, Bool.not_eq_true', Bool.not_eq_false', Bool.and_eq_true, Bool.or_eq_true, Eng.sEq_dec, Bool.not_true, Bool.not_false, gt_iff_lt, ge_iff_le] at *); omega
  clear h
  refine ⟨by (try subst hM); (try simp only [Eng.ncast] at *); (try simp only [Eng.nI_eq] at *); (try simp only [Eng.real, decide_eq_true_eq, decide_eq_false_iff_not, Bool.not_eq_true', Bool.not_eq_false', Bool.and_eq_true, Bool.or_eq_true, Eng.sEq_dec, Bool.not_true, Bool.not_false, gt_iff_lt, ge_iff_le] at *); omega, by (try subst hM); (try simp only [Eng.ncast] at *); (try simp only [Eng.nI_eq] at *); (try simp only [Eng.real, decide_eq_true_eq, decide_eq_false_iff_not, Bool.not_eq_true', Bool.not_eq_false', Bool.and_eq_true, Bool.or_eq_true, Eng.sEq_dec, Bool.not_true, Bool.not_false, gt_iff_lt, ge_iff_le] at *); omega, splM (fun h => ?_) (fun h => ?_)⟩ <;> cbv
  · rintro -
    have h3 : byteAt s 0 ≠ 47 := by (try subst hM); (try simp only [Eng.ncast] at *); (try simp only [Eng.nI_eq] at *); (try simp only [Eng.real, decide_eq_true_eq, decide_eq_false_iff_not, Bool.not_eq_true', Bool.not_eq_false', Bool.and_eq_true, Bool.or_eq_true, Eng.sEq_dec, Bool.not_true, Bool.not_false, gt_iff_lt, ge_iff_le] at *); exact h
    constructor <;> simp [c5, split, h1, h2, h3]
  have h3 : byteAt s 0 = 47 := by (try subst hM); (try simp only [Eng.ncast] at *); (try simp only [Eng.nI_eq] at *); (try simp only [Eng.real, decide_eq_true_eq, decide_eq_false_iff_not, Bool.not_eq_true', Bool.not_eq_false', Bool.and_eq_true, Bool.or_eq_true, Eng.sEq_dec, Bool.not_true, Bool.not_false, gt_iff_lt, ge_iff_le] at *); exact h
  clear h
  refine splM (fun h => ?_) (fun h => ?_) <;> cbv
  · rintro -
    have h4 : s = slash := by (try subst hM); (try simp only [Eng.ncast] at *); (try simp only [Eng.nI_eq] at *); (try simp only [Eng.real, decide_eq_true_eq, decide_eq_false_iff_not, Bool.not_eq_true', Bool.not_eq_false', Bool.and_eq_true, Bool.or_eq_true, Eng.sEq_dec, Bool.not_true, Bool.not_false, gt_iff_lt, ge_iff_le] at *); exact h
    have h5 : split s = ([], 0) := by unfold split; rw [if_neg h1, if_neg (by simp [h2, h3]), if_pos h4]
    show ([] : List ByteArray) = (split s).1 ∧ (0 : Int) = (split s).2
    rw [h5]; exact ⟨rfl, rfl⟩
  have h4 : s ≠ slash := by (try subst hM); (try simp only [Eng.ncast] at *); (try simp only [Eng.nI_eq] at *); (try simp only [Eng.real, decide_eq_true_eq, decide_eq_false_iff_not, Bool.not_eq_true', Bool.not_eq_false', Bool.and_eq_true, Bool.or_eq_true, Eng.sEq_dec, Bool.not_true, Bool.not_false, gt_iff_lt, ge_iff_le] at *); exact h
  clear h
  refine ⟨by (try subst hM); (try simp only [Eng.ncast] at *); (try simp only [Eng.nI_eq] at *); (try simp only [Eng.real, decide_eq_true_eq, decide_eq_false_iff_not, Bool.not_eq_true', Bool.not_eq_false', Bool.and_eq_true, Bool.or_eq_true, Eng.sEq_dec, Bool.not_true, Bool.not_false, gt_iff_lt, ge_iff_le] at *); omega, by (try subst hM); (try simp only [Eng.ncast] at *); (try simp only [Eng.nI_eq] at *); (try simp only [Eng.real, decide_eq_true_eq, decide_eq_false_iff_not, Bool.not_eq_true', Bool.not_eq_false', Bool.and_eq_true, Bool.or_eq_true, Eng.sEq_dec, Bool.not_true, Bool.not_false, gt_iff_lt, ge_iff_le] at *); omega, by (try subst hM); (try simp only [Eng.ncast] at *); (try simp only [Eng.nI_eq] at *); (try simp only [Eng.real, decide_eq_true_eq, decide_eq_false_iff_not, Bool.not_eq_true', Bool.not_eq_false', Bool.and_eq_true, Bool.or_eq_true, Eng.sEq_dec, Bool.not_true, Bool.not_false, gt_iff_lt, ge_iff_le] at *); omega, fun _ => ?_, ?_⟩
  · rw [← hM]
    show (s.extract _ _).size ≤ _
    rw [ByteArray.size_extract]; omega
  rintro ⟨(y : List ByteArray), ⟨⟩⟩ x' hy - -
  have hy : y = cuts (s.extract 1 s.size) 47 := by subst hM; exact hy
  have hps : ∀ t ∈ y, t.size ≤ 1048576 ∧ ∀ k < t.size, byteAt t k ≠ 47 := by
    intro t ht
    rw [hy] at ht
    have := cuts_no (s.extract 1 s.size) (s.extract 1 s.size).size 0 0 (by omega) (by omega) (fun k _ h => by omega) t ht
    refine ⟨?_, this.2⟩
    have h5 := this.1
    rw [ByteArray.size_extract] at h5; omega
  have hyl : y.length ≤ 201 := by
    rw [hy]
    have := cuts_len (s.extract 1 s.size) (s.extract 1 s.size).size 0 0
    unfold cuts
    have h5 : (s.extract 1 s.size).size ≤ 200 := by rw [ByteArray.size_extract]; omega
    omega
  have hsp : split s = if codes y ≠ 0 then ([], codes y) else if y.length > 16 then ([], 4) else (y, 0) := by
    unfold split; rw [if_neg h1, if_neg (by simp [h2, h3]), if_neg h4, hy]
  clear hy
  cbv
  refine ⟨fun m Γ => ∃ (i : Nat) (j : Int), j = i ∧ i ≤ y.length ∧ codes (y.drop i) = codes y ∧ m = y.length - i ∧ Γ = ⟨41, [(4, .ref 0), (5, .pv [] (.int .i64) j)], [(0, .row 0 .str y)], [.hole 0]⟩,
    ⟨_, 0, 0, rfl, Nat.zero_le _, rfl, rfl, rfl⟩, ?_⟩
  rintro m _ ⟨i, j, hj, hi, hc, rfl, rfl⟩ -
  cbv
  refine splM (fun h => ?_) (fun h => ?_) <;> cbv
  · have il : i < y.length := by (try subst hM); (try simp only [Eng.ncast] at *); (try simp only [Eng.nI_eq] at *); (try simp only [Eng.real, decide_eq_true_eq, decide_eq_false_iff_not, Bool.not_eq_true', Bool.not_eq_false', Bool.and_eq_true, Bool.or_eq_true, Eng.sEq_dec, Bool.not_true, Bool.not_false, gt_iff_lt, ge_iff_le] at *); omega
    clear h
    have hget : M.get y j (⟨#[]⟩ : ByteArray) = y[i] := by
      (try subst hM); (try simp only [Eng.ncast] at *); (try simp only [Eng.nI_eq] at *); (try simp only [Eng.real, decide_eq_true_eq, decide_eq_false_iff_not, Bool.not_eq_true', Bool.not_eq_false', Bool.and_eq_true, Bool.or_eq_true, Eng.sEq_dec, Bool.not_true, Bool.not_false, gt_iff_lt, ge_iff_le] at *)
      rw [hj, Int.toNat_natCast, List.getD_eq_getElem?_getD, List.getElem?_eq_getElem il]; rfl
    have hcd : codes (y.drop i) = if nameC y[i] = 0 then codes (y.drop (i + 1)) else nameC y[i] := by
      rw [List.drop_eq_getElem_cons il, codes]
    have hp := hps y[i] (List.getElem_mem il)
    refine ⟨by (try subst hM); (try simp only [Eng.ncast] at *); (try simp only [Eng.nI_eq] at *); (try simp only [Eng.real, decide_eq_true_eq, decide_eq_false_iff_not, Bool.not_eq_true', Bool.not_eq_false', Bool.and_eq_true, Bool.or_eq_true, Eng.sEq_dec, Bool.not_true, Bool.not_false, gt_iff_lt, ge_iff_le] at *); omega, by (try subst hM); (try simp only [Eng.ncast] at *); (try simp only [Eng.nI_eq] at *); (try simp only [Eng.real, decide_eq_true_eq, decide_eq_false_iff_not, Bool.not_eq_true', Bool.not_eq_false', Bool.and_eq_true, Bool.or_eq_true, Eng.sEq_dec, Bool.not_true, Bool.not_false, gt_iff_lt, ge_iff_le] at *); omega, by (try subst hM); (try simp only [Eng.ncast] at *); (try simp only [Eng.nI_eq] at *); (try simp only [Eng.real, decide_eq_true_eq, decide_eq_false_iff_not, Bool.not_eq_true', Bool.not_eq_false', Bool.and_eq_true, Bool.or_eq_true, Eng.sEq_dec, Bool.not_true, Bool.not_false, gt_iff_lt, ge_iff_le] at *); omega, by (try subst hM); (try simp only [Eng.ncast] at *); (try simp only [Eng.nI_eq] at *); (try simp only [Eng.real, decide_eq_true_eq, decide_eq_false_iff_not, Bool.not_eq_true', Bool.not_eq_false', Bool.and_eq_true, Bool.or_eq_true, Eng.sEq_dec, Bool.not_true, Bool.not_false, gt_iff_lt, ge_iff_le] at *); omega, fun _ => ?_, ?_⟩
    · show (M.get y j (⟨#[]⟩ : ByteArray)).size ≤ 1048576
      rw [hget]; exact hp.1
    rintro ⟨(z : Int), ⟨⟩⟩ x' (hz : z = nameC (M.get y j (⟨#[]⟩ : ByteArray))) - -
    rw [hget] at hz
    cbv
    refine splM (fun h => ?_) (fun h => ?_) <;> cbv
    · have hz0 : z ≠ 0 := by (try subst hM); (try simp only [Eng.ncast] at *); (try simp only [Eng.nI_eq] at *); (try simp only [Eng.real, decide_eq_true_eq, decide_eq_false_iff_not, Bool.not_eq_true', Bool.not_eq_false', Bool.and_eq_true, Bool.or_eq_true, Eng.sEq_dec, Bool.not_true, Bool.not_false, gt_iff_lt, ge_iff_le] at *); exact h
      rintro -
      have h5 : split s = ([], z) := by
        rw [hsp]
        have : codes y = z := by rw [← hc, hcd, if_neg (by rw [← hz]; exact hz0), hz]
        rw [this, if_pos hz0]
      show ([] : List ByteArray) = (split s).1 ∧ z = (split s).2
      rw [h5]; exact ⟨rfl, rfl⟩
    · have hz0 : z = 0 := by (try subst hM); (try simp only [Eng.ncast] at *); (try simp only [Eng.nI_eq] at *); (try simp only [Eng.real, decide_eq_true_eq, decide_eq_false_iff_not, Bool.not_eq_true', Bool.not_eq_false', Bool.and_eq_true, Bool.or_eq_true, Eng.sEq_dec, Bool.not_true, Bool.not_false, gt_iff_lt, ge_iff_le] at *); omega
      refine ⟨_, ?_, i + 1, M.wrap .i64 (M.add j 1), ?_, il, ?_, rfl, rfl⟩
      · omega
      · (try subst hM); (try simp only [Eng.ncast] at *); (try simp only [Eng.nI_eq] at *); (try simp only [Eng.real, decide_eq_true_eq, decide_eq_false_iff_not, Bool.not_eq_true', Bool.not_eq_false', Bool.and_eq_true, Bool.or_eq_true, Eng.sEq_dec, Bool.not_true, Bool.not_false, gt_iff_lt, ge_iff_le] at *)
        rw [w64 (by omega)]; omega
      · rw [← hc, hcd, if_pos (by rw [← hz]; exact hz0)]
  · have il : i = y.length := by (try subst hM); (try simp only [Eng.ncast] at *); (try simp only [Eng.nI_eq] at *); (try simp only [Eng.real, decide_eq_true_eq, decide_eq_false_iff_not, Bool.not_eq_true', Bool.not_eq_false', Bool.and_eq_true, Bool.or_eq_true, Eng.sEq_dec, Bool.not_true, Bool.not_false, gt_iff_lt, ge_iff_le] at *); omega
    have hc0 : codes y = 0 := by rw [← hc, il, List.drop_length]; rfl
    refine splM (fun h => ?_) (fun h => ?_) <;> cbv
    · rintro -
      have h5 : y.length > 16 := by (try subst hM); (try simp only [Eng.ncast] at *); (try simp only [Eng.nI_eq] at *); (try simp only [Eng.real, decide_eq_true_eq, decide_eq_false_iff_not, Bool.not_eq_true', Bool.not_eq_false', Bool.and_eq_true, Bool.or_eq_true, Eng.sEq_dec, Bool.not_true, Bool.not_false, gt_iff_lt, ge_iff_le] at *); omega
      show ([] : List ByteArray) = (split s).1 ∧ (4 : Int) = (split s).2
      rw [hsp, hc0, if_neg (by simp), if_pos h5]; exact ⟨rfl, rfl⟩
    · rintro -
      have h5 : ¬ y.length > 16 := by (try subst hM); (try simp only [Eng.ncast] at *); (try simp only [Eng.nI_eq] at *); (try simp only [Eng.real, decide_eq_true_eq, decide_eq_false_iff_not, Bool.not_eq_true', Bool.not_eq_false', Bool.and_eq_true, Bool.or_eq_true, Eng.sEq_dec, Bool.not_true, Bool.not_false, gt_iff_lt, ge_iff_le] at *); omega
      show y = (split s).1 ∧ (0 : Int) = (split s).2
      rw [hsp, hc0, if_neg (by simp), if_neg h5]; exact ⟨rfl, rfl⟩
end Go.Proofs.YtjpeblicfhfniaaDoor.EngTab
