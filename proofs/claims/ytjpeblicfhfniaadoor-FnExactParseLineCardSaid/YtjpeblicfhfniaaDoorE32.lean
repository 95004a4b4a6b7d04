/- Contracts of ParseLine's functions: strings.Split at a blank (the text of E.lean.t, turned by program to the byte 32). -/
import Derived.Test.YtjpeblicfhfniaaDoorE
namespace Go.Proofs.YtjpeblicfhfniaaDoor.EngTab
open Go.Proofs.YtjpeblicfhfniaaDoor.Eng
set_option maxRecDepth 100000
set_option linter.unusedVariables false
set_option linter.unusedSimpArgs false
theorem byteAt_eqb {s : ByteArray} {k : Nat} : byteAt s (k : Int) = 32 ↔ s.data.toList[k]? = some 32 := by
  unfold byteAt
  rw [Int.toNat_natCast]
  have e : s[k]? = s.data.toList[k]? := by rw [Array.getElem?_toList]; rfl
  rw [e]
  cases h : s.data.toList[k]? with
  | none => simp
  | some b =>
    simp only [Option.map_some, Option.getD_some, Option.some.injEq]
    constructor
    · intro h1; apply UInt8.toNat_inj.1; show b.toNat = 32; omega
    · rintro rfl; rfl
theorem cuts_skipb (s : ByteArray) (f : Nat) : ∀ (d i : Nat), i + d ≤ s.size → (∀ k, i ≤ k → k < i + d → s.data.toList[k]? ≠ some 32) → cutsN s 32 (s.size - i) f i = cutsN s 32 (s.size - (i + d)) f (i + d)
  | 0, i, _, _ => rfl
  | d + 1, i, h1, h2 => by
    rw [show s.size - i = (s.size - (i + 1)) + 1 by omega, cutsN, if_neg (fun h => h2 i (Nat.le_refl _) (by omega) (byteAt_eqb.1 h)), cuts_skipb s f d (i + 1) (by omega) (fun k h3 h4 => h2 k (by omega) (by omega))]
    congr 1 <;> omega
theorem cuts_lastb (s : ByteArray) (c : Int) (p : Nat) (hp : p ≤ s.size) (h : ∀ b ∈ s.data.toList.drop p, b ≠ 32) : cutsN s 32 (s.size - p) p p = [s.extract p s.size] := by
  rw [cuts_skipb s p (s.size - p) p (by omega) (fun k h1 h2 h3 => h 32 (by
    rw [List.mem_iff_getElem?]; exact ⟨k - p, by rw [List.getElem?_drop, show p + (k - p) = k by omega]; exact h3⟩) rfl), show s.size - (p + (s.size - p)) = 0 by omega]
  rfl
theorem cuts_stepb (s : ByteArray) (p m : Nat) (hp : p + m < s.size) (h : (s.data.toList.drop p)[m]? = some 32) (hk : ∀ k < m, (s.data.toList.drop p)[k]? ≠ some 32) :
    cutsN s 32 (s.size - p) p p = s.extract p (p + m) :: cutsN s 32 (s.size - (p + m + 1)) (p + m + 1) (p + m + 1) := by
  rw [cuts_skipb s p m p (by omega) (fun k h1 h2 h3 => hk (k - p) (by omega) (by rw [List.getElem?_drop, show p + (k - p) = k by omega]; exact h3))]
  rw [show s.size - (p + m) = (s.size - (p + m + 1)) + 1 by omega, cutsN, if_pos (byteAt_eqb.2 (by rw [List.getElem?_drop] at h; exact h))]
theorem count_stepb (l : List UInt8) (p m : Nat) (h : (l.drop p)[m]? = some 32) : (l.drop (p + m + 1)).count 32 + 1 ≤ (l.drop p).count 32 := by
  have hm : m < (l.drop p).length := (List.getElem?_eq_some_iff.1 h).1
  have e : l.drop p = (l.drop p).take m ++ 32 :: l.drop (p + m + 1) := by
    have h1 := List.take_append_drop m (l.drop p)
    have h2 : (l.drop p).drop m = 32 :: l.drop (p + m + 1) := by
      rw [List.drop_drop]
      rw [List.getElem?_drop] at h
      have h3 := (List.getElem?_eq_some_iff.1 h)
      obtain ⟨h4, h5⟩ := h3
      rw [List.drop_eq_getElem_cons h4, h5]
    rw [h2] at h1; exact h1.symm
  conv => rhs; rw [e]
  rw [List.count_append, List.count_cons_self]; omega
def slashb : ByteArray := ⟨#[32]⟩
def c29b : Con := Con.of ⟨[(false, 0, .str), (false, 0, .str)], [(0, .int .i64)], fun x => x.2.1 = slashb, fun x y _ => y.1 = Lib.indexByte x.1.data.toList 32⟩
theorem ok29b : FnOK Tryd.prog 29 c29b := by
  refine FnOK.of_calls (by decide) ?_
  intro w Z Bs vals x hA hp
  obtain ⟨rfl, h1, h2⟩ := two_str hA
  have hp' : x.2.1 = ⟨#[32]⟩ := hp
  rw [hp']
  refine (Tryd.strings_Index_one x.1 32 w).mono ?_
  rintro e w' ⟨rfl, rfl⟩
  have hk : InK .i64 (Lib.indexByte x.1.data.toList 32) := by
    have hl : x.1.data.toList.length ≤ 140737488355328 := h1
    rcases idx_spec 32 x.1.data.toList with ⟨h, _⟩ | ⟨m, h, h', _⟩
    · rw [h]; unfold InK IntKind.min IntKind.max; decide
    · rw [h']; unfold InK IntKind.min IntKind.max; simp [IntKind.signed, IntKind.bits]; omega
  exact ⟨_, (Lib.indexByte x.1.data.toList 32, ()), [[]], rfl, rfl, Frm.refl _ _, rfl, ret_int hk⟩
def c28b : Con := Con.of ⟨[(false, 0, .str), (false, 0, .str)], [(0, .int .i64)], fun x => x.2.1 = slashb, fun x y _ => y.1 = (x.1.data.toList.count 32 : Nat)⟩
theorem ok28b : FnOK Tryd.prog 28 c28b := by
  refine FnOK.of_calls (by decide) ?_
  intro w Z Bs vals x hA hp
  obtain ⟨rfl, h1, h2⟩ := two_str hA
  have hp' : x.2.1 = ⟨#[32]⟩ := hp
  rw [hp']
  refine (Tryd.strings_Count_one x.1 32 w).mono ?_
  rintro e w' ⟨rfl, rfl⟩
  have hk : InK .i64 ((x.1.data.toList.count 32 : Nat) : Int) := by
    have hl : x.1.data.toList.length ≤ 140737488355328 := h1
    have := List.count_le_length (a := (32 : UInt8)) (l := x.1.data.toList)
    generalize List.count 32 x.1.data.toList = q at this ⊢
    unfold InK IntKind.min IntKind.max; simp [IntKind.signed, IntKind.bits]; omega
  exact ⟨_, (((x.1.data.toList.count 32 : Nat) : Int), ()), [[]], rfl, rfl, Frm.refl _ _, rfl, ret_int hk⟩
def c25b : Con := Con.of ⟨[(false, 0, .str), (false, 0, .str), (false, 0, .int .i64), (false, 0, .int .i64)], [(1, .sl .str)], fun x => x.1.size ≤ 1048576 ∧ x.2.1 = slashb ∧ x.2.2.1 = 0 ∧ x.2.2.2.1 = -1, fun x y _ => y.1 = cuts x.1 32⟩
theorem ok25b : FnOK Tryd.prog 25 c25b := by
  refine FnOK.of_vc mixed tabOk.moves (.cons en28 ok28b (.cons en29 ok29b .nil)) Tryd.func25 rfl (by decide) lv25 hd25 ?_
  rintro ⟨(s : ByteArray), (sep : ByteArray), (sv : Int), (n : Int), ⟨⟩⟩ ⟨(hs : s.size ≤ 1048576), (hsep : sep = slashb), (hsv : sv = 0), (hn : n = -1)⟩ hwf
  generalize hM : real = M
  cbv
  refine splM (fun h => ?_) (fun h => ?_) <;> cbv
  · exfalso; (try subst hM); (try simp only [Eng.ncast] at *); (try simp only [Eng.nI_eq] at *); (try simp only [Eng.real, decide_eq_true_eq, decide_eq_false_iff_not, Bool.not_eq_true', Bool.not_eq_false', Bool.and_eq_true, Bool.or_eq_true, Eng.sEq_dec, Bool.not_true, Bool.not_false, gt_iff_lt, ge_iff_le] at *); omega
  clear h
  refine splM (fun h => ?_) (fun h => ?_) <;> cbv
  · exfalso; (try subst hM); (try simp only [Eng.ncast] at *); (try simp only [Eng.nI_eq] at *); (try simp only [Eng.real, decide_eq_true_eq, decide_eq_false_iff_not, Bool.not_eq_true', Bool.not_eq_false', Bool.and_eq_true, Bool.or_eq_true, Eng.sEq_dec, Bool.not_true, Bool.not_false, gt_iff_lt, ge_iff_le] at *)
    rw [hsep] at h
    have := congrArg ByteArray.size h; exact absurd this (by decide)
  clear h
  refine splM (fun h => ?_) (fun h => ?_) <;> cbv
  · clear h
    refine ⟨fun _ => hsep, ?_⟩
    rintro ⟨(y : Int), ⟨⟩⟩ x' (hy : y = (s.data.toList.count 32 : Nat)) - -
    cbv
    obtain ⟨q, hqe⟩ : ∃ q : Nat, s.data.toList.count 32 = q := ⟨_, rfl⟩
    have hq : q ≤ s.size := by rw [← hqe]; exact List.count_le_length
    rw [hqe] at hy
    have hw1 : M.wrap .i64 (M.add y 1) = q + 1 := by
      (try subst hM); (try simp only [Eng.ncast] at *); (try simp only [Eng.nI_eq] at *); (try simp only [Eng.real, decide_eq_true_eq, decide_eq_false_iff_not, Bool.not_eq_true', Bool.not_eq_false', Bool.and_eq_true, Bool.or_eq_true, Eng.sEq_dec, Bool.not_true, Bool.not_false, gt_iff_lt, ge_iff_le] at *)
      rw [w64 (by omega)]; omega
    have hw2 : M.wrap .i64 (M.add (M.sLen s) 1) = s.size + 1 := by
      (try subst hM); (try simp only [Eng.ncast] at *); (try simp only [Eng.nI_eq] at *); (try simp only [Eng.real, decide_eq_true_eq, decide_eq_false_iff_not, Bool.not_eq_true', Bool.not_eq_false', Bool.and_eq_true, Bool.or_eq_true, Eng.sEq_dec, Bool.not_true, Bool.not_false, gt_iff_lt, ge_iff_le] at *)
      rw [w64 (by omega)]
    have hR : M.minI (M.wrap .i64 (M.add y 1)) (M.wrap .i64 (M.add (M.sLen s) 1)) = q + 1 := by
      rw [hw1, hw2]
      (try subst hM); (try simp only [Eng.ncast] at *); (try simp only [Eng.nI_eq] at *); (try simp only [Eng.real, decide_eq_true_eq, decide_eq_false_iff_not, Bool.not_eq_true', Bool.not_eq_false', Bool.and_eq_true, Bool.or_eq_true, Eng.sEq_dec, Bool.not_true, Bool.not_false, gt_iff_lt, ge_iff_le] at *)
      split <;> omega
    have hN : M.wrap .i64 (M.sub (M.minI (M.wrap .i64 (M.add y 1)) (M.wrap .i64 (M.add (M.sLen s) 1))) 1) = q := by
      rw [hR]
      (try subst hM); (try simp only [Eng.ncast] at *); (try simp only [Eng.nI_eq] at *); (try simp only [Eng.real, decide_eq_true_eq, decide_eq_false_iff_not, Bool.not_eq_true', Bool.not_eq_false', Bool.and_eq_true, Bool.or_eq_true, Eng.sEq_dec, Bool.not_true, Bool.not_false, gt_iff_lt, ge_iff_le] at *)
      rw [w64 (by omega)]; omega
    refine ⟨by (try subst hM); (try simp only [Eng.ncast] at *); (try simp only [Eng.nI_eq] at *); (try simp only [Eng.real, decide_eq_true_eq, decide_eq_false_iff_not, Bool.not_eq_true', Bool.not_eq_false', Bool.and_eq_true, Bool.or_eq_true, Eng.sEq_dec, Bool.not_true, Bool.not_false, gt_iff_lt, ge_iff_le] at *), ?_, ?_⟩
    · have h2 : M.makes (M.minI (M.wrap .i64 (M.add y 1)) (M.wrap .i64 (M.add (M.sLen s) 1))) := by
        rw [hR]
        (try subst hM); (try simp only [Eng.ncast] at *); (try simp only [Eng.nI_eq] at *); (try simp only [Eng.real, decide_eq_true_eq, decide_eq_false_iff_not, Bool.not_eq_true', Bool.not_eq_false', Bool.and_eq_true, Bool.or_eq_true, Eng.sEq_dec, Bool.not_true, Bool.not_false, gt_iff_lt, ge_iff_le] at *)
        omega
      exact h2
    refine ⟨fun m Γ => ∃ (i p : Nat) (j : Int) (t : ByteArray) (a : List ByteArray), j = i ∧ p ≤ s.size ∧ t = s.extract p s.size ∧ i + (s.data.toList.drop p).count 32 ≤ q ∧ a.length = q + 1 ∧ a.take i ++ cutsN s 32 (s.size - p) p p = cuts s 32 ∧ m = s.size - p ∧
      Γ = ⟨66, [(0, .pv [] .str t), (1, .pv [] .str sep), (2, .pv [] (.int .i64) sv), (3, .pv [] (.int .i64) (M.wrap .i64 (M.sub (M.minI (M.wrap .i64 (M.add y 1)) (M.wrap .i64 (M.add (M.sLen s) 1))) 1))), (9, .ref 0), (10, .pv [] (.int .i64) j)], [(0, .row 0 .str a)], [.hole 0, .hole 0, .hole 0, .hole 0]⟩,
      ⟨_, 0, 0, 0, s, _, rfl, Nat.zero_le _, ?_, ?_, ?_, ?_, rfl, rfl⟩, ?_⟩
    · exact (ext_all s).symm
    · rw [← hqe]; simp
    · have : (M.rep (M.minI (M.wrap .i64 (M.add y 1)) (M.wrap .i64 (M.add (M.sLen s) 1))) (⟨#[]⟩ : ByteArray)).length = q + 1 := by
        rw [hR, ← hM]
        simp [real]
      exact this
    · rfl
    rintro m _ ⟨i, p, j, t, a, hj, hp, ht, hc, ha, hcut, rfl, rfl⟩ -
    have htl : t.data.toList = s.data.toList.drop p := by rw [ht]; exact ext_drop s p
    have hts : t.size = s.size - p := by rw [ht, ByteArray.size_extract]; omega
    cbv
    -- the last piece
    have hlast : i ≤ q → (∀ b ∈ t.data.toList, b ≠ 32) →
        M.le 0 j ∧ M.lt j (M.ofN (M.len a)) ∧ M.le 0 j ∧ M.lt j (M.ofN (M.len a)) ∧ M.le 0 (M.wrap .i64 (M.add j 1)) ∧ M.le (M.wrap .i64 (M.add j 1)) (M.ofN (M.len (M.set a j t))) ∧ M.cut (M.set a j t) 0 (M.wrap .i64 (M.add j 1)) = cuts s 32 := by
      intro hiq hno
      have hwj : M.wrap .i64 (M.add j 1) = i + 1 := by
        (try subst hM); (try simp only [Eng.ncast] at *); (try simp only [Eng.nI_eq] at *); (try simp only [Eng.real, decide_eq_true_eq, decide_eq_false_iff_not, Bool.not_eq_true', Bool.not_eq_false', Bool.and_eq_true, Bool.or_eq_true, Eng.sEq_dec, Bool.not_true, Bool.not_false, gt_iff_lt, ge_iff_le] at *)
        rw [w64 (by omega)]; omega
      rw [hwj]
      refine ⟨by (try subst hM); (try simp only [Eng.ncast] at *); (try simp only [Eng.nI_eq] at *); (try simp only [Eng.real, decide_eq_true_eq, decide_eq_false_iff_not, Bool.not_eq_true', Bool.not_eq_false', Bool.and_eq_true, Bool.or_eq_true, Eng.sEq_dec, Bool.not_true, Bool.not_false, gt_iff_lt, ge_iff_le] at *); omega, by (try subst hM); (try simp only [Eng.ncast] at *); (try simp only [Eng.nI_eq] at *); (try simp only [Eng.real, decide_eq_true_eq, decide_eq_false_iff_not, Bool.not_eq_true', Bool.not_eq_false', Bool.and_eq_true, Bool.or_eq_true, Eng.sEq_dec, Bool.not_true, Bool.not_false, gt_iff_lt, ge_iff_le] at *); omega, by (try subst hM); (try simp only [Eng.ncast] at *); (try simp only [Eng.nI_eq] at *); (try simp only [Eng.real, decide_eq_true_eq, decide_eq_false_iff_not, Bool.not_eq_true', Bool.not_eq_false', Bool.and_eq_true, Bool.or_eq_true, Eng.sEq_dec, Bool.not_true, Bool.not_false, gt_iff_lt, ge_iff_le] at *); omega, by (try subst hM); (try simp only [Eng.ncast] at *); (try simp only [Eng.nI_eq] at *); (try simp only [Eng.real, decide_eq_true_eq, decide_eq_false_iff_not, Bool.not_eq_true', Bool.not_eq_false', Bool.and_eq_true, Bool.or_eq_true, Eng.sEq_dec, Bool.not_true, Bool.not_false, gt_iff_lt, ge_iff_le] at *); omega, by (try subst hM); (try simp only [Eng.ncast] at *); (try simp only [Eng.nI_eq] at *); (try simp only [Eng.real, decide_eq_true_eq, decide_eq_false_iff_not, Bool.not_eq_true', Bool.not_eq_false', Bool.and_eq_true, Bool.or_eq_true, Eng.sEq_dec, Bool.not_true, Bool.not_false, gt_iff_lt, ge_iff_le] at *); omega, ?_, ?_⟩
      · (try subst hM); (try simp only [Eng.ncast] at *); (try simp only [Eng.nI_eq] at *); (try simp only [Eng.real, decide_eq_true_eq, decide_eq_false_iff_not, Bool.not_eq_true', Bool.not_eq_false', Bool.and_eq_true, Bool.or_eq_true, Eng.sEq_dec, Bool.not_true, Bool.not_false, gt_iff_lt, ge_iff_le] at *)
        rw [List.length_set]; omega
      · rw [cuts_lastb s 32 p hp (by rw [← htl]; exact hno), ← ht] at hcut
        (try subst hM); (try simp only [Eng.ncast] at *); (try simp only [Eng.nI_eq] at *); (try simp only [Eng.real, decide_eq_true_eq, decide_eq_false_iff_not, Bool.not_eq_true', Bool.not_eq_false', Bool.and_eq_true, Bool.or_eq_true, Eng.sEq_dec, Bool.not_true, Bool.not_false, gt_iff_lt, ge_iff_le] at *)
        rw [← hcut, hj]
        simp only [Int.toNat_natCast, Int.toNat_zero, List.drop_zero, Nat.sub_zero]
        have e1 : ((i : Int) + 1).toNat = i + 1 := by omega
        rw [e1, List.take_add_one, List.getElem?_set_self (by omega), List.take_set_of_le (by omega)]; rfl
    refine splM (fun h => ?_) (fun h => ?_) <;> cbv
    · have hiq : i < q := by
        have := h
        have h3 : M.dec (M.lt j (M.wrap .i64 (M.sub (M.minI (M.wrap .i64 (M.add y 1)) (M.wrap .i64 (M.add (M.sLen s) 1))) 1))) = true := h
        rw [hN] at h3
        clear h this
        (try subst hM); (try simp only [Eng.ncast] at *); (try simp only [Eng.nI_eq] at *); (try simp only [Eng.real, decide_eq_true_eq, decide_eq_false_iff_not, Bool.not_eq_true', Bool.not_eq_false', Bool.and_eq_true, Bool.or_eq_true, Eng.sEq_dec, Bool.not_true, Bool.not_false, gt_iff_lt, ge_iff_le] at *)
        omega
      clear h
      refine ⟨fun _ => hsep, ?_⟩
      rintro ⟨(z : Int), ⟨⟩⟩ x' (hz : z = Lib.indexByte t.data.toList 32) - -
      cbv
      refine splM (fun h => ?_) (fun h => ?_) <;> cbv
      · have hz0 : z < 0 := by (try subst hM); (try simp only [Eng.ncast] at *); (try simp only [Eng.nI_eq] at *); (try simp only [Eng.real, decide_eq_true_eq, decide_eq_false_iff_not, Bool.not_eq_true', Bool.not_eq_false', Bool.and_eq_true, Bool.or_eq_true, Eng.sEq_dec, Bool.not_true, Bool.not_false, gt_iff_lt, ge_iff_le] at *); exact h
        have hno : ∀ b ∈ t.data.toList, b ≠ 32 := by
          rcases idx_spec 32 t.data.toList with ⟨_, h2⟩ | ⟨m, _, h2, _⟩
          · exact h2
          · omega
        obtain ⟨g1, g2, g3, g4, g5, g6, g7⟩ := hlast (by omega) hno
        exact ⟨g1, g2, g3, g4, g5, g6, fun _ => g7⟩
      · have hz0 : ¬ z < 0 := by (try subst hM); (try simp only [Eng.ncast] at *); (try simp only [Eng.nI_eq] at *); (try simp only [Eng.real, decide_eq_true_eq, decide_eq_false_iff_not, Bool.not_eq_true', Bool.not_eq_false', Bool.and_eq_true, Bool.or_eq_true, Eng.sEq_dec, Bool.not_true, Bool.not_false, gt_iff_lt, ge_iff_le] at *); exact h
        obtain ⟨m, hm1, hm2, hm3, hm4⟩ : ∃ m, m < t.data.toList.length ∧ Lib.indexByte t.data.toList 32 = (m : Int) ∧ t.data.toList[m]? = some 32 ∧ ∀ k < m, t.data.toList[k]? ≠ some 32 := by
          rcases idx_spec 32 t.data.toList with ⟨h1, _⟩ | h2
          · omega
          · exact h2
        have hmt : m < t.size := hm1
        have hzm : z = m := by omega
        have hw3 : M.wrap .i64 (M.add z sv) = m := by
          (try subst hM); (try simp only [Eng.ncast] at *); (try simp only [Eng.nI_eq] at *); (try simp only [Eng.real, decide_eq_true_eq, decide_eq_false_iff_not, Bool.not_eq_true', Bool.not_eq_false', Bool.and_eq_true, Bool.or_eq_true, Eng.sEq_dec, Bool.not_true, Bool.not_false, gt_iff_lt, ge_iff_le] at *)
          rw [w64 (by omega)]; omega
        have hw4 : M.wrap .i64 (M.add z (M.sLen sep)) = m + 1 := by
          have : sep.size = 1 := by rw [hsep]; rfl
          (try subst hM); (try simp only [Eng.ncast] at *); (try simp only [Eng.nI_eq] at *); (try simp only [Eng.real, decide_eq_true_eq, decide_eq_false_iff_not, Bool.not_eq_true', Bool.not_eq_false', Bool.and_eq_true, Bool.or_eq_true, Eng.sEq_dec, Bool.not_true, Bool.not_false, gt_iff_lt, ge_iff_le] at *)
          rw [w64 (by omega)]; omega
        have hw5 : M.wrap .i64 (M.add j 1) = i + 1 := by
          (try subst hM); (try simp only [Eng.ncast] at *); (try simp only [Eng.nI_eq] at *); (try simp only [Eng.real, decide_eq_true_eq, decide_eq_false_iff_not, Bool.not_eq_true', Bool.not_eq_false', Bool.and_eq_true, Bool.or_eq_true, Eng.sEq_dec, Bool.not_true, Bool.not_false, gt_iff_lt, ge_iff_le] at *)
          rw [w64 (by omega)]; omega
        have g : M.le 0 0 ∧ M.le 0 (M.wrap .i64 (M.add z sv)) ∧ M.le (M.wrap .i64 (M.add z sv)) (M.sLen t) ∧ M.le 0 j ∧ M.lt j (M.ofN (M.len a)) ∧ M.le 0 (M.wrap .i64 (M.add z (M.sLen sep))) ∧ M.le (M.wrap .i64 (M.add z (M.sLen sep))) (M.sLen t) ∧ M.le (M.sLen t) (M.sLen t) := by
          rw [hw3, hw4]
          refine ⟨by (try subst hM); (try simp only [Eng.ncast] at *); (try simp only [Eng.nI_eq] at *); (try simp only [Eng.real, decide_eq_true_eq, decide_eq_false_iff_not, Bool.not_eq_true', Bool.not_eq_false', Bool.and_eq_true, Bool.or_eq_true, Eng.sEq_dec, Bool.not_true, Bool.not_false, gt_iff_lt, ge_iff_le] at *); omega, by (try subst hM); (try simp only [Eng.ncast] at *); (try simp only [Eng.nI_eq] at *); (try simp only [Eng.real, decide_eq_true_eq, decide_eq_false_iff_not, Bool.not_eq_true', Bool.not_eq_false', Bool.and_eq_true, Bool.or_eq_true, Eng.sEq_dec, Bool.not_true, Bool.not_false, gt_iff_lt, ge_iff_le] at *); omega, by (try subst hM); (try simp only [Eng.ncast] at *); (try simp only [Eng.nI_eq] at *); (try simp only [Eng.real, decide_eq_true_eq, decide_eq_false_iff_not, Bool.not_eq_true', Bool.not_eq_false', Bool.and_eq_true, Bool.or_eq_true, Eng.sEq_dec, Bool.not_true, Bool.not_false, gt_iff_lt, ge_iff_le] at *); omega, by (try subst hM); (try simp only [Eng.ncast] at *); (try simp only [Eng.nI_eq] at *); (try simp only [Eng.real, decide_eq_true_eq, decide_eq_false_iff_not, Bool.not_eq_true', Bool.not_eq_false', Bool.and_eq_true, Bool.or_eq_true, Eng.sEq_dec, Bool.not_true, Bool.not_false, gt_iff_lt, ge_iff_le] at *); omega, by (try subst hM); (try simp only [Eng.ncast] at *); (try simp only [Eng.nI_eq] at *); (try simp only [Eng.real, decide_eq_true_eq, decide_eq_false_iff_not, Bool.not_eq_true', Bool.not_eq_false', Bool.and_eq_true, Bool.or_eq_true, Eng.sEq_dec, Bool.not_true, Bool.not_false, gt_iff_lt, ge_iff_le] at *); omega, by (try subst hM); (try simp only [Eng.ncast] at *); (try simp only [Eng.nI_eq] at *); (try simp only [Eng.real, decide_eq_true_eq, decide_eq_false_iff_not, Bool.not_eq_true', Bool.not_eq_false', Bool.and_eq_true, Bool.or_eq_true, Eng.sEq_dec, Bool.not_true, Bool.not_false, gt_iff_lt, ge_iff_le] at *); omega, by (try subst hM); (try simp only [Eng.ncast] at *); (try simp only [Eng.nI_eq] at *); (try simp only [Eng.real, decide_eq_true_eq, decide_eq_false_iff_not, Bool.not_eq_true', Bool.not_eq_false', Bool.and_eq_true, Bool.or_eq_true, Eng.sEq_dec, Bool.not_true, Bool.not_false, gt_iff_lt, ge_iff_le] at *); omega, by (try subst hM); (try simp only [Eng.ncast] at *); (try simp only [Eng.nI_eq] at *); (try simp only [Eng.real, decide_eq_true_eq, decide_eq_false_iff_not, Bool.not_eq_true', Bool.not_eq_false', Bool.and_eq_true, Bool.or_eq_true, Eng.sEq_dec, Bool.not_true, Bool.not_false, gt_iff_lt, ge_iff_le] at *); omega⟩
        obtain ⟨g1, g2, g3, g4, g5, g6, g7, g8⟩ := g
        refine ⟨g1, g2, g3, g4, g5, g4, g5, g6, g7, g8, _, ?_, i + 1, p + m + 1, M.wrap .i64 (M.add j 1), M.sCut t (M.wrap .i64 (M.add z (M.sLen sep))) (M.sLen t), M.set a j (M.sCut t 0 (M.wrap .i64 (M.add z sv))), ?_, ?_, ?_, ?_, ?_, ?_, rfl, rfl⟩
        · omega
        · rw [hw5]; (try subst hM); (try simp only [Eng.ncast] at *); (try simp only [Eng.nI_eq] at *); (try simp only [Eng.real, decide_eq_true_eq, decide_eq_false_iff_not, Bool.not_eq_true', Bool.not_eq_false', Bool.and_eq_true, Bool.or_eq_true, Eng.sEq_dec, Bool.not_true, Bool.not_false, gt_iff_lt, ge_iff_le] at *); omega
        · omega
        · rw [hw4, ← hM, ht]
          show (s.extract p s.size).extract ((m : Int) + 1).toNat ((s.extract p s.size).size : Int).toNat = _
          have e1 : ((m : Int) + 1).toNat = m + 1 := by omega
          rw [e1, Int.toNat_natCast, ByteArray.size_extract, ByteArray.extract_extract]
          congr 1 <;> omega
        · have := count_stepb s.data.toList p m (by rw [← htl]; exact hm3)
          omega
        · rw [← hM]
          show (a.set _ _).length = _
          rw [List.length_set]; exact ha
        · have hstep := cuts_stepb s p m (by omega) (by rw [← htl]; exact hm3) (by rw [← htl]; exact hm4)
          rw [hstep] at hcut
          rw [hw3, ← hM, ← hcut, ht]
          show (a.set j.toNat ((s.extract p s.size).extract (0 : Int).toNat ((m : Nat) : Int).toNat)).take (i + 1) ++ _ = _
          rw [hj, Int.toNat_natCast, Int.toNat_natCast, Int.toNat_zero, List.take_add_one, List.getElem?_set_self (by omega), List.take_set_of_le (by omega), ByteArray.extract_extract]
          have e2 : s.extract (p + 0) (min (p + m) s.size) = s.extract p (p + m) := by congr 1; omega
          rw [e2]
          simp
    · have hiq : q ≤ i := by
        have h3 : M.dec (M.lt j (M.wrap .i64 (M.sub (M.minI (M.wrap .i64 (M.add y 1)) (M.wrap .i64 (M.add (M.sLen s) 1))) 1))) = false := h
        rw [hN] at h3
        clear h
        (try subst hM); (try simp only [Eng.ncast] at *); (try simp only [Eng.nI_eq] at *); (try simp only [Eng.real, decide_eq_true_eq, decide_eq_false_iff_not, Bool.not_eq_true', Bool.not_eq_false', Bool.and_eq_true, Bool.or_eq_true, Eng.sEq_dec, Bool.not_true, Bool.not_false, gt_iff_lt, ge_iff_le] at *)
        omega
      have hno : ∀ b ∈ t.data.toList, b ≠ 32 := by
        intro b hb he
        rw [htl, he] at hb
        have := List.count_pos_iff.2 hb
        omega
      obtain ⟨g1, g2, g3, g4, g5, g6, g7⟩ := hlast (by omega) hno
      exact ⟨g1, g2, g3, g4, g5, g6, fun _ => g7⟩
  · exfalso; (try subst hM); (try simp only [Eng.ncast] at *); (try simp only [Eng.nI_eq] at *); (try simp only [Eng.real, decide_eq_true_eq, decide_eq_false_iff_not, Bool.not_eq_true', Bool.not_eq_false', Bool.and_eq_true, Bool.or_eq_true, Eng.sEq_dec, Bool.not_true, Bool.not_false, gt_iff_lt, ge_iff_le] at *); omega
def c15b : Con := Con.of ⟨[(false, 0, .str), (false, 0, .str)], [(1, .sl .str)], fun x => x.1.size ≤ 1048576 ∧ x.2.1 = slashb, fun x y _ => y.1 = cuts x.1 32⟩
theorem ok15b : FnOK Tryd.prog 15 c15b := by
  refine FnOK.of_vc mixed tabOk (.cons en25 ok25b .nil) Tryd.func15 rfl (by decide) lv15 hd15 ?_
  rintro ⟨(s : ByteArray), (sep : ByteArray), ⟨⟩⟩ ⟨(hs : s.size ≤ 1048576), (hsep : sep = slashb)⟩ hwf
  generalize hM : real = M
  cbv
  refine ⟨fun _ => ⟨hs, hsep, rfl, rfl⟩, ?_⟩
  rintro ⟨(y : List ByteArray), ⟨⟩⟩ x' (hy : y = cuts s 32) - -
  cbv
  exact fun _ => hy
end Go.Proofs.YtjpeblicfhfniaaDoor.EngTab
