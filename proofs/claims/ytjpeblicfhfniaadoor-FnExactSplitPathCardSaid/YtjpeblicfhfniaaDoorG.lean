/- goodName, by hand: a range over a string. -/
import Derived.Test.YtjpeblicfhfniaaDoorA
import Derived.WalkKit
import Derived.Laws.RangeString
import Derived.Laws.RangeAny
import Derived.LoopTactic
namespace Go.Proofs.YtjpeblicfhfniaaDoor.EngTab
open Go.Proofs.YtjpeblicfhfniaaDoor.Eng
set_option linter.unusedVariables false
set_option linter.unusedSimpArgs false
theorem isEmpty_size {s : ByteArray} (h : s.toList.isEmpty = true) : s.size = 0 := by
  rw [ByteArray.toList_eq, List.isEmpty_iff] at h
  have := congrArg List.length h
  simpa using this
theorem not_isEmpty_size {s : ByteArray} (h : s.toList.isEmpty = false) : s.size ≠ 0 := by
  intro h0
  rw [ByteArray.toList_eq] at h
  have : s.data.toList = [] := List.eq_nil_of_length_eq_zero h0
  rw [this] at h; cases h
set_option maxRecDepth 1000000 in
theorem walk16 (s : ByteArray) (w : World) (hs : s.size ≤ 1048576) (hno : ∀ k < s.size, byteAt s (k : Int) ≠ 47) :
    Calls Tryd.prog 16 #[.string s] w fun e w' => e = .returned (.int .i64 (nameC s)) ∧ (w' = w ∨ ∃ pos, w' = w.iter s pos) := by
  go_enter Tryd.func16, Tryd.ntmps16
  go_wp2
  · have h0 : s.size = 0 := isEmpty_size (by assumption)
    have e : nameC s = 12 := by unfold nameC; rw [if_pos h0]
    go_ret
    exact ⟨by rw [e]; rfl, .inl rfl⟩
  have h0 : s.size ≠ 0 := not_isEmpty_size (by assumption)
  go_loopw [2] (fun n w' => ∃ (pos : Nat), w' = w.iter s pos ∧ n = .int .i64 0 ∧ pos ≤ s.size ∧ nameAll s (s.size - pos) pos = nameAll s s.size 0) (fun _ w' => s.size - w'.iterPos w.heap.size)
  case atStart => exact ⟨0, rfl, rfl, Nat.zero_le _, rfl⟩
  case round =>
    obtain ⟨pos, rfl, rfl, hle, hc⟩ := hrel
    by_cases hp : pos < s.size
    · have hnx : ∀ ty, (Instr.next (.pointer (some ⟨w.heap.size, 0, none⟩)) true ty).run Tryd.prog (w.iter s pos) = _ := fun ty => run_next_any w s pos ty hp
      have hst : nameAll s (s.size - pos) pos = (nameB (byteAt s pos) && nameAll s (s.size - (pos + 1)) (pos + 1)) := by
        rw [show s.size - pos = (s.size - (pos + 1)) + 1 by omega]; rfl
      have hba : byteAt s pos = ((s[pos]'hp).toNat : Int) := by
        unfold byteAt; rw [Int.toNat_natCast, getElem?_pos s pos hp]; rfl
      have hno1 := hno pos hp
      have hbad : nameB (byteAt s pos) = false → nameC s = 12 := by
        intro hb
        have : nameAll s s.size 0 = false := by rw [← hc, hst, hb]; rfl
        unfold nameC; rw [if_neg h0, if_pos this]
      have hdec : ((s[pos]'hp).toNat < 128 ∧ Utf8.decode s pos = ((s[pos]'hp).toNat, 1)) ∨ (128 ≤ (s[pos]'hp).toNat ∧ 128 ≤ (Utf8.decode s pos).1) := by
        by_cases ha : (s[pos]'hp).toNat < 128
        · exact .inl ⟨ha, decode_ascii s pos hp ha⟩
        · exact .inr ⟨by omega, (decode_high s pos hp (by omega)).1⟩
      go_wp2
      · have hr : (126 : Int) < ((Utf8.decode s pos).1 : Int) := by omega
        have e : nameC s = 12 := by
          apply hbad
          rw [hba, nameB, decide_eq_false_iff_not]
          rcases hdec with ⟨h1, h2⟩ | ⟨h1, h2⟩
          · rw [h2] at hr; simp only [] at hr; omega
          · omega
        go_ret
        exact ⟨by rw [e]; rfl, .inr ⟨_, rfl⟩⟩
      · have hr : (33 : Int) ≤ ((Utf8.decode s pos).1 : Int) ∧ ((Utf8.decode s pos).1 : Int) ≤ 126 := by assumption
        have hd2 : (Utf8.decode s pos).2 = 1 ∧ (Utf8.decode s pos).1 = (s[pos]'hp).toNat := by
          rcases hdec with ⟨h1, h2⟩ | ⟨h1, h2⟩
          · rw [h2]; exact ⟨rfl, rfl⟩
          · omega
        have hgood : nameB (byteAt s pos) = true := by
          rw [nameB, decide_eq_true_iff]
          refine ⟨?_, ?_, hno1⟩
          · rw [hba, ← hd2.2]; exact hr.1
          · rw [hba, ← hd2.2]; exact hr.2
        have hie : s.toList.isEmpty = false := by assumption
        go_roundw
        case rel =>
          rw [hie]
          refine ⟨_, _, _, _, _, _, _, _, _, _, _, ⟨pos + (Utf8.decode s pos).2, rfl, rfl, by omega, ?_⟩, rfl⟩
          rw [← hc, hst, hgood, hd2.1]; rfl
        case measure =>
          simp
          omega
      · have hr : ((Utf8.decode s pos).1 : Int) < 33 := by assumption
        have e : nameC s = 12 := by
          apply hbad
          rw [hba, nameB, decide_eq_false_iff_not]
          rcases hdec with ⟨h1, h2⟩ | ⟨h1, h2⟩
          · rw [h2] at hr; simp only [] at hr; omega
          · omega
        go_ret
        exact ⟨by rw [e]; rfl, .inr ⟨_, rfl⟩⟩
    · have hnx : ∀ ty, (Instr.next (.pointer (some ⟨w.heap.size, 0, none⟩)) true ty).run Tryd.prog (w.iter s pos) = _ := fun ty => run_next_end w s pos ty hp
      have hall : nameAll s s.size 0 = true := by rw [← hc, show s.size - pos = 0 by omega]; rfl
      have hn : nameC s = if s.size > 8 then 4 else 0 := by
        unfold nameC; rw [if_neg h0, if_neg (by rw [hall]; decide)]
      go_wp2
      · have h8 : (8 : Int) < (s.size : Int) := by assumption
        rw [if_pos (by omega)] at hn
        go_ret
        exact ⟨by rw [hn]; rfl, .inr ⟨_, rfl⟩⟩
      · have h8 : (s.size : Int) ≤ 8 := by assumption
        rw [if_neg (by omega)] at hn
        go_ret
        exact ⟨by rw [hn]; rfl, .inr ⟨_, rfl⟩⟩
def c16 : Con := ⟨[(false, 0, .str)], [(0, .int .i64)], fun x => x.1.size ≤ 1048576 ∧ (∀ k < x.1.size, byteAt x.1 k ≠ 47), fun x y _ => y.1 = nameC x.1⟩
theorem nameC_in (s : ByteArray) : InK .i64 (nameC s) := by
  have h : nameC s = 12 ∨ nameC s = 4 ∨ nameC s = 0 := by
    unfold nameC
    split
    · exact .inl rfl
    split
    · exact .inl rfl
    split
    · exact .inr (.inl rfl)
    · exact .inr (.inr rfl)
  unfold InK IntKind.min IntKind.max
  rcases h with h | h | h <;> rw [h] <;> decide
theorem ok16 : FnOK Tryd.prog 16 c16 := by
  refine FnOK.of_calls (by decide) ?_
  intro w Z Bs vals x hA hp
  obtain ⟨_, _, v, _, cs, rfl, rfl, ⟨_, rfl, h1⟩, rfl, _, rfl⟩ := hA
  obtain ⟨h2, h3⟩ := hp
  refine (walk16 x.1 w h2 h3).mono ?_
  rintro e w' ⟨rfl, hw⟩
  refine ⟨_, (nameC x.1, ()), [[]], rfl, rfl, ?_, rfl, ret_int (nameC_in _)⟩
  rcases hw with rfl | ⟨pos, rfl⟩
  · exact Frm.refl _ _
  · refine ⟨rfl, rfl, rfl, ?_, ?_⟩
    · show w.heap.size ≤ (w.heap.push _).size
      simp
    · intro k hk _
      show (w.heap.push _)[k]? = _
      rw [Array.getElem?_push_lt hk]; exact (Array.getElem?_eq_getElem hk).symm
end Go.Proofs.YtjpeblicfhfniaaDoor.EngTab
