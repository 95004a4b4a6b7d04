/- Contracts of ParseLine's functions, fourth text: spec.ParseLine. -/
import Derived.Test.YtjpeblicfhfniaaDoorR
import Derived.Test.YtjpeblicfhfniaaDoorB
namespace Go.Proofs.YtjpeblicfhfniaaDoor.EngTabP
open Go.Proofs.YtjpeblicfhfniaaDoor.Eng
open Go.Proofs.YtjpeblicfhfniaaDoor.EngTab (byteAt cuts c13 ok13 en13)
set_option maxRecDepth 100000
set_option linter.unusedVariables false
set_option linter.unusedSimpArgs false
theorem cuts_pos (s : ByteArray) (c : Int) : ∀ (n f i : Nat), 1 ≤ (EngTab.cutsN s c n f i).length
  | 0, f, i => by simp [EngTab.cutsN]
  | n + 1, f, i => by
    simp only [EngTab.cutsN]
    split
    · simp
    · exact cuts_pos s c n f (i + 1)
theorem cuts_len' (s : ByteArray) (c : Int) : ∀ (n f i : Nat), (EngTab.cutsN s c n f i).length ≤ n + 1
  | 0, f, i => by simp [EngTab.cutsN]
  | n + 1, f, i => by
    simp only [EngTab.cutsN]
    split
    · have := cuts_len' s c n (i + 1) (i + 1); simp only [List.length_cons]; omega
    · have := cuts_len' s c n f (i + 1); omega
theorem cuts_sz (s : ByteArray) (c : Int) : ∀ (n f i : Nat), ∀ t ∈ EngTab.cutsN s c n f i, t.size ≤ s.size
  | 0, f, i, t, ht => by
    simp only [EngTab.cutsN, List.mem_singleton] at ht
    subst ht; rw [ByteArray.size_extract]; omega
  | n + 1, f, i, t, ht => by
    simp only [EngTab.cutsN] at ht
    split at ht
    · rcases List.mem_cons.1 ht with rfl | ht
      · rw [ByteArray.size_extract]; omega
      · exact cuts_sz s c n _ _ t ht
    · exact cuts_sz s c n _ _ t ht
theorem wordS_len (s : ByteArray) : (wordS s).2.size ≤ 5 := by
  have aux : ∀ (c : Prop) [Decidable c] (a b : Int × ByteArray), a.2.size ≤ 5 → b.2.size ≤ 5 → (if c then a else b).2.size ≤ 5 := by
    intro c _ a b h1 h2; split <;> assumption
  unfold wordS
  repeat (refine aux _ _ _ (by decide) ?_)
  decide
/-- A command's fields behind its kind: tree, path, second path, offset, length, data. -/
abbrev Fl := Int × ByteArray × ByteArray × Int × Int × ByteArray
/-- What one word does, by its kind; none: it is wrong. -/
def stepK (k : Int) (w : ByteArray) (f : Fl) : Option Fl :=
  if k = 77 then (if w = ⟨#[45]⟩ then some f else if maskOk w = true then some (f.1, f.2.1, f.2.2.1, f.2.2.2.1, w.size, w) else none)
  else if k = 67 then (if (w.size : Int) = 1 then some (f.1, f.2.1, f.2.2.1, f.2.2.2.1, f.2.2.2.2.1, w) else none)
  else if w = ⟨#[]⟩ then none
  else if k = 84 then (if (num w).2 = true then some ((num w).1, f.2) else none)
  else if k = 79 then (if (num w).2 = true then some (f.1, f.2.1, f.2.2.1, (num w).1, f.2.2.2.2) else none)
  else if k = 76 then (if (num w).2 = true then some (f.1, f.2.1, f.2.2.1, f.2.2.2.1, (num w).1, f.2.2.2.2.2) else none)
  else if k = 80 then some (f.1, w, f.2.2)
  else if k = 81 then some (f.1, f.2.1, w, f.2.2.2)
  else if k = 68 then some (f.1, f.2.1, f.2.2.1, f.2.2.2.1, w.size, w)
  else some f
def scan (ws : List ByteArray) (ks : ByteArray) : Nat → Nat → Fl → Option Fl
  | 0, _, f => some f
  | n + 1, i, f => (stepK (byteAt ks i) (ws.getD (i + 1) ⟨#[]⟩) f).bind fun g => scan ws ks n (i + 1) g
/-- All bytes are printable. -/
def lineAll (s : ByteArray) : Nat → Nat → Bool
  | 0, _ => true
  | n + 1, i => decide (32 ≤ byteAt s i ∧ byteAt s i ≤ 126) && lineAll s n (i + 1)
/-- A text read as a command. -/
def f0 : Fl := (0, ⟨#[]⟩, ⟨#[]⟩, 0, 0, ⟨#[]⟩)
abbrev CmdD := Int × Int × ByteArray × ByteArray × Int × Int × ByteArray × Unit
def cmd (op : Int) (f : Fl) : CmdD := (op, f.1, f.2.1, f.2.2.1, f.2.2.2.1, f.2.2.2.2.1, f.2.2.2.2.2, ())
def wds (s : ByteArray) : List ByteArray := cuts s 32
def op (s : ByteArray) : Int := (wordS ((wds s).getD 0 ⟨#[]⟩)).1
def kinds (s : ByteArray) : ByteArray := (wordS ((wds s).getD 0 ⟨#[]⟩)).2
def fin (o : Int) : Option Fl → CmdD × Int
  | some f => (cmd o f, 0)
  | none => (cmd 0 f0, 11)
def parse (s : ByteArray) : CmdD × Int :=
  if 1500 < s.size then (cmd 0 f0, 4)
  else if lineAll s s.size 0 = false then (cmd 0 f0, 11)
  else if op s = 0 ∨ (wds s).length ≠ 1 + (kinds s).size then (cmd 0 f0, 11)
  else fin (op s) (scan (wds s) (kinds s) (kinds s).size 0 f0)
theorem parse_line {s : ByteArray} (h1 : ¬ 1500 < s.size) (h2 : lineAll s s.size 0 = false) : parse s = (cmd 0 f0, 11) := by
  unfold parse; rw [if_neg h1, if_pos h2]
theorem parse_word {s : ByteArray} (h1 : ¬ 1500 < s.size) (h2 : lineAll s s.size 0 = true) (h3 : op s = 0 ∨ (wds s).length ≠ 1 + (kinds s).size) : parse s = (cmd 0 f0, 11) := by
  unfold parse; rw [if_neg h1, if_neg (by rw [h2]; decide), if_pos h3]
theorem parse_scan {s : ByteArray} {r : Option Fl} (h1 : ¬ 1500 < s.size) (h2 : lineAll s s.size 0 = true) (h3 : op s ≠ 0) (h4 : (wds s).length = 1 + (kinds s).size) (h5 : scan (wds s) (kinds s) (kinds s).size 0 f0 = r) :
    parse s = fin (op s) r := by
  unfold parse; rw [if_neg h1, if_neg (by rw [h2]; decide), if_neg (by rintro (h | h); exact h3 h; exact h h4), h5]
def c10 : Con := Con.of ⟨[(false, 0, .str)], [(0, .pair (.int .i64) (.pair (.int .i64) (.pair .str (.pair .str (.pair (.int .i64) (.pair (.int .i64) (.pair .str .unit))))))), (0, .int .i64)], fun _ => True, fun x y _ => (y.1, y.2.1) = parse x.1⟩
set_option maxHeartbeats 8000000 in
theorem ok10 : FnOK Tryd.prog 10 c10 := by
  refine FnOK.of_vc mixed tabOk (.cons en13 ok13 (.cons en18 ok18 (.cons en19 ok19 (.cons en20 ok20 .nil)))) Tryd.func10 rfl (by decide) lv10 hd10 ?_
  rintro ⟨(s : ByteArray), ⟨⟩⟩ - hwf
  clear hwf
  generalize hM : real = M
  cbv
  refine splM (fun h => ?_) (fun h => ?_) <;> cbv
  · have hs : 1500 < s.size := by (try subst hM); (try simp only [Eng.ncast] at *); (try simp only [Eng.nI_eq] at *); (try simp only [Eng.real, decide_eq_true_eq, decide_eq_false_iff_not, Bool.not_eq_true', Bool.not_eq_false', Bool.and_eq_true, Bool.or_eq_true, Eng.sEq_dec, Bool.not_true, Bool.not_false, gt_iff_lt, ge_iff_le] at *); omega
    intro _
    show (cmd 0 f0, (4 : Int)) = parse s
    unfold parse; rw [if_pos hs]
  have hs : s.size ≤ 1500 := by (try subst hM); (try simp only [Eng.ncast] at *); (try simp only [Eng.nI_eq] at *); (try simp only [Eng.real, decide_eq_true_eq, decide_eq_false_iff_not, Bool.not_eq_true', Bool.not_eq_false', Bool.and_eq_true, Bool.or_eq_true, Eng.sEq_dec, Bool.not_true, Bool.not_false, gt_iff_lt, ge_iff_le] at *); omega
  clear h
  refine ⟨fun m Γ => ∃ (i : Nat) (j : Int), j = i ∧ i ≤ s.size ∧ lineAll s (s.size - i) i = lineAll s s.size 0 ∧ m = s.size - i ∧ Γ = ⟨142, [(0, .pv [] .str s), (2, .ad 0 CmdT 0 []), (4, .pv [] (.int .i64) j)], [(0, .box (.consA (.pv [] (.int .i64) 0) (.consA (.pv [] (.int .i64) 0) (.consA (.pv [] .str ⟨#[]⟩) (.consA (.pv [] .str ⟨#[]⟩) (.consA (.pv [] (.int .i64) 0) (.consA (.pv [] (.int .i64) 0) (.consA (.pv [] .str ⟨#[]⟩) .nilA))))))))], [.hole 0]⟩,
    ⟨_, 0, 0, rfl, Nat.zero_le _, rfl, rfl, rfl⟩, ?_⟩
  rintro m _ ⟨i, j, hj, hi, hn, rfl, rfl⟩ -
  cbv
  refine splM (fun h => ?_) (fun h => ?_) <;> cbv
  · have hlt : i < s.size := by (try subst hM); (try simp only [Eng.ncast] at *); (try simp only [Eng.nI_eq] at *); (try simp only [Eng.real, decide_eq_true_eq, decide_eq_false_iff_not, Bool.not_eq_true', Bool.not_eq_false', Bool.and_eq_true, Bool.or_eq_true, Eng.sEq_dec, Bool.not_true, Bool.not_false, gt_iff_lt, ge_iff_le] at *); omega
    clear h
    have hst : lineAll s (s.size - i) i = (decide (32 ≤ byteAt s j ∧ byteAt s j ≤ 126) && lineAll s (s.size - (i + 1)) (i + 1)) := by
      rw [show s.size - i = (s.size - (i + 1)) + 1 by omega]
      simp only [lineAll]; (try subst hM); (try simp only [Eng.ncast] at *); (try simp only [Eng.nI_eq] at *); (try simp only [Eng.real, decide_eq_true_eq, decide_eq_false_iff_not, Bool.not_eq_true', Bool.not_eq_false', Bool.and_eq_true, Bool.or_eq_true, Eng.sEq_dec, Bool.not_true, Bool.not_false, gt_iff_lt, ge_iff_le] at *); rw [hj]
    have hb1 : M.le 0 j := by (try subst hM); (try simp only [Eng.ncast] at *); (try simp only [Eng.nI_eq] at *); (try simp only [Eng.real, decide_eq_true_eq, decide_eq_false_iff_not, Bool.not_eq_true', Bool.not_eq_false', Bool.and_eq_true, Bool.or_eq_true, Eng.sEq_dec, Bool.not_true, Bool.not_false, gt_iff_lt, ge_iff_le] at *); omega
    have hb2 : M.lt j (M.sLen s) := by (try subst hM); (try simp only [Eng.ncast] at *); (try simp only [Eng.nI_eq] at *); (try simp only [Eng.real, decide_eq_true_eq, decide_eq_false_iff_not, Bool.not_eq_true', Bool.not_eq_false', Bool.and_eq_true, Bool.or_eq_true, Eng.sEq_dec, Bool.not_true, Bool.not_false, gt_iff_lt, ge_iff_le] at *); omega
    refine ⟨hb1, hb2, ?_⟩
    refine splM (fun h => ?_) (fun h => ?_) <;> cbv
    · have h3 : byteAt s j < 32 := by (try subst hM); (try simp only [Eng.ncast] at *); (try simp only [Eng.nI_eq] at *); (try simp only [Eng.real, decide_eq_true_eq, decide_eq_false_iff_not, Bool.not_eq_true', Bool.not_eq_false', Bool.and_eq_true, Bool.or_eq_true, Eng.sEq_dec, Bool.not_true, Bool.not_false, gt_iff_lt, ge_iff_le] at *); exact h
      intro _
      show (cmd 0 f0, (11 : Int)) = parse s
      rw [parse_line (by omega)]
      rw [← hn, hst, decide_eq_false (by omega)]; rfl
    have h3 : ¬ byteAt s j < 32 := by (try subst hM); (try simp only [Eng.ncast] at *); (try simp only [Eng.nI_eq] at *); (try simp only [Eng.real, decide_eq_true_eq, decide_eq_false_iff_not, Bool.not_eq_true', Bool.not_eq_false', Bool.and_eq_true, Bool.or_eq_true, Eng.sEq_dec, Bool.not_true, Bool.not_false, gt_iff_lt, ge_iff_le] at *); exact h
    clear h
    refine ⟨hb1, hb2, ?_⟩
    refine splM (fun h => ?_) (fun h => ?_) <;> cbv
    · have h4 : 126 < byteAt s j := by (try subst hM); (try simp only [Eng.ncast] at *); (try simp only [Eng.nI_eq] at *); (try simp only [Eng.real, decide_eq_true_eq, decide_eq_false_iff_not, Bool.not_eq_true', Bool.not_eq_false', Bool.and_eq_true, Bool.or_eq_true, Eng.sEq_dec, Bool.not_true, Bool.not_false, gt_iff_lt, ge_iff_le] at *); exact h
      intro _
      show (cmd 0 f0, (11 : Int)) = parse s
      rw [parse_line (by omega)]
      rw [← hn, hst, decide_eq_false (by omega)]; rfl
    have h4 : ¬ 126 < byteAt s j := by (try subst hM); (try simp only [Eng.ncast] at *); (try simp only [Eng.nI_eq] at *); (try simp only [Eng.real, decide_eq_true_eq, decide_eq_false_iff_not, Bool.not_eq_true', Bool.not_eq_false', Bool.and_eq_true, Bool.or_eq_true, Eng.sEq_dec, Bool.not_true, Bool.not_false, gt_iff_lt, ge_iff_le] at *); exact h
    clear h
    refine ⟨_, ?_, i + 1, M.wrap .i64 (M.add j 1), ?_, hlt, ?_, rfl, rfl⟩
    · omega
    · (try subst hM); (try simp only [Eng.ncast] at *); (try simp only [Eng.nI_eq] at *); (try simp only [Eng.real, decide_eq_true_eq, decide_eq_false_iff_not, Bool.not_eq_true', Bool.not_eq_false', Bool.and_eq_true, Bool.or_eq_true, Eng.sEq_dec, Bool.not_true, Bool.not_false, gt_iff_lt, ge_iff_le] at *)
      rw [w64 (by omega)]; omega
    · rw [← hn, hst, decide_eq_true (by omega)]; rfl
  · have hlt : i = s.size := by (try subst hM); (try simp only [Eng.ncast] at *); (try simp only [Eng.nI_eq] at *); (try simp only [Eng.real, decide_eq_true_eq, decide_eq_false_iff_not, Bool.not_eq_true', Bool.not_eq_false', Bool.and_eq_true, Bool.or_eq_true, Eng.sEq_dec, Bool.not_true, Bool.not_false, gt_iff_lt, ge_iff_le] at *); omega
    have hall : lineAll s s.size 0 = true := by rw [← hn, hlt, Nat.sub_self]; rfl
    refine ⟨fun _ => (by show s.size ≤ 1048576; omega), ?_⟩
    rintro ⟨(ws : List ByteArray), ⟨⟩⟩ x' (hws : ws = cuts s 32) - -
    have hwl : 1 ≤ ws.length := by rw [hws]; exact cuts_pos s 32 _ _ _
    cbv
    refine ⟨by (try subst hM); (try simp only [Eng.ncast] at *); (try simp only [Eng.nI_eq] at *); (try simp only [Eng.real, decide_eq_true_eq, decide_eq_false_iff_not, Bool.not_eq_true', Bool.not_eq_false', Bool.and_eq_true, Bool.or_eq_true, Eng.sEq_dec, Bool.not_true, Bool.not_false, gt_iff_lt, ge_iff_le] at *); omega, by (try subst hM); (try simp only [Eng.ncast] at *); (try simp only [Eng.nI_eq] at *); (try simp only [Eng.real, decide_eq_true_eq, decide_eq_false_iff_not, Bool.not_eq_true', Bool.not_eq_false', Bool.and_eq_true, Bool.or_eq_true, Eng.sEq_dec, Bool.not_true, Bool.not_false, gt_iff_lt, ge_iff_le] at *); omega, by (try subst hM); (try simp only [Eng.ncast] at *); (try simp only [Eng.nI_eq] at *); (try simp only [Eng.real, decide_eq_true_eq, decide_eq_false_iff_not, Bool.not_eq_true', Bool.not_eq_false', Bool.and_eq_true, Bool.or_eq_true, Eng.sEq_dec, Bool.not_true, Bool.not_false, gt_iff_lt, ge_iff_le] at *); omega, by (try subst hM); (try simp only [Eng.ncast] at *); (try simp only [Eng.nI_eq] at *); (try simp only [Eng.real, decide_eq_true_eq, decide_eq_false_iff_not, Bool.not_eq_true', Bool.not_eq_false', Bool.and_eq_true, Bool.or_eq_true, Eng.sEq_dec, Bool.not_true, Bool.not_false, gt_iff_lt, ge_iff_le] at *); omega, fun _ => trivial, ?_⟩
    rintro ⟨(op : Int), (ks : ByteArray), ⟨⟩⟩ x2 ⟨(hop : op = (wordS (M.get ws 0 (⟨#[]⟩ : ByteArray))).1), (hks : ks = (wordS (M.get ws 0 (⟨#[]⟩ : ByteArray))).2)⟩ - -
    cbv
    have hg0 : M.get ws 0 (⟨#[]⟩ : ByteArray) = (wds s).getD 0 ⟨#[]⟩ := by rw [← hM, hws]; rfl
    have hop' : op = EngTabP.op s := by rw [hop, hg0]; rfl
    have hks' : ks = kinds s := by rw [hks, hg0]; rfl
    have hws' : ws = wds s := hws
    refine splM (fun h => ?_) (fun h => ?_) <;> cbv
    · have ho : op = 0 := by (try subst hM); (try simp only [Eng.ncast] at *); (try simp only [Eng.nI_eq] at *); (try simp only [Eng.real, decide_eq_true_eq, decide_eq_false_iff_not, Bool.not_eq_true', Bool.not_eq_false', Bool.and_eq_true, Bool.or_eq_true, Eng.sEq_dec, Bool.not_true, Bool.not_false, gt_iff_lt, ge_iff_le] at *); exact h
      intro _
      show (cmd 0 f0, (11 : Int)) = parse s
      rw [parse_word (by omega) hall (.inl (hop'.symm.trans ho))]
    have ho : op ≠ 0 := by (try subst hM); (try simp only [Eng.ncast] at *); (try simp only [Eng.nI_eq] at *); (try simp only [Eng.real, decide_eq_true_eq, decide_eq_false_iff_not, Bool.not_eq_true', Bool.not_eq_false', Bool.and_eq_true, Bool.or_eq_true, Eng.sEq_dec, Bool.not_true, Bool.not_false, gt_iff_lt, ge_iff_le] at *); exact h
    clear h
    refine splM (fun h => ?_) (fun h => ?_) <;> cbv
    · have hlen : ws.length ≠ 1 + ks.size := by
        have hkz : ks.size ≤ 5 := by rw [hks]; exact wordS_len _
        have hw5 : ws.length ≤ 1600 := by
          rw [hws]; have := cuts_len' s 32 s.size 0 0; unfold EngTab.cuts; omega
        clear hop hks hop' hks' hws hws' hg0
        (try subst hM); (try simp only [Eng.ncast] at *); (try simp only [Eng.nI_eq] at *); (try simp only [Eng.real, decide_eq_true_eq, decide_eq_false_iff_not, Bool.not_eq_true', Bool.not_eq_false', Bool.and_eq_true, Bool.or_eq_true, Eng.sEq_dec, Bool.not_true, Bool.not_false, gt_iff_lt, ge_iff_le] at *)
        rw [w64 (by omega)] at h; omega
      intro _
      show (cmd 0 f0, (11 : Int)) = parse s
      rw [parse_word (by omega) hall (.inr (by rw [← hws', ← hks']; exact hlen))]
    have hlen : ws.length = 1 + ks.size := by
      have hkz : ks.size ≤ 5 := by rw [hks]; exact wordS_len _
      have hw5 : ws.length ≤ 1600 := by
        rw [hws]; have := cuts_len' s 32 s.size 0 0; unfold EngTab.cuts; omega
      clear hop hks hop' hks' hws hws' hg0
      (try subst hM); (try simp only [Eng.ncast] at *); (try simp only [Eng.nI_eq] at *); (try simp only [Eng.real, decide_eq_true_eq, decide_eq_false_iff_not, Bool.not_eq_true', Bool.not_eq_false', Bool.and_eq_true, Bool.or_eq_true, Eng.sEq_dec, Bool.not_true, Bool.not_false, gt_iff_lt, ge_iff_le] at *)
      rw [w64 (by omega)] at h; omega
    clear h
    have hfin : ∀ r, scan ws ks ks.size 0 f0 = r → parse s = fin op r := by
      intro r hr
      rw [parse_scan (r := r) (by omega) hall (by rw [← hop']; exact ho) (by rw [← hws', ← hks']; exact hlen) (by rw [← hws', ← hks']; exact hr), ← hop']
    refine ⟨fun m Γ => ∃ (i : Nat) (j f1 f4 f5 : Int) (f2 f3 f6 : ByteArray), j = i ∧ i ≤ ks.size ∧ scan ws ks (ks.size - i) i (f1, f2, f3, f4, f5, f6) = scan ws ks ks.size 0 (0, ⟨#[]⟩, ⟨#[]⟩, 0, 0, ⟨#[]⟩) ∧ m = ks.size - i ∧
      Γ = ⟨142, [(2, .ad 0 CmdT 0 []), (5, .ref 1), (7, .pv [] .str ks), (8, .ad 2 CmdT 0 []), (9, .pv [] (.int .i64) j)], [(0, .box (.consA (.pv [] (.int .i64) 0) (.consA (.pv [] (.int .i64) 0) (.consA (.pv [] .str ⟨#[]⟩) (.consA (.pv [] .str ⟨#[]⟩) (.consA (.pv [] (.int .i64) 0) (.consA (.pv [] (.int .i64) 0) (.consA (.pv [] .str ⟨#[]⟩) .nilA)))))))), (1, .row 0 .str ws), (2, .box (.consA (.pv [] (.int .i64) op) (.consA (.pv [] (.int .i64) f1) (.consA (.pv [] .str f2) (.consA (.pv [] .str f3) (.consA (.pv [] (.int .i64) f4) (.consA (.pv [] (.int .i64) f5) (.consA (.pv [] .str f6) .nilA))))))))], [.hole 0]⟩,
      ⟨_, 0, 0, 0, 0, 0, ⟨#[]⟩, ⟨#[]⟩, ⟨#[]⟩, rfl, Nat.zero_le _, rfl, rfl, rfl⟩, ?_⟩
    rintro m _ ⟨i, j, f1, f4, f5, f2, f3, f6, hj, hi, hn, rfl, rfl⟩ -
    cbv
    refine splM (fun h => ?_) (fun h => ?_) <;> cbv
    · have hlt : i < ks.size := by (try subst hM); (try simp only [Eng.ncast] at *); (try simp only [Eng.nI_eq] at *); (try simp only [Eng.real, decide_eq_true_eq, decide_eq_false_iff_not, Bool.not_eq_true', Bool.not_eq_false', Bool.and_eq_true, Bool.or_eq_true, Eng.sEq_dec, Bool.not_true, Bool.not_false, gt_iff_lt, ge_iff_le] at *); omega
      clear h
      have hj1 : M.wrap .i64 (M.add j 1) = i + 1 := by
        clear hfin hg0 hop' hks' hws'
        have hkz : ks.size ≤ 5 := by rw [hks]; exact wordS_len _
        (try subst hM); (try simp only [Eng.ncast] at *); (try simp only [Eng.nI_eq] at *); (try simp only [Eng.real, decide_eq_true_eq, decide_eq_false_iff_not, Bool.not_eq_true', Bool.not_eq_false', Bool.and_eq_true, Bool.or_eq_true, Eng.sEq_dec, Bool.not_true, Bool.not_false, gt_iff_lt, ge_iff_le] at *)
        rw [w64 (by omega)]; omega
      have hb1 : M.le 0 (M.wrap .i64 (M.add j 1)) := by rw [hj1]; (try subst hM); (try simp only [Eng.ncast] at *); (try simp only [Eng.nI_eq] at *); (try simp only [Eng.real, decide_eq_true_eq, decide_eq_false_iff_not, Bool.not_eq_true', Bool.not_eq_false', Bool.and_eq_true, Bool.or_eq_true, Eng.sEq_dec, Bool.not_true, Bool.not_false, gt_iff_lt, ge_iff_le] at *); omega
      have hb2 : M.lt (M.wrap .i64 (M.add j 1)) (M.ofN (M.len ws)) := by rw [hj1]; (try subst hM); (try simp only [Eng.ncast] at *); (try simp only [Eng.nI_eq] at *); (try simp only [Eng.real, decide_eq_true_eq, decide_eq_false_iff_not, Bool.not_eq_true', Bool.not_eq_false', Bool.and_eq_true, Bool.or_eq_true, Eng.sEq_dec, Bool.not_true, Bool.not_false, gt_iff_lt, ge_iff_le] at *); omega
      obtain ⟨w, hw⟩ : ∃ w : ByteArray, M.get ws (M.wrap .i64 (M.add j 1)) (⟨#[]⟩ : ByteArray) = w := ⟨_, rfl⟩
      have hwd : ws.getD (i + 1) (⟨#[]⟩ : ByteArray) = w := by
        rw [← hw, hj1, ← hM]; show _ = ws.getD ((i : Int) + 1).toNat _
        rw [show ((i : Int) + 1).toNat = i + 1 by omega]
      have hwz : w.size ≤ 1048576 := by
        have hl : i + 1 < ws.length := by omega
        have : w ∈ ws := by rw [← hwd, List.getD_eq_getElem?_getD, List.getElem?_eq_getElem hl]; exact List.getElem_mem hl
        rw [hws] at this
        have := cuts_sz s 32 _ _ _ w this; omega
      have hpre : (M.get ws (M.wrap .i64 (M.add j 1)) (⟨#[]⟩ : ByteArray)).size ≤ 1048576 := by rw [hw]; exact hwz
      refine ⟨hb1, hb2, hb1, hb2, fun _ => hpre, ?_⟩
      rintro ⟨(n : Int), (isn : Bool), ⟨⟩⟩ x3 ⟨(hn1 : n = (num (M.get ws (M.wrap .i64 (M.add j 1)) (⟨#[]⟩ : ByteArray))).1), (hn2 : isn = (num (M.get ws (M.wrap .i64 (M.add j 1)) (⟨#[]⟩ : ByteArray))).2)⟩ - -
      have hst : scan ws ks (ks.size - i) i (f1, f2, f3, f4, f5, f6) = (stepK (byteAt ks i) (ws.getD (i + 1) ⟨#[]⟩) (f1, f2, f3, f4, f5, f6)).bind fun g => scan ws ks (ks.size - (i + 1)) (i + 1) g := by
        rw [show ks.size - i = (ks.size - (i + 1)) + 1 by omega]; rfl
      have hbad : stepK (byteAt ks i) (ws.getD (i + 1) ⟨#[]⟩) (f1, f2, f3, f4, f5, f6) = none → (cmd 0 f0, (11 : Int)) = parse s := by
        intro h0
        rw [hfin none (by rw [← show _ = scan ws ks ks.size 0 f0 from hn, hst, h0]; rfl)]; rfl
      have hc1 : M.le 0 j := by (try subst hM); (try simp only [Eng.ncast] at *); (try simp only [Eng.nI_eq] at *); (try simp only [Eng.real, decide_eq_true_eq, decide_eq_false_iff_not, Bool.not_eq_true', Bool.not_eq_false', Bool.and_eq_true, Bool.or_eq_true, Eng.sEq_dec, Bool.not_true, Bool.not_false, gt_iff_lt, ge_iff_le] at *); omega
      have hc2 : M.lt j (M.sLen ks) := by (try subst hM); (try simp only [Eng.ncast] at *); (try simp only [Eng.nI_eq] at *); (try simp only [Eng.real, decide_eq_true_eq, decide_eq_false_iff_not, Bool.not_eq_true', Bool.not_eq_false', Bool.and_eq_true, Bool.or_eq_true, Eng.sEq_dec, Bool.not_true, Bool.not_false, gt_iff_lt, ge_iff_le] at *); omega
      cbv
      repeat' (first | exact hc1 | exact hc2 | exact hb1 | exact hb2 | exact (fun _ => trivial) | exact (fun _ => hpre) | (intro _; refine hbad ?_) | refine And.intro ?_ ?_ | (refine splM (fun h => ?_) (fun h => ?_) <;> cbv) | (rintro ⟨(mk : Bool), ⟨⟩⟩ x4 (hmk : mk = maskOk (M.get ws (M.wrap .i64 (M.add j 1)) (⟨#[]⟩ : ByteArray))) - -; cbv))
      all_goals first
        | (rw [hwd]
           clear hbad hfin hop' hks' hws' hg0 hn hst hb1 hb2 hc1 hc2 hpre hop hks hws hwl hwz hlen
           rw [hw] at hn1 hn2
           subst hj
           unfold stepK byteAt
           (try subst hM); (try simp only [Eng.ncast] at *); (try simp only [Eng.nI_eq] at *); (try simp only [Eng.real, decide_eq_true_eq, decide_eq_false_iff_not, Bool.not_eq_true', Bool.not_eq_false', Bool.and_eq_true, Bool.or_eq_true, Eng.sEq_dec, Bool.not_true, Bool.not_false, gt_iff_lt, ge_iff_le] at *)
           simp_all)
        | (refine ⟨_, ?_, i + 1, M.wrap .i64 (M.add j 1), _, _, _, _, _, _, hj1, hlt, ?_, rfl, rfl⟩
           · omega
           · rw [← hn, hst, hwd]
             clear hbad hfin hop' hks' hws' hg0 hn hst hb1 hb2 hc1 hc2 hpre hop hks hws hwl hwz hlen
             rw [hw] at hn1 hn2
             subst hj
             unfold stepK byteAt
             (try subst hM); (try simp only [Eng.ncast] at *); (try simp only [Eng.nI_eq] at *); (try simp only [Eng.real, decide_eq_true_eq, decide_eq_false_iff_not, Bool.not_eq_true', Bool.not_eq_false', Bool.and_eq_true, Bool.or_eq_true, Eng.sEq_dec, Bool.not_true, Bool.not_false, gt_iff_lt, ge_iff_le] at *)
             simp_all)
    · have hie : i = ks.size := by (try subst hM); (try simp only [Eng.ncast] at *); (try simp only [Eng.nI_eq] at *); (try simp only [Eng.real, decide_eq_true_eq, decide_eq_false_iff_not, Bool.not_eq_true', Bool.not_eq_false', Bool.and_eq_true, Bool.or_eq_true, Eng.sEq_dec, Bool.not_true, Bool.not_false, gt_iff_lt, ge_iff_le] at *); omega
      intro _
      show (cmd op (f1, f2, f3, f4, f5, f6), (0 : Int)) = parse s
      rw [hfin (some (f1, f2, f3, f4, f5, f6)) (by rw [← show _ = scan ws ks ks.size 0 f0 from hn, hie, Nat.sub_self]; rfl)]; rfl
end Go.Proofs.YtjpeblicfhfniaaDoor.EngTabP
