/- Contracts of ParseLine's functions, seventh text: impl.ParseLine. -/
import Derived.Test.YtjpeblicfhfniaaDoorU
import Derived.Test.YtjpeblicfhfniaaDoorE32
namespace Go.Proofs.YtjpeblicfhfniaaDoor.EngTabP
open Go.Proofs.YtjpeblicfhfniaaDoor.Eng
open Go.Proofs.YtjpeblicfhfniaaDoor.EngTab (byteAt cuts en15 c15b ok15b)
set_option maxRecDepth 100000
set_option linter.unusedVariables false
set_option linter.unusedSimpArgs false
def up (k : ByteArray) : ByteArray := ⟨(k.data.toList.map (· - 32)).toArray⟩
theorem up_size (k : ByteArray) : (up k).size = k.size := by show ((k.data.toList.map _).toArray).size = k.data.size; simp
theorem word_up (s : ByteArray) : wordS s = ((wordI s).1, up (wordI s).2) := by
  have key : ∀ (l : List (ByteArray × Int × ByteArray × Unit)) (a b : ByteArray) (o : Int) (f g : ByteArray) (r : Int × ByteArray), f = up g → r = ((lookB l s).1, up (lookB l s).2) → (if s = a then (o, f) else r) = ((lookB ((a, o, g, ()) :: l) s).1, up (lookB ((a, o, g, ()) :: l) s).2) := by
    intro l a b o f g r hf hr
    unfold lookB
    by_cases h : a = s
    · rw [if_pos h.symm, if_pos h, hf]
    · rw [if_neg (fun e => h e.symm), if_neg h, hr]
  unfold wordS wordI words
  repeat (refine key _ _ ⟨#[]⟩ _ _ _ _ (by decide) ?_)
  rfl
theorem up_at (k : ByteArray) (i : Nat) (h : i < k.size) : byteAt (up k) i = (byteAt k i - 32) % 256 := by
  have e : (up k)[i]? = (k[i]?).map (· - 32) := by
    show ((k.data.toList.map (· - 32)).toArray)[i]? = (k.data[i]?).map (· - 32)
    rw [List.getElem?_toArray, List.getElem?_map, Array.getElem?_toList]
  unfold byteAt
  rw [Int.toNat_natCast, e, getElem?_pos k i h]
  show (((k[i]'h - 32).toNat : Nat) : Int) = (((k[i]'h).toNat : Int) - 32) % 256
  rw [UInt8.toNat_sub]
  have := UInt8.toNat_lt (k[i]'h)
  have h32 : (32 : UInt8).toNat = 32 := rfl
  rw [h32]; omega
/-- What one word does, by its kind as the program writes it. -/
def stepI (k : Int) (w : ByteArray) (f : Fl) : Option Fl :=
  if k = 109 then (if w = ⟨#[45]⟩ then some f else if maskOk w = true then some (f.1, f.2.1, f.2.2.1, f.2.2.2.1, w.size, w) else none)
  else if k = 99 then (if (w.size : Int) = 1 then some (f.1, f.2.1, f.2.2.1, f.2.2.2.1, f.2.2.2.2.1, w) else none)
  else if w = ⟨#[]⟩ then none
  else if k = 116 then (if (num w).2 = true then some ((num w).1, f.2) else none)
  else if k = 111 then (if (num w).2 = true then some (f.1, f.2.1, f.2.2.1, (num w).1, f.2.2.2.2) else none)
  else if k = 108 then (if (num w).2 = true then some (f.1, f.2.1, f.2.2.1, f.2.2.2.1, (num w).1, f.2.2.2.2.2) else none)
  else if k = 112 then some (f.1, w, f.2.2)
  else if k = 113 then some (f.1, f.2.1, w, f.2.2.2)
  else if k = 100 then some (f.1, f.2.1, f.2.2.1, f.2.2.2.1, w.size, w)
  else some f
theorem stepI_nil (k : Int) (f : Fl) : stepI k ⟨#[]⟩ f = none := by
  unfold stepI
  by_cases h1 : k = 109
  · rw [if_pos h1, if_neg (by decide), if_neg (by decide +kernel)]
  rw [if_neg h1]
  by_cases h2 : k = 99
  · rw [if_pos h2, if_neg (by decide)]
  rw [if_neg h2, if_pos rfl]
theorem stepK_up {k : Int} (h0 : 0 ≤ k) (h1 : k < 256) (w : ByteArray) (f : Fl) : stepK ((k - 32) % 256) w f = stepI k w f := by
  have e1 : ((k - 32) % 256 = 77) = (k = 109) := propext (by omega)
  have e2 : ((k - 32) % 256 = 67) = (k = 99) := propext (by omega)
  have e3 : ((k - 32) % 256 = 84) = (k = 116) := propext (by omega)
  have e4 : ((k - 32) % 256 = 79) = (k = 111) := propext (by omega)
  have e5 : ((k - 32) % 256 = 76) = (k = 108) := propext (by omega)
  have e6 : ((k - 32) % 256 = 80) = (k = 112) := propext (by omega)
  have e7 : ((k - 32) % 256 = 81) = (k = 113) := propext (by omega)
  have e8 : ((k - 32) % 256 = 68) = (k = 100) := propext (by omega)
  unfold stepK stepI
  simp only [e1, e2, e3, e4, e5, e6, e7, e8]
theorem byte_range (k : ByteArray) (i : Int) : 0 ≤ byteAt k i ∧ byteAt k i < 256 := by
  unfold byteAt
  cases h : k[i.toNat]? with
  | none => simp
  | some b => have := UInt8.toNat_lt b; simp; omega
def c11 : Con := Con.of ⟨[(false, 0, .str)], [(0, .pair (.int .i64) (.pair (.int .i64) (.pair .str (.pair .str (.pair (.int .i64) (.pair (.int .i64) (.pair .str .unit))))))), (0, .int .i64)], fun _ => True, fun x y _ => (y.1, y.2.1) = parse x.1⟩
set_option maxHeartbeats 8000000 in
theorem ok11 : FnOK Tryd.prog 11 c11 := by
  refine FnOK.of_vc mixed tabOk (.cons en15 ok15b (.cons en21 ok21 (.cons en22 ok22 (.cons en23 ok23 .nil)))) Tryd.func11 rfl (by decide) lv11 hd11 ?_
  rintro ⟨(s : ByteArray), ⟨⟩⟩ - hwf
  clear hwf
  generalize hM : real = M
  cbv
  refine splM (fun h => ?_) (fun h => ?_) <;> cbv
  · have hs : 1500 < s.size := by (try subst hM); (try simp only [Eng.ncast] at *); (try simp only [Eng.nI_eq] at *); (try simp only [Eng.real, decide_eq_true_eq, decide_eq_false_iff_not, Bool.not_eq_true', Bool.not_eq_false', Bool.and_eq_true, Bool.or_eq_true, Eng.sEq_dec, Bool.not_true, Bool.not_false, gt_iff_lt, ge_iff_le] at *); omega
    intro _
    show (cmd 0 f0, (4 : Int)) = parse s
    unfold parse; rw [if_pos hs]
  have hs : s.size ≤ 1500 := by (try subst hM); (try simp only [Eng.ncast] at *); (try simp only [Eng.nI_eq] at *); (try simp only [Eng.real, decide_eq_true_eq, decide_eq_false_iff_not, Bool.not_eq_true', Bool.not_eq_false', Bool.and_eq_true, Bool.or_eq_true, Eng.sEq_dec, Bool.not_true, Bool.not_false, gt_iff_lt, ge_iff_le] at *); omega
  clear h
  refine ⟨fun m Γ => ∃ (i : Nat) (j : Int) (ex : List (Nat × SV)), j = i ∧ i ≤ s.size ∧ lineAll s (s.size - i) i = lineAll s s.size 0 ∧ m = s.size - i ∧ Γ = ⟨130, (0, .pv [] .str s) :: (2, .ad 0 CmdT 0 []) :: (17, .ad 1 .unit 0 []) :: ex, [(0, .box (.consA (.pv [] (.int .i64) 0) (.consA (.pv [] (.int .i64) 0) (.consA (.pv [] .str ⟨#[]⟩) (.consA (.pv [] .str ⟨#[]⟩) (.consA (.pv [] (.int .i64) 0) (.consA (.pv [] (.int .i64) 0) (.consA (.pv [] .str ⟨#[]⟩) .nilA)))))))), (1, .iter s j)], [.hole 0]⟩,
    ⟨_, 0, 0, [], rfl, Nat.zero_le _, rfl, rfl, rfl⟩, ?_⟩
  rintro m _ ⟨i, j, ex, hj, hi, hn, rfl, rfl⟩ -
  cbv
  refine splM (fun h => ?_) (fun h => ?_) <;> cbv
  · have hlt : i < s.size := by (try subst hM); (try simp only [Eng.ncast] at *); (try simp only [Eng.nI_eq] at *); (try simp only [Eng.real, decide_eq_true_eq, decide_eq_false_iff_not, Bool.not_eq_true', Bool.not_eq_false', Bool.and_eq_true, Bool.or_eq_true, Eng.sEq_dec, Bool.not_true, Bool.not_false, gt_iff_lt, ge_iff_le] at *); omega
    clear h
    have hst : lineAll s (s.size - i) i = (decide (32 ≤ byteAt s j ∧ byteAt s j ≤ 126) && lineAll s (s.size - (i + 1)) (i + 1)) := by
      rw [show s.size - i = (s.size - (i + 1)) + 1 by omega]
      simp only [lineAll]; (try subst hM); (try simp only [Eng.ncast] at *); (try simp only [Eng.nI_eq] at *); (try simp only [Eng.real, decide_eq_true_eq, decide_eq_false_iff_not, Bool.not_eq_true', Bool.not_eq_false', Bool.and_eq_true, Bool.or_eq_true, Eng.sEq_dec, Bool.not_true, Bool.not_false, gt_iff_lt, ge_iff_le] at *); rw [hj]
    have hru : (byteAt s j < 128 ∧ M.rune s j = byteAt s j ∧ M.runeW s j = 1) ∨ (128 ≤ byteAt s j ∧ 128 ≤ M.rune s j) := by
      have := rune_at s i hlt
      subst hM
      have hj' : j = (i : Int) := hj
      rw [hj']; exact this
    have hbad : ¬ (32 ≤ byteAt s j ∧ byteAt s j ≤ 126) → (cmd 0 f0, (11 : Int)) = parse s := by
      intro hb
      rw [parse_line (by omega) (by rw [← hn, hst, decide_eq_false hb]; rfl)]
    refine splM (fun h => ?_) (fun h => ?_) <;> cbv
    · have h4 : M.rune s j < 32 := by subst hM; exact dec_iff.1 h
      intro _; exact hbad (by omega)
    have h4 : ¬ M.rune s j < 32 := by subst hM; exact dec_false h
    clear h
    refine splM (fun h => ?_) (fun h => ?_) <;> cbv
    · have h5 : 126 < M.rune s j := by subst hM; exact dec_iff.1 h
      intro _; exact hbad (by omega)
    have h5 : ¬ 126 < M.rune s j := by subst hM; exact dec_false h
    clear h
    obtain ⟨hb7, hr, hw⟩ : byteAt s j < 128 ∧ M.rune s j = byteAt s j ∧ M.runeW s j = 1 := by
      rcases hru with h6 | ⟨_, h6⟩
      · exact h6
      · omega
    rw [hr] at h4 h5
    have h8 : M.add j (M.runeW s j) = ((i + 1 : Nat) : Int) := by
      rw [hw]; clear hst hn hru hr hw hbad; (try subst hM); (try simp only [Eng.ncast] at *); (try simp only [Eng.nI_eq] at *); (try simp only [Eng.real, decide_eq_true_eq, decide_eq_false_iff_not, Bool.not_eq_true', Bool.not_eq_false', Bool.and_eq_true, Bool.or_eq_true, Eng.sEq_dec, Bool.not_true, Bool.not_false, gt_iff_lt, ge_iff_le] at *); omega
    refine ⟨_, ?_, i + 1, _, _, h8, hlt, ?_, rfl, rfl⟩
    · omega
    · rw [← hn, hst, decide_eq_true (by omega)]; rfl
  · have hlt : i = s.size := by (try subst hM); (try simp only [Eng.ncast] at *); (try simp only [Eng.nI_eq] at *); (try simp only [Eng.real, decide_eq_true_eq, decide_eq_false_iff_not, Bool.not_eq_true', Bool.not_eq_false', Bool.and_eq_true, Bool.or_eq_true, Eng.sEq_dec, Bool.not_true, Bool.not_false, gt_iff_lt, ge_iff_le] at *); omega
    have hall : lineAll s s.size 0 = true := by rw [← hn, hlt, Nat.sub_self]; rfl
    refine ⟨fun _ => ⟨(by show s.size ≤ 1048576; omega), rfl⟩, ?_⟩
    rintro ⟨(ws : List ByteArray), ⟨⟩⟩ x' (hws : ws = cuts s 32) - -
    have hwl : 1 ≤ ws.length := by rw [hws]; exact cuts_pos s 32 _ _ _
    have hw5 : ws.length ≤ 1600 := by
      rw [hws]; have := cuts_len' s 32 s.size 0 0; unfold EngTab.cuts; omega
    cbv
    refine ⟨by (try subst hM); (try simp only [Eng.ncast] at *); (try simp only [Eng.nI_eq] at *); (try simp only [Eng.real, decide_eq_true_eq, decide_eq_false_iff_not, Bool.not_eq_true', Bool.not_eq_false', Bool.and_eq_true, Bool.or_eq_true, Eng.sEq_dec, Bool.not_true, Bool.not_false, gt_iff_lt, ge_iff_le] at *); omega, by (try subst hM); (try simp only [Eng.ncast] at *); (try simp only [Eng.nI_eq] at *); (try simp only [Eng.real, decide_eq_true_eq, decide_eq_false_iff_not, Bool.not_eq_true', Bool.not_eq_false', Bool.and_eq_true, Bool.or_eq_true, Eng.sEq_dec, Bool.not_true, Bool.not_false, gt_iff_lt, ge_iff_le] at *); omega, by (try subst hM); (try simp only [Eng.ncast] at *); (try simp only [Eng.nI_eq] at *); (try simp only [Eng.real, decide_eq_true_eq, decide_eq_false_iff_not, Bool.not_eq_true', Bool.not_eq_false', Bool.and_eq_true, Bool.or_eq_true, Eng.sEq_dec, Bool.not_true, Bool.not_false, gt_iff_lt, ge_iff_le] at *); omega, by (try subst hM); (try simp only [Eng.ncast] at *); (try simp only [Eng.nI_eq] at *); (try simp only [Eng.real, decide_eq_true_eq, decide_eq_false_iff_not, Bool.not_eq_true', Bool.not_eq_false', Bool.and_eq_true, Bool.or_eq_true, Eng.sEq_dec, Bool.not_true, Bool.not_false, gt_iff_lt, ge_iff_le] at *); omega, fun _ => trivial, ?_⟩
    rintro ⟨⟨(op : Int), (ks : ByteArray), ⟨⟩⟩, (ok : Bool), ⟨⟩⟩ x2 ⟨hop, hok⟩ - -
    cbv
    have hg0 : M.get ws 0 (⟨#[]⟩ : ByteArray) = (wds s).getD 0 ⟨#[]⟩ := by rw [← hM, hws]; rfl
    have hop1 : op = (wordI (M.get ws 0 (⟨#[]⟩ : ByteArray))).1 := congrArg (fun p : Int × ByteArray × Unit => p.1) hop
    have hks1 : ks = (wordI (M.get ws 0 (⟨#[]⟩ : ByteArray))).2 := congrArg (fun p : Int × ByteArray × Unit => p.2.1) hop
    have hok1 : ok = decide ((wordI (M.get ws 0 (⟨#[]⟩ : ByteArray))).1 ≠ 0) := hok
    clear hop hok
    rw [hg0] at hop1 hks1 hok1
    have hop' : op = EngTabP.op s := by rw [hop1]; unfold EngTabP.op; rw [word_up]
    have hks' : up ks = kinds s := by rw [hks1]; unfold kinds; rw [word_up]
    have hkz : ks.size ≤ 5 := by rw [← up_size, hks']; exact wordS_len _
    have hws' : ws = wds s := hws
    have hok' : ok = true ↔ op ≠ 0 := by rw [hok1, decide_eq_true_iff, hop1]
    clear hg0 hop1 hks1 hok1
    refine splM (fun h => ?_) (fun h => ?_) <;> cbv
    · have ho : op = 0 := by
        have h1 : ok = false := by
          subst hM
          have : (!ok) = true := h
          simpa using this
        rcases Decidable.em (op = 0) with h2 | h2
        · exact h2
        · rw [hok'.2 h2] at h1; cases h1
      intro _
      show (cmd 0 f0, (11 : Int)) = parse s
      rw [parse_word (by omega) hall (.inl (hop'.symm.trans ho))]
    have hokt : ok = true := by
      subst hM
      have : (!ok) = false := h
      simpa using this
    have ho : op ≠ 0 := hok'.1 hokt
    clear h
    refine splM (fun h => ?_) (fun h => ?_) <;> cbv
    · have hlen : ws.length ≠ 1 + ks.size := by
        clear hop' hks' hws hws' hok'
        (try subst hM); (try simp only [Eng.ncast] at *); (try simp only [Eng.nI_eq] at *); (try simp only [Eng.real, decide_eq_true_eq, decide_eq_false_iff_not, Bool.not_eq_true', Bool.not_eq_false', Bool.and_eq_true, Bool.or_eq_true, Eng.sEq_dec, Bool.not_true, Bool.not_false, gt_iff_lt, ge_iff_le] at *)
        rw [w64 (by omega)] at h; omega
      intro _
      show (cmd 0 f0, (11 : Int)) = parse s
      rw [parse_word (by omega) hall (.inr (by rw [← hws', ← hks', up_size]; exact hlen))]
    have hlen : ws.length = 1 + ks.size := by
      clear hop' hks' hws hws' hok'
      (try subst hM); (try simp only [Eng.ncast] at *); (try simp only [Eng.nI_eq] at *); (try simp only [Eng.real, decide_eq_true_eq, decide_eq_false_iff_not, Bool.not_eq_true', Bool.not_eq_false', Bool.and_eq_true, Bool.or_eq_true, Eng.sEq_dec, Bool.not_true, Bool.not_false, gt_iff_lt, ge_iff_le] at *)
      rw [w64 (by omega)] at h; omega
    clear h
    have hfin : ∀ r, scan ws (up ks) ks.size 0 f0 = r → parse s = fin op r := by
      intro r hr
      rw [parse_scan (r := r) (by omega) hall (by rw [← hop']; exact ho) (by rw [← hws', ← hks', up_size]; exact hlen) (by rw [← hws', ← hks', up_size]; exact hr), ← hop']
    have hcl : M.len (M.cut ws 1 (M.ofN (M.len ws))) = ks.size := by
      rw [← hM]; show ((ws.drop 1).take _).length = _
      show ((ws.drop 1).take (ws.length - 1)).length = ks.size
      rw [List.length_take, List.length_drop]; omega
    refine ⟨by (try subst hM); (try simp only [Eng.ncast] at *); (try simp only [Eng.nI_eq] at *); (try simp only [Eng.real, decide_eq_true_eq, decide_eq_false_iff_not, Bool.not_eq_true', Bool.not_eq_false', Bool.and_eq_true, Bool.or_eq_true, Eng.sEq_dec, Bool.not_true, Bool.not_false, gt_iff_lt, ge_iff_le] at *); omega, by (try subst hM); (try simp only [Eng.ncast] at *); (try simp only [Eng.nI_eq] at *); (try simp only [Eng.real, decide_eq_true_eq, decide_eq_false_iff_not, Bool.not_eq_true', Bool.not_eq_false', Bool.and_eq_true, Bool.or_eq_true, Eng.sEq_dec, Bool.not_true, Bool.not_false, gt_iff_lt, ge_iff_le] at *); omega, by (try subst hM); (try simp only [Eng.ncast] at *); (try simp only [Eng.nI_eq] at *); (try simp only [Eng.real, decide_eq_true_eq, decide_eq_false_iff_not, Bool.not_eq_true', Bool.not_eq_false', Bool.and_eq_true, Bool.or_eq_true, Eng.sEq_dec, Bool.not_true, Bool.not_false, gt_iff_lt, ge_iff_le] at *); omega, ?_⟩
    refine ⟨fun m Γ => ∃ (i : Nat) (j f1 f4 f5 : Int) (f2 f3 f6 : ByteArray) (ex : List (Nat × SV)) (b8 : Bool), b8 = true ∧ j = i ∧ i ≤ ks.size ∧ scan ws (up ks) (ks.size - i) i (f1, f2, f3, f4, f5, f6) = scan ws (up ks) ks.size 0 f0 ∧ m = ks.size - i ∧
      Γ = ⟨130, (2, .ad 0 CmdT 0 []) :: (7, .ad 1 (.pair (.int .i64) (.pair .str .unit)) 0 []) :: (8, .pv [] .bool b8) :: (9, .ad 3 CmdT 0 []) :: (53, .pv [2] (.sl .str) (M.cut ws 1 (M.ofN (M.len ws)))) :: (54, .pv [] (.int .i64) (M.ofN (M.len (M.cut ws 1 (M.ofN (M.len ws)))))) :: (55, .pv [] (.int .i64) j) :: ex,
        [(0, .box (.consA (.pv [] (.int .i64) 0) (.consA (.pv [] (.int .i64) 0) (.consA (.pv [] .str ⟨#[]⟩) (.consA (.pv [] .str ⟨#[]⟩) (.consA (.pv [] (.int .i64) 0) (.consA (.pv [] (.int .i64) 0) (.consA (.pv [] .str ⟨#[]⟩) .nilA)))))))), (1, .box (.consA (.pv [] (.int .i64) op) (.consA (.pv [] .str ks) .nilA))), (2, .row 0 .str ws), (3, .box (.consA (.pv [] (.int .i64) op) (.consA (.pv [] (.int .i64) f1) (.consA (.pv [] .str f2) (.consA (.pv [] .str f3) (.consA (.pv [] (.int .i64) f4) (.consA (.pv [] (.int .i64) f5) (.consA (.pv [] .str f6) .nilA))))))))], [.hole 0]⟩,
      ⟨_, 0, 0, 0, 0, 0, ⟨#[]⟩, ⟨#[]⟩, ⟨#[]⟩, [], ok, hokt, rfl, Nat.zero_le _, rfl, rfl, rfl⟩, ?_⟩
    clear hlt hn hi hj h
    rintro m _ ⟨i, j, f1, f4, f5, f2, f3, f6, ex, b8, hb8, hj, hi, hn, rfl, rfl⟩ -
    cbv
    refine splM (fun h => ?_) (fun h => ?_) <;> cbv
    · rw [hcl] at h
      have hlt : i < ks.size := by (try subst hM); (try simp only [Eng.ncast] at *); (try simp only [Eng.nI_eq] at *); (try simp only [Eng.real, decide_eq_true_eq, decide_eq_false_iff_not, Bool.not_eq_true', Bool.not_eq_false', Bool.and_eq_true, Bool.or_eq_true, Eng.sEq_dec, Bool.not_true, Bool.not_false, gt_iff_lt, ge_iff_le] at *); omega
      clear h
      have hb1 : M.le 0 j := by (try subst hM); (try simp only [Eng.ncast] at *); (try simp only [Eng.nI_eq] at *); (try simp only [Eng.real, decide_eq_true_eq, decide_eq_false_iff_not, Bool.not_eq_true', Bool.not_eq_false', Bool.and_eq_true, Bool.or_eq_true, Eng.sEq_dec, Bool.not_true, Bool.not_false, gt_iff_lt, ge_iff_le] at *); omega
      have hb2 : M.lt j (M.ofN (M.len (M.cut ws 1 (M.ofN (M.len ws))))) := by rw [hcl]; (try subst hM); (try simp only [Eng.ncast] at *); (try simp only [Eng.nI_eq] at *); (try simp only [Eng.real, decide_eq_true_eq, decide_eq_false_iff_not, Bool.not_eq_true', Bool.not_eq_false', Bool.and_eq_true, Bool.or_eq_true, Eng.sEq_dec, Bool.not_true, Bool.not_false, gt_iff_lt, ge_iff_le] at *); omega
      have hc2 : M.lt j (M.sLen ks) := by (try subst hM); (try simp only [Eng.ncast] at *); (try simp only [Eng.nI_eq] at *); (try simp only [Eng.real, decide_eq_true_eq, decide_eq_false_iff_not, Bool.not_eq_true', Bool.not_eq_false', Bool.and_eq_true, Bool.or_eq_true, Eng.sEq_dec, Bool.not_true, Bool.not_false, gt_iff_lt, ge_iff_le] at *); omega
      obtain ⟨w, hw⟩ : ∃ w : ByteArray, M.get (M.cut ws 1 (M.ofN (M.len ws))) j (⟨#[]⟩ : ByteArray) = w := ⟨_, rfl⟩
      have hwd : ws.getD (i + 1) (⟨#[]⟩ : ByteArray) = w := by
        rw [← hw, hj, ← hM]; show _ = ((ws.drop 1).take (ws.length - 1)).getD (i : Int).toNat _
        rw [Int.toNat_natCast, List.getD_eq_getElem?_getD, List.getD_eq_getElem?_getD, List.getElem?_take, if_pos (by omega), List.getElem?_drop, Nat.add_comm 1 i]
      have hwz : w.size ≤ 1048576 := by
        have hl : i + 1 < ws.length := by omega
        have : w ∈ ws := by rw [← hwd, List.getD_eq_getElem?_getD, List.getElem?_eq_getElem hl]; exact List.getElem_mem hl
        rw [hws] at this
        have := cuts_sz s 32 _ _ _ w this; omega
      have hpre : (M.get (M.cut ws 1 (M.ofN (M.len ws))) j (⟨#[]⟩ : ByteArray)).size ≤ 1048576 := by rw [hw]; exact hwz
      have hst : scan ws (up ks) (ks.size - i) i (f1, f2, f3, f4, f5, f6) = (stepK (byteAt (up ks) i) (ws.getD (i + 1) ⟨#[]⟩) (f1, f2, f3, f4, f5, f6)).bind fun g => scan ws (up ks) (ks.size - (i + 1)) (i + 1) g := by
        rw [show ks.size - i = (ks.size - (i + 1)) + 1 by omega]; rfl
      have hbad : stepK (byteAt (up ks) i) (ws.getD (i + 1) ⟨#[]⟩) (f1, f2, f3, f4, f5, f6) = none → (cmd 0 f0, (11 : Int)) = parse s := by
        intro h0
        rw [hfin none (by rw [← hn, hst, h0]; rfl)]; rfl
      have hj1 : M.wrap .i64 (M.add j 1) = i + 1 := by
        clear hfin hop' hks' hws' hok'
        (try subst hM); (try simp only [Eng.ncast] at *); (try simp only [Eng.nI_eq] at *); (try simp only [Eng.real, decide_eq_true_eq, decide_eq_false_iff_not, Bool.not_eq_true', Bool.not_eq_false', Bool.and_eq_true, Bool.or_eq_true, Eng.sEq_dec, Bool.not_true, Bool.not_false, gt_iff_lt, ge_iff_le] at *)
        rw [w64 (by omega)]; omega
      have hup := up_at ks i hlt
      have hby := byte_range ks i
      refine ⟨hb1, hb2, ?_⟩
      repeat' (first | exact hb1 | exact hb2 | exact hc2 | exact (fun _ => hpre) | (intro _; refine hbad ?_) | refine And.intro ?_ ?_ | (refine splM (fun h => ?_) (fun h => ?_) <;> cbv) | (rintro ⟨(n : Int), (isn : Bool), ⟨⟩⟩ x4 ⟨(hn1 : n = (num (M.get (M.cut ws 1 (M.ofN (M.len ws))) j (⟨#[]⟩ : ByteArray))).1), (hn2 : isn = (num (M.get (M.cut ws 1 (M.ofN (M.len ws))) j (⟨#[]⟩ : ByteArray))).2)⟩ - -; cbv) | (rintro ⟨(mk : Bool), ⟨⟩⟩ x4 (hmk : mk = (decide ((M.get (M.cut ws 1 (M.ofN (M.len ws))) j (⟨#[]⟩ : ByteArray)) = ⟨#[45]⟩) || maskOk (M.get (M.cut ws 1 (M.ofN (M.len ws))) j (⟨#[]⟩ : ByteArray)))) - -; cbv))
      all_goals clear hfin hop' hks' hws' hok' hb1 hb2 hc2 hpre hws hwl hwz hlen hcl
      all_goals first
        | (rw [hwd, hup, stepK_up hby.1 hby.2]
           clear hbad hn hst hj1 hup hby hwd hlt
           (try rw [hw] at hn1 hn2)
           (try rw [hw] at hmk)
           subst hj
           first
             | (unfold stepI byteAt
                (try subst hM); (try simp only [Eng.ncast] at *); (try simp only [Eng.nI_eq] at *); (try simp only [Eng.real, decide_eq_true_eq, decide_eq_false_iff_not, Bool.not_eq_true', Bool.not_eq_false', Bool.and_eq_true, Bool.or_eq_true, Eng.sEq_dec, Bool.not_true, Bool.not_false, gt_iff_lt, ge_iff_le] at *)
                simp_all
                done)
             | (have hw0 : w = ⟨#[]⟩ := by (try subst hM); (try simp only [Eng.ncast] at *); (try simp only [Eng.nI_eq] at *); (try simp only [Eng.real, decide_eq_true_eq, decide_eq_false_iff_not, Bool.not_eq_true', Bool.not_eq_false', Bool.and_eq_true, Bool.or_eq_true, Eng.sEq_dec, Bool.not_true, Bool.not_false, gt_iff_lt, ge_iff_le] at *); simp_all
                rw [hw0]; exact stepI_nil _ _))
        | (intro _; exfalso
           clear hbad hn hst hj1 hup hby hwd
           (try clear hn1 hn2)
           (try clear hmk)
           (try subst hM); (try simp only [Eng.ncast] at *); (try simp only [Eng.nI_eq] at *); (try simp only [Eng.real, decide_eq_true_eq, decide_eq_false_iff_not, Bool.not_eq_true', Bool.not_eq_false', Bool.and_eq_true, Bool.or_eq_true, Eng.sEq_dec, Bool.not_true, Bool.not_false, gt_iff_lt, ge_iff_le] at *)
           simp_all
           done)
        | (refine ⟨_, ?_, i + 1, M.wrap .i64 (M.add j 1), _, _, _, _, _, _, _, _, ?_, hj1, hlt, ?_, rfl, by rfl⟩
           · omega
           · clear hbad hn hst hj1 hup hby hwd
             (try clear hn1 hn2)
             (try clear hmk)
             (try subst hM); (try simp only [Eng.ncast] at *); (try simp only [Eng.nI_eq] at *); (try simp only [Eng.real, decide_eq_true_eq, decide_eq_false_iff_not, Bool.not_eq_true', Bool.not_eq_false', Bool.and_eq_true, Bool.or_eq_true, Eng.sEq_dec, Bool.not_true, Bool.not_false, gt_iff_lt, ge_iff_le] at *)
             simp_all
           · rw [← hn, hst, hwd, hup, stepK_up hby.1 hby.2]
             clear hbad hn hst hj1 hup hby hwd
             (try rw [hw] at hn1 hn2)
             (try rw [hw] at hmk)
             subst hj
             unfold stepI byteAt
             (try subst hM); (try simp only [Eng.ncast] at *); (try simp only [Eng.nI_eq] at *); (try simp only [Eng.real, decide_eq_true_eq, decide_eq_false_iff_not, Bool.not_eq_true', Bool.not_eq_false', Bool.and_eq_true, Bool.or_eq_true, Eng.sEq_dec, Bool.not_true, Bool.not_false, gt_iff_lt, ge_iff_le] at *)
             simp_all)
        | trace_state
    · have h0 := h
      clear h
      refine splM (fun h => ?_) (fun h => ?_) <;> cbv
      · exfalso; subst hM
        have : (!b8) = true := by assumption
        rw [hb8] at this; cases this
      clear h
      rw [hcl] at h0
      have hie : i = ks.size := by (try subst hM); (try simp only [Eng.ncast] at *); (try simp only [Eng.nI_eq] at *); (try simp only [Eng.real, decide_eq_true_eq, decide_eq_false_iff_not, Bool.not_eq_true', Bool.not_eq_false', Bool.and_eq_true, Bool.or_eq_true, Eng.sEq_dec, Bool.not_true, Bool.not_false, gt_iff_lt, ge_iff_le] at *); omega
      intro _
      show (cmd op (f1, f2, f3, f4, f5, f6), (0 : Int)) = parse s
      rw [hfin (some (f1, f2, f3, f4, f5, f6)) (by rw [← hn, hie, Nat.sub_self]; rfl)]; rfl
end Go.Proofs.YtjpeblicfhfniaaDoor.EngTabP
