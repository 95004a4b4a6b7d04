/- strings.Trim at this program, out of the kit's shelf; its contract for the engine. -/
import Derived.Test.YtjpeblicfhfniaaDoorP
import Derived.Shelf.Strings.SlTrimAscii
namespace Go.Proofs
open Go.Shelf
def Tryd.lays160_ren : Go.Shelf.Ren :=
  { f := fun x => match x with | 160 => 26 | 232 => 31 | 231 => 30 | 227 => 32 | 234 => 34 | 233 => 33 | 236 => 36 | 235 => 35 | 228 => 41 | 271 => 43 | 151 => 42 | 197 => 38 | 120 => 50 | 152 => 49 | 260 => 44 | 137 => 53 | 119 => 54 | 224 => 47 | 225 => 46 | 217 => 45 | 266 => 51 | n => n
    t := fun x => match x with | 9 => 9 | 4 => 4 | 3 => 3 | 5 => 5 | 117 => 55 | 116 => 54 | 0 => 0 | 124 => 58 | 21 => 21 | 105 => 60 | 46 => 65 | 119 => 67 | 139 => 70 | 138 => 69 | n => n
    g := fun x => match x with | 3 => 1 | 4 => 2 | n => n }
theorem Tryd.lays160 : Lays.n160 Tryd.prog Tryd.lays160_ren := {
  mixed := by kernel_rfl
  f119 := Tryd.func54.trans (congrArg some (by kernel_rfl))
  f120 := Tryd.func50.trans (congrArg some (by kernel_rfl))
  f137 := Tryd.func53.trans (congrArg some (by kernel_rfl))
  f151 := Tryd.func42.trans (congrArg some (by kernel_rfl))
  f152 := Tryd.func49.trans (congrArg some (by kernel_rfl))
  f160 := Tryd.func26.trans (congrArg some (by kernel_rfl))
  f197 := Tryd.func38.trans (congrArg some (by kernel_rfl))
  f217 := Tryd.func45.trans (congrArg some (by kernel_rfl))
  f224 := Tryd.func47.trans (congrArg some (by kernel_rfl))
  f225 := Tryd.func46.trans (congrArg some (by kernel_rfl))
  f227 := Tryd.func32.trans (congrArg some (by kernel_rfl))
  f228 := Tryd.func41.trans (congrArg some (by kernel_rfl))
  f231 := Tryd.func30.trans (congrArg some (by kernel_rfl))
  f232 := Tryd.func31.trans (congrArg some (by kernel_rfl))
  f233 := Tryd.func33.trans (congrArg some (by kernel_rfl))
  f234 := Tryd.func34.trans (congrArg some (by kernel_rfl))
  f235 := Tryd.func35.trans (congrArg some (by kernel_rfl))
  f236 := Tryd.func36.trans (congrArg some (by kernel_rfl))
  f260 := Tryd.func44.trans (congrArg some (by kernel_rfl))
  f266 := Tryd.func51.trans (congrArg some (by kernel_rfl))
  f271 := Tryd.func43.trans (congrArg some (by kernel_rfl))
  t0 := Tryd.underlying0
  a0 := Tryd.isAgg0
  z0 := Tryd.sizeOf0
  v0 := Tryd.zeroValue0
  t3 := Tryd.underlying3
  a3 := Tryd.isAgg3
  z3 := Tryd.sizeOf3
  v3 := Tryd.zeroValue3
  t4 := Tryd.underlying4
  a4 := Tryd.isAgg4
  z4 := Tryd.sizeOf4
  v4 := Tryd.zeroValue4
  t5 := Tryd.underlying5
  a5 := Tryd.isAgg5
  z5 := Tryd.sizeOf5
  v5 := Tryd.zeroValue5
  t9 := Tryd.underlying9
  a9 := Tryd.isAgg9
  z9 := Tryd.sizeOf9
  v9 := Tryd.zeroValue9
  t21 := Tryd.underlying21
  a21 := Tryd.isAgg21
  z21 := Tryd.sizeOf21
  v21 := Tryd.zeroValue21
  t46 := Tryd.underlying65
  a46 := Tryd.isAgg65
  z46 := Tryd.sizeOf65
  v46 := Tryd.zeroValue65
  t105 := Tryd.underlying60
  a105 := Tryd.isAgg60
  z105 := Tryd.sizeOf60
  v105 := Tryd.zeroValue60
  t116 := Tryd.underlying54
  a116 := Tryd.isAgg54
  z116 := Tryd.sizeOf54
  t117 := Tryd.underlying55
  a117 := Tryd.isAgg55
  z117 := Tryd.sizeOf55
  v117 := Tryd.zeroValue55
  t119 := Tryd.underlying67
  a119 := Tryd.isAgg67
  z119 := Tryd.sizeOf67
  t124 := Tryd.underlying58
  a124 := Tryd.isAgg58
  z124 := Tryd.sizeOf58
  v124 := Tryd.zeroValue58
  t138 := Tryd.underlying69
  a138 := Tryd.isAgg69
  z138 := Tryd.sizeOf69
  v138 := Tryd.zeroValue69
  t139 := Tryd.underlying70
  a139 := Tryd.isAgg70
  z139 := Tryd.sizeOf70
  v139 := Tryd.zeroValue70
  g3 := by kernel_rfl
  g4 := by kernel_rfl }
end Go.Proofs
namespace Go.Proofs.YtjpeblicfhfniaaDoor.EngTabP
open Go.Proofs.YtjpeblicfhfniaaDoor.Eng Go.RowKit
open Go.Proofs.YtjpeblicfhfniaaDoor.EngTab (byteAt)
set_option maxRecDepth 100000
set_option linter.unusedVariables false
set_option linter.unusedSimpArgs false
theorem drop_le {α : Type} (p : α → Bool) : ∀ l : List α, (l.dropWhile p).length ≤ l.length
  | [] => Nat.le_refl _
  | a :: r => by
    simp only [List.dropWhile]
    split
    · exact Nat.le_succ_of_le (drop_le p r)
    · exact Nat.le_refl _
theorem trim_le (l cs : List UInt8) : (Lib.trimS l cs).length ≤ l.length := by
  unfold Lib.trimS Lib.trimLeftS Lib.trimRightS
  refine Nat.le_trans (drop_le _ _) ?_
  rw [List.length_reverse]
  exact Nat.le_trans (drop_le _ _) (by simp)
theorem drop_nil {α : Type} (p : α → Bool) : ∀ l : List α, l.dropWhile p = [] ↔ ∀ x ∈ l, p x = true
  | [] => by simp
  | a :: r => by
    simp only [List.dropWhile, List.mem_cons, forall_eq_or_imp]
    split
    · rename_i h; simp [h, drop_nil p r]
    · rename_i h; simp [h]
theorem trim_nil (l cs : List UInt8) : Lib.trimS l cs = [] ↔ ∀ x ∈ l, cs.contains x = true := by
  have dw : ∀ (p : UInt8 → Bool) (r : List UInt8) x, x ∈ r → p x = false → x ∈ r.dropWhile p := by
    intro p r
    induction r with
    | nil => intro x hx; cases hx
    | cons a r ih =>
      intro x hx hp
      simp only [List.dropWhile]
      split
      · rename_i h
        rcases List.mem_cons.1 hx with rfl | hx
        · rw [h] at hp; cases hp
        · exact ih x hx hp
      · exact hx
  unfold Lib.trimS Lib.trimLeftS Lib.trimRightS
  rw [drop_nil]
  constructor
  · intro h x hx
    cases hc : cs.contains x with
    | true => rfl
    | false =>
      have := h x (List.mem_reverse.2 (dw (fun y => cs.contains y) l.reverse x (List.mem_reverse.2 hx) hc))
      rw [hc] at this; cases this
  · intro h x hx
    exact h x (List.mem_reverse.1 ((List.dropWhile_sublist (fun y => cs.contains y)).subset (List.mem_reverse.1 hx)))
theorem trim_calls (s : ByteArray) (w : World) (hs : s.size ≤ 9223372036854775807) :
    Calls Tryd.prog 26 #[.string s, .string ⟨#[48, 49]⟩] w fun e w' => e = .returned (.string ⟨(Lib.trimS s.data.toList [48, 49]).toArray⟩) ∧ Below w.heap.size w w' :=
  Any.strings_Trim_laid Tryd.lays160 (by kernel_rfl) s ⟨#[48, 49]⟩ w hs (by decide) (ascii_of_all (by decide))
def c26 : Con := Con.of ⟨[(false, 0, .str), (false, 0, .str)], [(0, .str)], fun x => x.2.1 = ⟨#[48, 49]⟩, fun x y _ => y.1 = ⟨(Lib.trimS x.1.data.toList [48, 49]).toArray⟩⟩
theorem ok26 : FnOK Tryd.prog 26 c26 := by
  refine FnOK.of_calls (by decide) ?_
  intro w Z Bs vals x hA hp
  obtain ⟨_, _, v, _, cs, rfl, rfl, ⟨_, rfl, h1⟩, rfl, _, _, u, _, cs2, _, rfl, ⟨_, rfl, h2⟩, rfl, _, rfl⟩ := hA
  have hp' : x.2.1 = ⟨#[48, 49]⟩ := hp
  rw [hp']
  have h1' : x.1.size ≤ 140737488355328 := h1
  refine (trim_calls x.1 w (by omega)).mono ?_
  rintro e w' ⟨rfl, hB⟩
  have hz : (⟨(Lib.trimS x.1.data.toList [48, 49]).toArray⟩ : ByteArray).size ≤ maxL := by
    have := trim_le x.1.data.toList [48, 49]
    refine Nat.le_trans ?_ h1
    exact this
  exact ⟨_, (⟨(Lib.trimS x.1.data.toList [48, 49]).toArray⟩, ()), [[]], rfl, rfl, frm_below hB, rfl, [.string _], ⟨[], [], .string _, [], [.string _], rfl, rfl, ⟨rfl, rfl, hz⟩, rfl, rfl, rfl⟩, rfl⟩
theorem maskAll_iff (s : ByteArray) : ∀ (n i : Nat), i + n = s.size → (maskAll s n i = true ↔ ∀ x ∈ s.data.toList.drop i, ([48, 49] : List UInt8).contains x = true)
  | 0, i, h => by
    have hl : s.data.toList.length = s.size := rfl
    rw [List.drop_of_length_le (by omega)]; simp [maskAll]
  | n + 1, i, h => by
    have hl : s.data.toList.length = s.size := rfl
    have hi : i < s.data.toList.length := by omega
    rw [List.drop_eq_getElem_cons hi]
    simp only [maskAll, Bool.and_eq_true, decide_eq_true_iff, List.mem_cons, forall_eq_or_imp]
    rw [maskAll_iff s n (i + 1) (by omega)]
    have hb : byteAt s i = ((s.data.toList[i]'hi).toNat : Int) := by
      unfold byteAt
      rw [Int.toNat_natCast, getElem?_pos s i (by omega)]; rfl
    rw [hb]
    generalize s.data.toList[i]'hi = b
    have : ((b.toNat : Int) = 48 ∨ (b.toNat : Int) = 49) ↔ ([48, 49] : List UInt8).contains b = true := by
      simp only [List.contains_cons, List.contains_nil, Bool.or_false, Bool.or_eq_true, beq_iff_eq]
      constructor
      · rintro (h | h)
        · left; exact UInt8.toNat_inj.1 (by rw [show (48 : UInt8).toNat = 48 from rfl]; omega)
        · right; exact UInt8.toNat_inj.1 (by rw [show (49 : UInt8).toNat = 49 from rfl]; omega)
      · rintro (h | h) <;> subst h <;> decide
    rw [this]
theorem mask_trim (s : ByteArray) : maskAll s s.size 0 = true ↔ (⟨(Lib.trimS s.data.toList [48, 49]).toArray⟩ : ByteArray) = ⟨#[]⟩ := by
  rw [maskAll_iff s s.size 0 (by omega), List.drop_zero, ← trim_nil]
  constructor
  · intro h; rw [h]
  · intro h
    have := congrArg (fun t : ByteArray => t.data.toList) h
    simpa using this
def c23 : Con := Con.of ⟨[(false, 0, .str)], [(0, .bool)], fun x => x.1.size ≤ 1048576, fun x y _ => y.1 = (decide (x.1 = ⟨#[45]⟩) || maskOk x.1)⟩
theorem ok23 : FnOK Tryd.prog 23 c23 := by
  refine FnOK.of_vc mixed tabOk (.cons en26 ok26 .nil) Tryd.func23 rfl (by decide) lv23 hd23 ?_
  rintro ⟨(s : ByteArray), ⟨⟩⟩ (hs : s.size ≤ 1048576) hwf
  generalize hM : real = M
  cbv
  refine splM (fun h => ?_) (fun h => ?_) <;> cbv
  · have h0 : s = ⟨#[45]⟩ := by (try subst hM); (try simp only [Eng.ncast] at *); (try simp only [Eng.nI_eq] at *); (try simp only [Eng.real, decide_eq_true_eq, decide_eq_false_iff_not, Bool.not_eq_true', Bool.not_eq_false', Bool.and_eq_true, Bool.or_eq_true, Eng.sEq_dec, Bool.not_true, Bool.not_false, gt_iff_lt, ge_iff_le] at *); exact h
    intro _
    show true = (decide (s = ⟨#[45]⟩) || maskOk s)
    rw [decide_eq_true h0]; rfl
  have h0 : s ≠ ⟨#[45]⟩ := by (try subst hM); (try simp only [Eng.ncast] at *); (try simp only [Eng.nI_eq] at *); (try simp only [Eng.real, decide_eq_true_eq, decide_eq_false_iff_not, Bool.not_eq_true', Bool.not_eq_false', Bool.and_eq_true, Bool.or_eq_true, Eng.sEq_dec, Bool.not_true, Bool.not_false, gt_iff_lt, ge_iff_le] at *); exact h
  clear h
  have hd : decide (s = (⟨#[45]⟩ : ByteArray)) = false := decide_eq_false h0
  refine splM (fun h => ?_) (fun h => ?_) <;> cbv
  · have h1 : 1 ≤ s.size := by (try subst hM); (try simp only [Eng.ncast] at *); (try simp only [Eng.nI_eq] at *); (try simp only [Eng.real, decide_eq_true_eq, decide_eq_false_iff_not, Bool.not_eq_true', Bool.not_eq_false', Bool.and_eq_true, Bool.or_eq_true, Eng.sEq_dec, Bool.not_true, Bool.not_false, gt_iff_lt, ge_iff_le] at *); omega
    clear h
    refine splM (fun h => ?_) (fun h => ?_) <;> cbv
    · have h2 : s.size ≤ 200 := by (try subst hM); (try simp only [Eng.ncast] at *); (try simp only [Eng.nI_eq] at *); (try simp only [Eng.real, decide_eq_true_eq, decide_eq_false_iff_not, Bool.not_eq_true', Bool.not_eq_false', Bool.and_eq_true, Bool.or_eq_true, Eng.sEq_dec, Bool.not_true, Bool.not_false, gt_iff_lt, ge_iff_le] at *); omega
      clear h
      refine ⟨fun _ => rfl, ?_⟩
      rintro ⟨(t : ByteArray), ⟨⟩⟩ x' (hy : t = ⟨(Lib.trimS s.data.toList [48, 49]).toArray⟩) - -
      cbv
      intro _
      show M.sEq t ⟨#[]⟩ = (decide (s = ⟨#[45]⟩) || maskOk s)
      rw [hd, hy, ← hM]
      show ((⟨(Lib.trimS s.data.toList [48, 49]).toArray⟩ : ByteArray).toList == (⟨#[]⟩ : ByteArray).toList) = _
      rw [sEq_dec]
      simp only [Bool.false_or, maskOk, h1, h2, and_self, decide_true, Bool.true_and]
      cases hm : maskAll s s.size 0 with
      | true => rw [decide_eq_true ((mask_trim s).1 hm)]
      | false => rw [decide_eq_false (fun e => by rw [(mask_trim s).2 e] at hm; cases hm)]
    · have h2 : ¬ s.size ≤ 200 := by (try subst hM); (try simp only [Eng.ncast] at *); (try simp only [Eng.nI_eq] at *); (try simp only [Eng.real, decide_eq_true_eq, decide_eq_false_iff_not, Bool.not_eq_true', Bool.not_eq_false', Bool.and_eq_true, Bool.or_eq_true, Eng.sEq_dec, Bool.not_true, Bool.not_false, gt_iff_lt, ge_iff_le] at *); omega
      intro _
      show false = (decide (s = ⟨#[45]⟩) || maskOk s)
      rw [hd]; simp [maskOk, h2]
  · have h1 : ¬ 1 ≤ s.size := by (try subst hM); (try simp only [Eng.ncast] at *); (try simp only [Eng.nI_eq] at *); (try simp only [Eng.real, decide_eq_true_eq, decide_eq_false_iff_not, Bool.not_eq_true', Bool.not_eq_false', Bool.and_eq_true, Bool.or_eq_true, Eng.sEq_dec, Bool.not_true, Bool.not_false, gt_iff_lt, ge_iff_le] at *); omega
    intro _
    show false = (decide (s = ⟨#[45]⟩) || maskOk s)
    rw [hd]; simp [maskOk, h1]
end Go.Proofs.YtjpeblicfhfniaaDoor.EngTabP
