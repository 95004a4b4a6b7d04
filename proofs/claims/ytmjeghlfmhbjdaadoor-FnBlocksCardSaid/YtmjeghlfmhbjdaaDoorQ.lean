/- Contracts: reading numbers; a block's sum; sameness of bytes. -/
import Derived.Test.YtmjeghlfmhbjdaaDoorT2
import Derived.Test.YtmjeghlfmhbjdaaDoorLl
namespace Go.Proofs.YtmjeghlfmhbjdaaDoor.EngTab
open Go.Proofs.YtmjeghlfmhbjdaaDoor.Eng
open IntKind (wrap)
set_option maxRecDepth 100000
set_option linter.unusedVariables false
set_option linter.unusedSimpArgs false
/-- the bytes as a number, the lowest first -/
def numN (b : List Int) : Nat → Int
  | 0 => 0
  | n + 1 => numN b n + b.getD n 0 * 256 ^ n
def hiN (b : List Int) (w : Nat) : Nat → Int
  | 0 => 0
  | j + 1 => hiN b w j * 256 + b.getD (w - 1 - j) 0
theorem hiN_num (b : List Int) (w : Nat) : ∀ j, j ≤ w → numN b w = hiN b w j * 256 ^ (w - j) + numN b (w - j)
  | 0, _ => by simp [hiN]
  | j + 1, h => by
    rw [hiN_num b w j (by omega)]
    obtain ⟨k, hk⟩ : ∃ k, w - j = k + 1 := ⟨w - j - 1, by omega⟩
    have e1 : w - (j + 1) = k := by omega
    have e2 : w - 1 - j = k := by omega
    rw [hk, e1]
    have r1 : hiN b w (j + 1) = hiN b w j * 256 + b.getD (w - 1 - j) 0 := rfl
    have r2 : numN b (k + 1) = numN b k + b.getD k 0 * 256 ^ k := rfl
    rw [r1, r2, e2, Int.pow_succ]
    generalize hiN b w j = x
    generalize (256 : Int) ^ k = y
    generalize b.getD k 0 = z
    rw [Int.add_mul, Int.mul_assoc, Int.mul_comm 256 y]; omega
theorem hiN_all (b : List Int) (w : Nat) : hiN b w w = numN b w := by
  have := hiN_num b w w (Nat.le_refl _)
  simp [numN] at this
  exact this.symm
theorem numN_drop {b : List Int} {a n : Nat} : numN (b.drop a) n = numN (b.drop a) n := rfl
theorem numN_bd {b : List Int} (hb : ∀ x ∈ b, 0 ≤ x ∧ x ≤ 255) : ∀ n, 0 ≤ numN b n ∧ numN b n < 256 ^ n
  | 0 => by simp [numN]
  | n + 1 => by
    obtain ⟨h1, h2⟩ := numN_bd hb n
    have h3 : 0 ≤ b.getD n 0 ∧ b.getD n 0 ≤ 255 := by
      rw [List.getD_eq_getElem?_getD]
      cases h : b[n]? with
      | none => simp
      | some x => simpa using hb x (List.mem_of_getElem? h)
    unfold numN
    rw [Int.pow_succ]
    have h4 : b.getD n 0 * 256 ^ n ≤ 255 * 256 ^ n := Int.mul_le_mul_of_nonneg_right h3.2 (by omega)
    have h5 : 0 ≤ b.getD n 0 * 256 ^ n := Int.mul_nonneg h3.1 (by omega)
    omega
/-- a number of a block, as it is read -/
def nm (b : List Int) (a n : Nat) : Int := wrap .i64 (numN (b.drop a) n)
theorem wrap_mul (x y : Int) : wrap .i64 (wrap .i64 (wrap .i64 x * 256) + y) = wrap .i64 (x * 256 + y) := by
  simp only [IntKind.wrap_i64]
  omega
theorem ofInt_wrap (x : Int) : BitVec.ofInt 64 (wrap .i64 x) = BitVec.ofInt 64 x := by
  apply BitVec.eq_of_toNat_eq
  simp only [BitVec.toNat_ofInt, IntKind.wrap_i64]
  congr 1
  omega
theorem or_add {x y : Nat} {i : Nat} (h : x < 2 ^ i) : x ||| (y * 2 ^ i) = x + y * 2 ^ i := by
  rw [Nat.or_comm, Nat.mul_comm, ← Nat.two_pow_add_eq_or_of_lt h, Nat.add_comm]
/-- A byte above the others. -/
theorem or_byte {x y : Int} {i : Nat} (hi : i ≤ 7) (hx : 0 ≤ x ∧ x < 256 ^ i) (hy : 0 ≤ y ∧ y ≤ 255) :
    real.bit .or .i64 (wrap .i64 x) (wrap .i64 (y * 2 ^ (8 * i))) = wrap .i64 (x + y * 256 ^ i) := by
  show wrap .i64 ((BitVec.ofInt 64 _ ||| BitVec.ofInt 64 _).toNat : Int) = _
  rw [ofInt_wrap, ofInt_wrap]
  have e256 : (256 : Int) ^ i = 2 ^ (8 * i) := by rw [Int.pow_mul]; rfl
  have hp : (2 : Nat) ^ (8 * i) ≤ 2 ^ 56 := Nat.pow_le_pow_right (by omega) (by omega)
  have hc : ((2 ^ (8 * i) : Nat) : Int) = 2 ^ (8 * i) := by simp
  rw [e256, ← hc] at hx
  rw [e256, ← hc]
  generalize hg : (2 : Nat) ^ (8 * i) = z at *
  obtain ⟨xn, rfl⟩ := Int.eq_ofNat_of_zero_le hx.1
  obtain ⟨yn, rfl⟩ := Int.eq_ofNat_of_zero_le hy.1
  have hx2 : xn < z := by omega
  have hy2 : yn ≤ 255 := by omega
  have hyz : yn * z ≤ 255 * z := Nat.mul_le_mul_right _ hy2
  have e1 : (BitVec.ofInt 64 (xn : Int)).toNat = xn := by
    rw [BitVec.toNat_ofInt]
    have : ((xn : Int) % ((2 ^ 64 : Nat) : Int)).toNat = xn := by
      have : (xn : Int) < 2 ^ 64 := by omega
      simp; omega
    exact this
  have e2 : (BitVec.ofInt 64 ((yn : Int) * (z : Int))).toNat = yn * z := by
    rw [BitVec.toNat_ofInt, ← Int.natCast_mul]
    generalize hq : yn * z = q at *
    have : ((q : Int) % ((2 ^ 64 : Nat) : Int)).toNat = q := by
      simp; omega
    exact this
  rw [BitVec.toNat_or, e1, e2]
  have := or_add (x := xn) (y := yn) (i := 8 * i) (by rw [hg]; exact hx2)
  rw [hg] at this
  rw [this]
  simp
theorem byte_of {b : List Int} (hb : ∀ x ∈ b, 0 ≤ x ∧ x ≤ 255) (i : Nat) : 0 ≤ b.getD i 0 ∧ b.getD i 0 ≤ 255 := by
  rw [List.getD_eq_getElem?_getD]
  cases h : b[i]? with
  | none => simp
  | some x => simpa using hb x (List.mem_of_getElem? h)
theorem inB {b : List Int} (h : WF tyB b) : ∀ x ∈ b, 0 ≤ x ∧ x ≤ 255 := fun x hx => h.2 x hx
def c21 : Con := Con.of ⟨[(false, 0, tyB), (false, 0, .int .i64), (false, 0, .int .i64)], [(0, .int .i64)], fun x => x.1.length ≤ 1048576 ∧ 0 ≤ x.2.1 ∧ 0 ≤ x.2.2.1 ∧ x.2.2.1 ≤ 8 ∧ x.2.1 + x.2.2.1 ≤ x.1.length, fun x y _ => y.1 = nm x.1 x.2.1.toNat x.2.2.1.toNat⟩
theorem ok21 : FnOK Tryd.prog 21 c21 := by
  refine FnOK.of_vc mixed tabOk .nil Tryd.func21 rfl (by decide) lv21 hd21 ?_
  rintro ⟨(b : List Int), (a : Int), (n : Int), ⟨⟩⟩ ⟨(hl : b.length ≤ 1048576), (ha : 0 ≤ a), (hn : 0 ≤ n), (hn8 : n ≤ 8), (hf : a + n ≤ b.length)⟩ hwf
  have hB : ∀ x ∈ b, 0 ≤ x ∧ x ≤ 255 := inB hwf.1
  generalize hM : real = M
  cbv
  refine ⟨fun m Γ => ∃ (s : Nat) (j v : Int), (j = n - 1 - s ∧ (s : Int) ≤ n) ∧ v = wrap .i64 (hiN (b.drop a.toNat) n.toNat s) ∧ m = n.toNat - s ∧ Γ = ⟨26, [(0, .pv [] tyB b), (1, .pv [] (.int .i64) a), (7, .pv [] (.int .i64) v), (8, .pv [] (.int .i64) j)], [], [.hole 0, .hole 0, .hole 0]⟩, ⟨_, 0, _, 0, ⟨?_, hn⟩, rfl, rfl, rfl⟩, ?_⟩
  · (try subst hM); (try simp only [jqn] at *); (try simp only [jqi] at *); (try simp only [real, jq1, jq2, jq3, jq4, jq5, jq6, sEq_dec, Bool.not_true, Bool.not_false, gt_iff_lt, ge_iff_le] at *)
    rw [w64 (by omega)]; simp
  rintro m _ ⟨s, j, v, ⟨hj, hs⟩, hv, rfl, rfl⟩ -
  cbv
  refine splM (fun h => ?_) (fun h => ?_) <;> cbv
  · have hsn : (s : Int) < n := by
      (try subst hM); (try simp only [jqn] at *); (try simp only [jqi] at *); (try simp only [real, jq1, jq2, jq3, jq4, jq5, jq6, sEq_dec, Bool.not_true, Bool.not_false, gt_iff_lt, ge_iff_le] at *)
      omega
    (try simp only [jqn] at hs hj hsn hf); (try simp only [jqi] at hs hj hsn hf)
    have haj : wrap .i64 (a + j) = a + j := w64 (by omega)
    have hidx : (a + j).toNat = a.toNat + (n.toNat - 1 - s) := by omega
    have hlt : n.toNat - (s + 1) < n.toNat - s := by omega
    have hs1 : ((s + 1 : Nat) : Int) ≤ n := by omega
    have hj1 : wrap .i64 (j - 1) = n - 1 - ((s + 1 : Nat) : Int) := by rw [w64 (by omega)]; omega
    have hb0 : 0 ≤ a + j := by omega
    have hb1 : a + j < (b.length : Int) := by omega
    have hget : b.getD (a.toNat + (n.toNat - 1 - s)) 0 = (b.drop a.toNat).getD (n.toNat - 1 - s) 0 := by
      rw [List.getD_eq_getElem?_getD, List.getD_eq_getElem?_getD, List.getElem?_drop]
    have hby := byte_of hB (a.toNat + (n.toNat - 1 - s))
    have hmul : wrap .i64 (wrap .i64 (v * 256) + wrap .i64 (b.getD (a + j).toNat 0)) = wrap .i64 (hiN (b.drop a.toNat) n.toNat (s + 1)) := by
      rw [hidx, w64 (x := b.getD _ 0) (by omega), hv, wrap_mul, hget]; rfl
    clear hj h hidx
    subst hM
    refine ⟨?_, ?_, n.toNat - (s + 1), hlt, s + 1, _, _, ⟨hj1, hs1⟩, ?_, rfl, rfl⟩
    · show 0 ≤ wrap .i64 (a + j)
      rw [haj]; exact hb0
    · show wrap .i64 (a + j) < (b.length : Int)
      rw [haj]; exact hb1
    · show wrap .i64 (wrap .i64 (v * 256) + wrap .i64 (b.getD (wrap .i64 (a + j)).toNat 0)) = _
      rw [haj]; exact hmul
  · rintro -
    have : s = n.toNat := by
      (try subst hM); (try simp only [jqn] at *); (try simp only [jqi] at *); (try simp only [real, jq1, jq2, jq3, jq4, jq5, jq6, sEq_dec, Bool.not_true, Bool.not_false, gt_iff_lt, ge_iff_le] at *)
      omega
    subst this
    show v = nm b a.toNat n.toNat
    rw [hv, hiN_all]; rfl
def c47 : Con := Con.of ⟨[(false, 0, tyB), (false, 0, .int .i64)], [(0, .int .i64)], fun x => x.1.length ≤ 1048576 ∧ 0 ≤ x.2.1 ∧ x.2.1 ≤ 8 ∧ x.2.1 ≤ x.1.length, fun x y _ => y.1 = nm x.1 0 x.2.1.toNat⟩
theorem ok47 : FnOK Tryd.prog 47 c47 := by
  refine FnOK.of_vc mixed tabOk .nil Tryd.func47 rfl (by decide) lv47 hd47 ?_
  rintro ⟨(b : List Int), (n : Int), ⟨⟩⟩ ⟨(hl : b.length ≤ 1048576), (hn : 0 ≤ n), (hn8 : n ≤ 8), (hf : n ≤ b.length)⟩ hwf
  have hB : ∀ x ∈ b, 0 ≤ x ∧ x ≤ 255 := inB hwf.1
  generalize hM : real = M
  cbv
  refine ⟨fun m Γ => ∃ (i : Nat) (j v : Int), (j = i ∧ (i : Int) ≤ n) ∧ v = wrap .i64 (numN b i) ∧ m = n.toNat - i ∧ Γ = ⟨23, [(0, .pv [] tyB b), (5, .pv [] (.int .i64) v), (7, .pv [] (.int .i64) n), (8, .pv [] (.int .i64) j)], [], [.hole 0, .hole 0]⟩, ⟨_, 0, _, 0, ⟨rfl, hn⟩, by rw [numN]; rfl, rfl, rfl⟩, ?_⟩
  rintro m _ ⟨i, j, v, ⟨hj, hi⟩, hv, rfl, rfl⟩ -
  cbv
  refine splM (fun h => ?_) (fun h => ?_) <;> cbv
  · have hin : (i : Int) < n := by
      (try subst hM); (try simp only [jqn] at *); (try simp only [jqi] at *); (try simp only [real, jq1, jq2, jq3, jq4, jq5, jq6, sEq_dec, Bool.not_true, Bool.not_false, gt_iff_lt, ge_iff_le] at *)
      omega
    (try simp only [jqn] at hi hj hin hf); (try simp only [jqi] at hi hj hin hf)
    have hji : j.toNat = i := by rw [hj]; simp
    have h8 : wrap .i64 (8 * j) = 8 * (i : Int) := by rw [hj, w64 (by omega)]
    have hlt : n.toNat - (i + 1) < n.toNat - i := by omega
    have hi1 : ((i + 1 : Nat) : Int) ≤ n := by omega
    have hj1 : wrap .i64 (j + 1) = ((i + 1 : Nat) : Int) := by rw [hj, w64 (by omega)]; omega
    have hb0 : 0 ≤ j := by omega
    have hb1 : j < (b.length : Int) := by omega
    have hby := byte_of hB i
    have hsh : 0 ≤ 8 * (i : Int) := by omega
    have hbit : real.bit .or .i64 v (wrap .i64 (wrap .i64 (b.getD i 0) * 2 ^ (min (8 * (i : Int)).toNat 64))) = wrap .i64 (numN b (i + 1)) := by
      rw [show min (8 * (i : Int)).toNat 64 = 8 * i by omega, w64 (x := b.getD i 0) (by omega), hv, or_byte (by omega) (numN_bd hB i) hby]
      rfl
    clear hj h
    subst hM
    refine ⟨hb0, hb1, ?_, n.toNat - (i + 1), hlt, i + 1, _, _, ⟨hj1, hi1⟩, ?_, rfl, rfl⟩
    · show 0 ≤ wrap .i64 (8 * j)
      rw [h8]; exact hsh
    · show real.bit .or .i64 v (wrap .i64 (wrap .i64 (b.getD j.toNat 0) * 2 ^ (min (wrap .i64 (8 * j)).toNat 64))) = _
      rw [h8, hji]; exact hbit
  · rintro -
    have : i = n.toNat := by
      (try subst hM); (try simp only [jqn] at *); (try simp only [jqi] at *); (try simp only [real, jq1, jq2, jq3, jq4, jq5, jq6, sEq_dec, Bool.not_true, Bool.not_false, gt_iff_lt, ge_iff_le] at *)
      omega
    subst this
    show v = nm b 0 n.toNat
    rw [hv]; unfold nm; rw [List.drop_zero]
theorem ofB_inv {a : List Int} (ha : ∀ x ∈ a, 0 ≤ x ∧ x ≤ 255) : toBy (real.ofB a) = a := by
  unfold toBy
  show List.map (fun b => (b.toNat : Int)) ((a.map fun x => UInt8.ofNat x.toNat).toArray).toList = a
  simp only [List.map_map]
  conv => rhs; rw [← List.map_id a]
  apply List.map_congr_left
  intro x hx
  obtain ⟨h1, h2⟩ := ha x hx
  simp only [Function.comp, id]
  have : (UInt8.ofNat x.toNat).toNat = x.toNat := by
    rw [UInt8.toNat_ofNat']
    omega
  rw [this]; omega
theorem ofB_inj {a b : List Int} (ha : ∀ x ∈ a, 0 ≤ x ∧ x ≤ 255) (hb : ∀ x ∈ b, 0 ≤ x ∧ x ≤ 255) (h : real.ofB a = real.ofB b) : a = b := by
  rw [← ofB_inv ha, ← ofB_inv hb, h]
def c23 : Con := Con.of ⟨[(false, 0, tyB), (false, 0, tyB)], [(0, .bool)], fun _ => True, fun x y _ => (y.1 = true ↔ x.1 = x.2.1)⟩
theorem ok23 : FnOK Tryd.prog 23 c23 := by
  refine FnOK.of_vc mixed tabOk .nil Tryd.func23 rfl (by decide) lv23 hd23 ?_
  rintro ⟨(a : List Int), (b : List Int), ⟨⟩⟩ - hwf
  have hA : ∀ x ∈ a, 0 ≤ x ∧ x ≤ 255 := inB hwf.1
  have hB : ∀ x ∈ b, 0 ≤ x ∧ x ≤ 255 := inB hwf.2.1
  generalize hM : real = M
  cbv
  rintro -
  show (M.sEq (M.ofB a) (M.ofB b) = true) ↔ a = b
  subst hM
  show ((real.ofB a).toList == (real.ofB b).toList) = true ↔ a = b
  rw [Eng.sEq_dec, decide_eq_true_iff]
  exact ⟨ofB_inj hA hB, fun h => by rw [h]⟩
theorem wrap_crc' (x : Int) (h : 0 ≤ x ∧ x ≤ 4294967295) : wrap .i64 x = x := w64 (by omega)
theorem eqSelf' (x : Int) : real.not (real.dec (real.eq x x)) = false := by rw [dec_iff.2 (show real.eq x x from rfl)]; rfl
noncomputable def sumC (b : List Int) : Int := if b.length ≠ 128 then 3 else if nm b 124 4 ≠ crcV (b.take 124) then 6 else 0
def c19 : Con := Con.of ⟨[(false, 0, tyB)], [(0, .int .i64)], fun x => x.1.length ≤ 1048576, fun x y _ => y.1 = sumC x.1⟩
theorem ok19 : FnOK Tryd.prog 19 c19 := by
  refine FnOK.of_vc mixed tabOk (.cons en21 ok21 (.cons en36 ok36 .nil)) Tryd.func19 rfl (by decide) lv19 hd19 ?_
  rintro ⟨(b : List Int), ⟨⟩⟩ (hl : b.length ≤ 1048576) hwf
  generalize hM : real = M
  cbv
  refine splM (fun h => ?_) (fun h => ?_) <;> cbv
  · rintro -
    (try subst hM); (try simp only [jqn] at *); (try simp only [jqi] at *); (try simp only [real, jq1, jq2, jq3, jq4, jq5, jq6, sEq_dec, Bool.not_true, Bool.not_false, gt_iff_lt, ge_iff_le] at *)
    show (3 : Int) = sumC b
    unfold sumC
    rw [if_pos (by omega)]
  have h128 : b.length = 128 := by
    (try subst hM); (try simp only [jqn] at *); (try simp only [jqi] at *); (try simp only [real, jq1, jq2, jq3, jq4, jq5, jq6, sEq_dec, Bool.not_true, Bool.not_false, gt_iff_lt, ge_iff_le] at *)
    omega
  refine ⟨ot19_3, (fun _ => by kernel_rfl), ?_⟩
  cbv
  repeat' (first
    | exact True.intro
    | (refine And.intro (fun _ => ⟨(by show b.length ≤ 1048576; omega), (by show (0 : Int) ≤ 124; omega), (by show (0 : Int) ≤ 4; omega), (by show (4 : Int) ≤ 8; omega), (by show (124 : Int) + 4 ≤ (b.length : Int); omega)⟩) ?_
       rintro ⟨(v : Int), ⟨⟩⟩ q1 (hv : v = nm b 124 4) - -
       cbv)
    | (refine And.intro (fun _ => by (try subst hM); (try simp only [jqn] at *); (try simp only [jqi] at *); (try simp only [real, jq1, jq2, jq3, jq4, jq5, jq6, sEq_dec, Bool.not_true, Bool.not_false, gt_iff_lt, ge_iff_le] at *); show ((b.drop _).take _).length ≤ 1048576; simp; omega) ?_
       rintro ⟨(s : Int), ⟨⟩⟩ q2 (hs : s = crcV (M.cut b 0 124)) hw -
       have hk2 : 0 ≤ s ∧ s ≤ 4294967295 := (show InK .u32 s from hw.1)
       cbv)
    | (refine And.intro (by (try subst hM); (try simp only [jqn] at *); (try simp only [jqi] at *); (try simp only [real, jq1, jq2, jq3, jq4, jq5, jq6, sEq_dec, Bool.not_true, Bool.not_false, gt_iff_lt, ge_iff_le] at *); omega) ?_)
    | (refine And.intro ?_ ?_))
  all_goals
    have hs2 : M.wrap .i64 s = s := by subst hM; exact wrap_crc' _ hk2
    have hs3 : s = crcV (b.take 124) := by subst hM; rw [hs]; rfl
    refine splM (fun h => ?_) (fun h => ?_) <;> cbv
    · rintro -
      show (6 : Int) = sumC b
      unfold sumC
      rw [if_neg (by omega), if_pos ?_]
      intro e
      subst hM
      rw [hs2, hs3, hv, e, eqSelf'] at h
      cases h
    · rintro -
      show (0 : Int) = sumC b
      unfold sumC
      rw [if_neg (by omega), if_neg ?_]
      intro e
      apply e
      subst hM
      rw [hs2] at h
      rw [← hv, ← hs3]
      by_cases hc : v = s
      · exact hc
      · exfalso
        have : real.dec (real.eq v s) = false := by
          cases hd : real.dec (real.eq v s) with
          | true => exact absurd (dec_iff.1 hd) hc
          | false => rfl
        rw [this] at h
        cases h
end Go.Proofs.YtmjeghlfmhbjdaaDoor.EngTab
