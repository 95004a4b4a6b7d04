/- A block of which one byte is turned has not its sum. -/
import Derived.Test.YtmjeghlfmhbjdaaDoorR2
namespace Go.Proofs.YtmjeghlfmhbjdaaDoor.EngTab
open Go.Proofs.YtmjeghlfmhbjdaaDoor.Eng
set_option maxRecDepth 100000
set_option linter.unusedVariables false
set_option linter.unusedSimpArgs false
theorem bit_nat {x y : Nat} (hx : x < 2 ^ 32) (hy : y < 2 ^ 32) : bitX (x : Int) (y : Int) = ((x ^^^ y : Nat) : Int) := by
 unfold bitX
 have e1 : (BitVec.ofInt 32 (x : Int)) = BitVec.ofNat 32 x := BitVec.ofInt_natCast ..
 have e2 : (BitVec.ofInt 32 (y : Int)) = BitVec.ofNat 32 y := BitVec.ofInt_natCast ..
 rw [e1, e2, BitVec.toNat_xor, BitVec.toNat_ofNat, BitVec.toNat_ofNat, Nat.mod_eq_of_lt hx, Nat.mod_eq_of_lt hy]
 have := Nat.xor_lt_two_pow hx hy
 rw [IntKind.wrap_u32]
 omega
theorem and_nat {x : Nat} (hx : x < 2 ^ 32) : bitA (x : Int) 1 = ((x % 2 : Nat) : Int) := by
 unfold bitA
 have e1 : (BitVec.ofInt 32 (x : Int)) = BitVec.ofNat 32 x := BitVec.ofInt_natCast ..
 have e2 : (BitVec.ofInt 32 (1 : Int)) = BitVec.ofNat 32 1 := rfl
 rw [e1, e2, BitVec.toNat_and, BitVec.toNat_ofNat, BitVec.toNat_ofNat, Nat.mod_eq_of_lt hx, show 1 % 2 ^ 32 = 1 from rfl, Nat.and_one_is_mod]
 rw [IntKind.wrap_u32]
 omega
def cs (n : Nat) : Nat := if n % 2 = 1 then (n / 2) ^^^ 3988292384 else n / 2
theorem cs_lt {n : Nat} (h : n < 2 ^ 32) : cs n < 2 ^ 32 := by
 unfold cs
 split
 ·exact Nat.xor_lt_two_pow (by omega) (by decide)
 ·omega
theorem step_nat {n : Nat} (h : n < 2 ^ 32) : crcStep (n : Int) = (cs n : Int) := by
 unfold crcStep cs
 rw [and_nat h]
 have e : shr1 (n : Int) = ((n / 2 : Nat) : Int) := by
  unfold shr1
  rw [Int.fdiv_eq_ediv_of_nonneg _ (by decide)]
  omega
 rw [e]
 by_cases h1 : n % 2 = 1
 ·rw [if_pos (by omega), if_pos h1]
  exact bit_nat (y := 3988292384) (by omega) (by decide)
 ·rw [if_neg (by omega), if_neg h1]
theorem cs_inj {n m : Nat} (hn : n < 2 ^ 32) (hm : m < 2 ^ 32) (h : cs n = cs m) : n = m := by
 have big : ∀ k, k < 2 ^ 32 → ¬ (k / 2) ^^^ 3988292384 < 2 ^ 31 := fun k hk hl => by
  have h1 := Nat.testBit_lt_two_pow hl
  rw [Nat.testBit_xor, Nat.testBit_lt_two_pow (show k / 2 < 2 ^ 31 by omega)] at h1
  exact absurd h1 (by decide)
 unfold cs at h
 by_cases h1 : n % 2 = 1 <;> by_cases h2 : m % 2 = 1
 ·rw [if_pos h1, if_pos h2] at h
  have h3 := congrArg (· ^^^ 3988292384) h
  simp only [Nat.xor_assoc, Nat.xor_self, Nat.xor_zero] at h3
  omega
 ·rw [if_pos h1, if_neg h2] at h
  exact absurd (by rw [h]; omega) (big n hn)
 ·rw [if_neg h1, if_pos h2] at h
  exact absurd (by rw [← h]; omega) (big m hm)
 ·rw [if_neg h1, if_neg h2] at h
  omega
def cq8 (n : Nat) : Nat → Nat
 | 0 => n
 | k + 1 => cs (cq8 n k)
theorem cq8_lt {n : Nat} (h : n < 2 ^ 32) : ∀ k, cq8 n k < 2 ^ 32
 | 0 => h
 | k + 1 => cs_lt (cq8_lt h k)
theorem cq8_nat {n : Nat} (h : n < 2 ^ 32) : ∀ k, crc8 (n : Int) k = (cq8 n k : Int)
 | 0 => rfl
 | k + 1 => by
  show crcStep (crc8 (n : Int) k) = _
  rw [cq8_nat h k, step_nat (cq8_lt h k)]; rfl
theorem cq8_inj {n m : Nat} (hn : n < 2 ^ 32) (hm : m < 2 ^ 32) : ∀ k, cq8 n k = cq8 m k → n = m
 | 0, h => h
 | k + 1, h => cq8_inj hn hm k (cs_inj (cq8_lt hn k) (cq8_lt hm k) h)
def cb (xs : List Int) : Nat → Nat
 | 0 => 4294967295
 | n + 1 => cq8 (cb xs n ^^^ (xs.getD n 0).toNat) 8
theorem by_lt {xs : List Int} (hB : ∀ x ∈ xs, 0 ≤ x ∧ x ≤ 255) (n : Nat) : (xs.getD n 0).toNat < 2 ^ 32 := by
 have := byte_of hB n
 omega
theorem cb_lt {xs : List Int} (hB : ∀ x ∈ xs, 0 ≤ x ∧ x ≤ 255) : ∀ n, cb xs n < 2 ^ 32
 | 0 => by show 4294967295 < 2 ^ 32; decide
 | n + 1 => cq8_lt (Nat.xor_lt_two_pow (cb_lt hB n) (by_lt hB n)) 8
theorem cb_nat {xs : List Int} (hB : ∀ x ∈ xs, 0 ≤ x ∧ x ≤ 255) : ∀ n, crcB xs n = (cb xs n : Int)
 | 0 => rfl
 | n + 1 => by
  have hb := byte_of hB n
  show crc8 (bitX (crcB xs n) (IntKind.wrap .u32 (xs.getD n 0))) 8 = _
  rw [cb_nat hB n, show IntKind.wrap .u32 (xs.getD n 0) = (((xs.getD n 0).toNat : Nat) : Int) by rw [IntKind.wrap_u32]; omega, bit_nat (cb_lt hB n) (by_lt hB n), cq8_nat (Nat.xor_lt_two_pow (cb_lt hB n) (by_lt hB n))]
  rfl
theorem xor_inj {a b c : Nat} (h : a ^^^ c = b ^^^ c) : a = b := by
 have h3 := congrArg (· ^^^ c) h
 simpa [Nat.xor_assoc] using h3
theorem cb_ne {xs ys : List Int} (hX : ∀ x ∈ xs, 0 ≤ x ∧ x ≤ 255) (hY : ∀ x ∈ ys, 0 ≤ x ∧ x ≤ 255) {k : Nat} (hk : xs.getD k 0 ≠ ys.getD k 0) (he : ∀ i, i ≠ k → xs.getD i 0 = ys.getD i 0) : (∀ n, n ≤ k → cb xs n = cb ys n) ∧ ∀ n, k < n → cb xs n ≠ cb ys n := by
 have h1 : ∀ n, n ≤ k → cb xs n = cb ys n := by
  intro n
  induction n with
  | zero => intro _; rfl
  | succ n ih =>
   intro hn
   show cq8 (cb xs n ^^^ (xs.getD n 0).toNat) 8 = cq8 (cb ys n ^^^ (ys.getD n 0).toNat) 8
   rw [ih (by omega), he n (by omega)]
 refine ⟨h1, fun n => ?_⟩
 induction n with
 | zero => intro h; omega
 | succ n ih =>
  intro hn e
  have e' := cq8_inj (Nat.xor_lt_two_pow (cb_lt hX n) (by_lt hX n)) (Nat.xor_lt_two_pow (cb_lt hY n) (by_lt hY n)) 8 e
  by_cases h : n = k
  ·subst h
   rw [h1 n (Nat.le_refl _), Nat.xor_comm, Nat.xor_comm _ (ys.getD n 0).toNat] at e'
   have := xor_inj e'
   have b1 := byte_of hX n
   have b2 := byte_of hY n
   omega
  ·rw [he n h] at e'
   exact ih (by omega) (xor_inj e')
theorem crcV_ne {xs ys : List Int} (hX : ∀ x ∈ xs, 0 ≤ x ∧ x ≤ 255) (hY : ∀ x ∈ ys, 0 ≤ x ∧ x ≤ 255) (hl : xs.length = ys.length) {k : Nat} (hkl : k < xs.length) (hk : xs.getD k 0 ≠ ys.getD k 0) (he : ∀ i, i ≠ k → xs.getD i 0 = ys.getD i 0) : crcV xs ≠ crcV ys := by
 intro e
 unfold crcV at e
 rw [cb_nat hX, cb_nat hY, hl] at e
 have e2 : bitX (cb xs ys.length : Int) ((4294967295 : Nat) : Int) = bitX (cb ys ys.length : Int) ((4294967295 : Nat) : Int) := e
 rw [bit_nat (cb_lt hX _) (by decide), bit_nat (cb_lt hY _) (by decide)] at e2
 exact (cb_ne hX hY hk he).2 _ (by omega) (xor_inj (Int.ofNat.inj e2))
theorem num_set {b : List Int} {v : Int} {k : Nat} (hb : ∀ x ∈ b, 0 ≤ x ∧ x ≤ 255) (hv : 0 ≤ v ∧ v ≤ 255) (hk : k < 4) (hl : 4 ≤ b.length) (hne : b.getD k 0 ≠ v) : numN (b.set k v) 4 ≠ numN b 4 := by
 have hb0 := byte_of hb 0
 have hb1 := byte_of hb 1
 have hb2 := byte_of hb 2
 have hb3 := byte_of hb 3
 have hs : ∀ i, (b.set k v).getD i 0 = if i = k then v else b.getD i 0 := fun i => by
  by_cases h : i = k
  ·subst h
   rw [if_pos rfl, List.getD_eq_getElem?_getD, List.getElem?_set_self (by omega)]; rfl
  ·rw [if_neg h, List.getD_eq_getElem?_getD, List.getElem?_set_ne (Ne.symm h), List.getD_eq_getElem?_getD]
 simp only [numN, hs]
 have : k = 0 ∨ k = 1 ∨ k = 2 ∨ k = 3 := by omega
 clear hs hb
 rcases this with rfl | rfl | rfl | rfl
 all_goals
  generalize b.getD 0 0 = x0 at *
  generalize b.getD 1 0 = x1 at *
  generalize b.getD 2 0 = x2 at *
  generalize b.getD 3 0 = x3 at *
  simp
  omega
theorem nm_small {b : List Int} (hb : ∀ x ∈ b, 0 ≤ x ∧ x ≤ 255) (a : Nat) : nm b a 4 = numN (b.drop a) 4 := by
 unfold nm
 have := numN_bd (b := b.drop a) (fun x hx => hb x (List.mem_of_mem_drop hx)) 4
 exact w64 (by omega)
/-- One byte is turned: the sum is not right. -/
theorem flip_sum {b : List Int} {at' : Nat} {v : Int} (hB : ∀ x ∈ b, 0 ≤ x ∧ x ≤ 255) (hz : sumC b = 0) (ha : at' < 128) (hv : 0 ≤ v ∧ v ≤ 255) (hne : b.getD at' 0 ≠ v) : sumC (b.set at' v) = 6 := by
 have hlz : b.length = 128 ∧ nm b 124 4 = crcV (b.take 124) := by
  unfold sumC at hz
  split at hz
  ·omega
  ·split at hz
   ·omega
   ·rename_i h1 h2
    exact ⟨by omega, Classical.not_not.1 h2⟩
 obtain ⟨hl, hs⟩ := hlz
 have hB2 : ∀ x ∈ b.set at' v, 0 ≤ x ∧ x ≤ 255 := fun x hx => by
  rcases List.mem_or_eq_of_mem_set hx with h | h
  ·exact hB x h
  ·omega
 have hset : ∀ i, (b.set at' v).getD i 0 = if i = at' then v else b.getD i 0 := fun i => by
  by_cases h : i = at'
  ·subst h
   rw [if_pos rfl, List.getD_eq_getElem?_getD, List.getElem?_set_self (by omega)]; rfl
  ·rw [if_neg h, List.getD_eq_getElem?_getD, List.getElem?_set_ne (Ne.symm h), List.getD_eq_getElem?_getD]
 have htk : ∀ (c : List Int) i, i < 124 → (c.take 124).getD i 0 = c.getD i 0 := fun c i hi => by
  rw [List.getD_eq_getElem?_getD, List.getElem?_take, if_pos hi, List.getD_eq_getElem?_getD]
 have htk2 : ∀ (c : List Int) i, ¬ i < 124 → (c.take 124).getD i 0 = 0 := fun c i hi => by
  rw [List.getD_eq_getElem?_getD, List.getElem?_take, if_neg hi]; rfl
 unfold sumC
 rw [if_neg (by simp [hl]), if_pos ?_]
 intro e
 rw [nm_small hB2] at e
 rw [nm_small hB] at hs
 by_cases h : at' < 124
 ·have e1 : (b.set at' v).drop 124 = b.drop 124 := List.drop_set_of_lt h
  rw [e1, hs] at e
  refine crcV_ne (k := at') (fun x hx => hB x (List.mem_of_mem_take hx)) (fun x hx => hB2 x (List.mem_of_mem_take hx)) (by simp) (by simp; omega) ?_ ?_ e
  ·rw [htk _ _ h, htk _ _ h, hset, if_pos rfl]; exact hne
  ·intro i hi
   by_cases h4 : i < 124
   ·rw [htk _ _ h4, htk _ _ h4, hset, if_neg hi]
   ·rw [htk2 _ _ h4, htk2 _ _ h4]
 ·have e1 : (b.set at' v).take 124 = b.take 124 := List.take_set_of_le (by omega)
  have e2 : (b.set at' v).drop 124 = (b.drop 124).set (at' - 124) v := by rw [List.drop_set, if_neg (by omega)]
  rw [e1, e2, ← hs] at e
  refine num_set (fun x hx => hB x (List.mem_of_mem_drop hx)) hv (by omega) (by simp; omega) ?_ e
  rw [List.getD_eq_getElem?_getD, List.getElem?_drop, show 124 + (at' - 124) = at' by omega, ← List.getD_eq_getElem?_getD]
  exact hne
end Go.Proofs.YtmjeghlfmhbjdaaDoor.EngTab
