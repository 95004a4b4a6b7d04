/- The law FnBlocks: arithmetic of the turned bit. No condition. -/
import Derived.Test.YtmjeghlfmhbjdaaDoorFL
namespace Go.Proofs.YtmjeghlfmhbjdaaDoor.EngTab
open Go.Proofs.YtmjeghlfmhbjdaaDoor.Eng
set_option maxRecDepth 100000
set_option linter.unusedVariables false
theorem rem8 {x : Int} (hx : 0 ≤ x ∧ x ≤ 255) : ∃ n : Nat, n < 8 ∧ real.wrap .u64 (real.rem (real.wrap .i64 x) 8) = (n : Int) := by
 refine ⟨(x % 8).toNat, by omega, ?_⟩
 show IntKind.wrap .u64 (Int.tmod (IntKind.wrap .i64 x) 8) = _
 rw [w64 (by omega), Int.tmod_eq_emod_of_nonneg hx.1, IntKind.wrap_u64]
 omega
theorem sh_ok {x : Int} (hx : 0 ≤ x ∧ x ≤ 255) : real.le 0 (real.wrap .u64 (real.rem (real.wrap .i64 x) 8)) := by
 obtain ⟨n, _, e⟩ := rem8 hx
 rw [e]
 exact Int.natCast_nonneg n
theorem at_ok {x j : Int} {i : Nat} (hx : 0 ≤ x ∧ x ≤ 255) (hj : j = i) (hi : i < 30) : 0 ≤ real.rem (real.wrap .i64 (real.add (real.wrap .i64 x) (real.wrap .i64 (real.mul 97 j)))) 128 ∧ real.rem (real.wrap .i64 (real.add (real.wrap .i64 x) (real.wrap .i64 (real.mul 97 j)))) 128 < 128 := by
 have e : real.rem (real.wrap .i64 (real.add (real.wrap .i64 x) (real.wrap .i64 (real.mul 97 j)))) 128 = (x + 97 * j) % 128 := by
  show Int.tmod (IntKind.wrap .i64 (IntKind.wrap .i64 x + IntKind.wrap .i64 (97 * j))) 128 = _
  have e1 : IntKind.wrap .i64 x = x := w64 (by omega)
  have e2 : IntKind.wrap .i64 (97 * j) = 97 * j := w64 (by omega)
  rw [e1, e2, w64 (by omega), Int.tmod_eq_emod_of_nonneg (by omega)]
 rw [e]
 omega
theorem bit_ok {x : Int} (hx : 0 ≤ x ∧ x ≤ 255) : ∃ n : Nat, 1 ≤ n ∧ n < 2 ^ 8 ∧ real.shl .u8 1 (real.wrap .u64 (real.rem (real.wrap .i64 x) 8)) = (n : Int) := by
 obtain ⟨n, hn, e⟩ := rem8 hx
 rw [e]
 have : n = 0 ∨ n = 1 ∨ n = 2 ∨ n = 3 ∨ n = 4 ∨ n = 5 ∨ n = 6 ∨ n = 7 := by omega
 rcases this with rfl | rfl | rfl | rfl | rfl | rfl | rfl | rfl
 ·exact ⟨1, by decide, by decide, by decide⟩
 ·exact ⟨2, by decide, by decide, by decide⟩
 ·exact ⟨4, by decide, by decide, by decide⟩
 ·exact ⟨8, by decide, by decide, by decide⟩
 ·exact ⟨16, by decide, by decide, by decide⟩
 ·exact ⟨32, by decide, by decide, by decide⟩
 ·exact ⟨64, by decide, by decide, by decide⟩
 ·exact ⟨128, by decide, by decide, by decide⟩
theorem xor8 {x y : Nat} (hx : x < 2 ^ 8) (hy : y < 2 ^ 8) : real.bit .xor .u8 (x : Int) (y : Int) = ((x ^^^ y : Nat) : Int) := by
 show IntKind.wrap .u8 ((BitVec.ofInt 8 (x : Int) ^^^ BitVec.ofInt 8 (y : Int)).toNat : Int) = _
 have e1 : (BitVec.ofInt 8 (x : Int)) = BitVec.ofNat 8 x := BitVec.ofInt_natCast ..
 have e2 : (BitVec.ofInt 8 (y : Int)) = BitVec.ofNat 8 y := BitVec.ofInt_natCast ..
 rw [e1, e2, BitVec.toNat_xor, BitVec.toNat_ofNat, BitVec.toNat_ofNat, Nat.mod_eq_of_lt hx, Nat.mod_eq_of_lt hy]
 have := Nat.xor_lt_two_pow hx hy
 rw [IntKind.wrap_u8]
 omega
/-- One bit of a sound block is turned. -/
theorem flipped {b : List Int} {A B : Int} (hb : ∀ x ∈ b, 0 ≤ x ∧ x ≤ 255) (hz : sumC b = 0) (hl : b.length = 128) (hA : 0 ≤ A ∧ A < 128) (hB : ∃ n : Nat, 1 ≤ n ∧ n < 2 ^ 8 ∧ B = (n : Int)) : sumC (real.set b A (real.bit .xor .u8 (real.get b A 0) B)) = 6 ∧ (real.set b A (real.bit .xor .u8 (real.get b A 0) B)).length = 128 := by
 obtain ⟨n, h1, h2, rfl⟩ := hB
 have hAl : A.toNat < b.length := by omega
 have hx : 0 ≤ b.getD A.toNat 0 ∧ b.getD A.toNat 0 ≤ 255 := by
  rw [List.getD_eq_getElem?_getD, List.getElem?_eq_getElem hAl]
  exact hb _ (List.getElem_mem hAl)
 obtain ⟨y, hy⟩ : ∃ y : Nat, b.getD A.toNat 0 = (y : Int) := ⟨(b.getD A.toNat 0).toNat, by omega⟩
 have hy8 : y < 2 ^ 8 := by omega
 have e : real.bit .xor .u8 (real.get b A 0) n = ((y ^^^ n : Nat) : Int) := by
  show real.bit .xor .u8 (b.getD A.toNat 0) n = _
  rw [hy]; exact xor8 hy8 h2
 have hlt := Nat.xor_lt_two_pow hy8 h2
 rw [e]
 refine ⟨flip_sum hb hz (by omega) ⟨Int.natCast_nonneg _, by omega⟩ ?_, by show (b.set A.toNat _).length = 128; simpa using hl⟩
 rw [hy]
 intro h
 have h3 : y = y ^^^ n := Int.ofNat_inj.1 h
 have h4 : y ^^^ y = y ^^^ (y ^^^ n) := congrArg (y ^^^ ·) h3
 rw [← Nat.xor_assoc, Nat.xor_self, Nat.zero_xor] at h4
 omega
end Go.Proofs.YtmjeghlfmhbjdaaDoor.EngTab
