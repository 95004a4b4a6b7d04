/- Contracts of the codecs' functions, fifth text: the sum. -/
import Derived.Test.YtmjeghlfmhbjdaaDoorT1
namespace Go.Proofs.YtmjeghlfmhbjdaaDoor.EngTab
open Go.Proofs.YtmjeghlfmhbjdaaDoor.Eng
open PUnit (unit)
set_option maxRecDepth 100000
set_option linter.unusedVariables false
set_option linter.unusedSimpArgs false
def bitX (x y : Int) : Int := IntKind.wrap .u32 ((BitVec.ofInt 32 x ^^^ BitVec.ofInt 32 y).toNat : Int)
def bitA (x y : Int) : Int := IntKind.wrap .u32 ((BitVec.ofInt 32 x &&& BitVec.ofInt 32 y).toNat : Int)
def shr1 (x : Int) : Int := x.fdiv (2 ^ 1)
def crcStep (r : Int) : Int := if bitA r 1 = 1 then bitX (shr1 r) 3988292384 else shr1 r
def crc8 (r : Int) : Nat → Int
  | 0 => r
  | n + 1 => crcStep (crc8 r n)
def crcB (xs : List Int) : Nat → Int
  | 0 => 4294967295
  | n + 1 => crc8 (bitX (crcB xs n) (IntKind.wrap .u32 (xs.getD n 0))) 8
def crcV (xs : List Int) : Int := bitX (crcB xs xs.length) 4294967295
def c36 : Con := Con.of ⟨[(false, 0, tyB)], [(0, .int .u32)], fun x => x.1.length ≤ 1048576, fun x y _ => y.1 = crcV x.1⟩
theorem ok36 : FnOK Tryd.prog 36 c36 := by
  refine FnOK.of_vc mixed tabOk .nil Tryd.func36 rfl (by decide) lv36 hd36 ?_
  rintro ⟨(xs : List Int), ⟨⟩⟩ (hl : xs.length ≤ 1048576) hwf
  generalize hM : real = M
  cbv
  refine ⟨fun m Γ => ∃ (i : Nat) (j : Int) (r : Int), j = i ∧ i ≤ xs.length ∧ r = crcB xs i ∧ m = xs.length - i ∧ Γ = ⟨34, [(0, .pv [] (.sl (.int .u8)) xs), (3, .pv [] (.int .u32) r), (4, .pv [] (.int .i64) j)], [], [.hole 0]⟩, ⟨_, 0, 0, _, rfl, Nat.zero_le _, rfl, rfl, rfl⟩, ?_⟩
  rintro m _ ⟨i, j, r, hj, hi, hr, rfl, rfl⟩ -
  cbv
  refine splM (fun h => ?_) (fun h => ?_) <;> cbv
  · have hin : i < xs.length := by
      (try subst hM); (try simp only [jqn] at *); (try simp only [jqi] at *); (try simp only [real, jq1, jq2, jq3, jq4, jq5, jq6, sEq_dec, Bool.not_true, Bool.not_false, gt_iff_lt, ge_iff_le] at *)
      omega
    (try simp only [jqn] at hi hj); (try simp only [jqi] at hi hj)
    repeat' (first | (refine And.intro (fun _ => by first | exact drawRd rfl (by decide +kernel) | exact drawTail (by decide +kernel)) ?_; cbv) | (refine And.intro (by (try subst hM); (try simp only [jqn] at *); (try simp only [jqi] at *); (try simp only [real, jq1, jq2, jq3, jq4, jq5, jq6, sEq_dec, Bool.not_true, Bool.not_false, gt_iff_lt, ge_iff_le] at *); omega) ?_; cbv))
    have hji : j.toNat = i := by rw [hj]; simp
    refine ⟨fun m Γ => ∃ (n2 : Nat) (j2 q : Int), j2 = n2 ∧ n2 ≤ 8 ∧ q = crc8 (bitX (crcB xs i) (IntKind.wrap .u32 (xs.getD i 0))) n2 ∧ m = 8 - n2 ∧ Γ = ⟨34, [(0, .pv [] (.sl (.int .u8)) xs), (3, .pv [] (.int .u32) q), (4, .pv [] (.int .i64) j), (5, .pv [] (.int .i64) j2)], [], [.hole 0]⟩, ⟨_, 0, 0, _, rfl, by omega, ?_, rfl, rfl⟩, ?_⟩
    · (try subst hM); (try simp only [jqn] at *); (try simp only [jqi] at *); (try simp only [real, jq1, jq2, jq3, jq4, jq5, jq6, sEq_dec, Bool.not_true, Bool.not_false, gt_iff_lt, ge_iff_le] at *)
      simp only [hji, hr]; rfl
    rintro m _ ⟨n2, j2, q, hj2, hi2, hq, rfl, rfl⟩ -
    cbv
    refine splM (fun h2 => ?_) (fun h2 => ?_) <;> cbv
    · have hin2 : n2 < 8 := by
        (try subst hM); (try simp only [jqn] at *); (try simp only [jqi] at *); (try simp only [real, jq1, jq2, jq3, jq4, jq5, jq6, sEq_dec, Bool.not_true, Bool.not_false, gt_iff_lt, ge_iff_le] at *)
        omega
      (try simp only [jqn] at hi2 hj2); (try simp only [jqi] at hi2 hj2)
      repeat' (first | (refine splM (fun h3 => ?_) (fun h3 => ?_) <;> cbv) | (refine And.intro (fun _ => by first | exact drawRd rfl (by decide +kernel) | exact drawTail (by decide +kernel)) ?_; cbv) | (refine And.intro (by (try subst hM); (try simp only [jqn] at *); (try simp only [jqi] at *); (try simp only [real, jq1, jq2, jq3, jq4, jq5, jq6, sEq_dec, Bool.not_true, Bool.not_false, gt_iff_lt, ge_iff_le] at *); omega) ?_; cbv))
      all_goals
        refine ⟨8 - (n2 + 1), by omega, n2 + 1, _, _, ?_, hin2, ?_, rfl, rfl⟩
        · (try subst hM); (try simp only [jqn] at *); (try simp only [jqi] at *); (try simp only [real, jq1, jq2, jq3, jq4, jq5, jq6, sEq_dec, Bool.not_true, Bool.not_false, gt_iff_lt, ge_iff_le] at *)
          rw [hj2, w64 (by omega)]; omega
        · (try subst hM); (try simp only [jqn] at *); (try simp only [jqi] at *); (try simp only [real, jq1, jq2, jq3, jq4, jq5, jq6, sEq_dec, Bool.not_true, Bool.not_false, gt_iff_lt, ge_iff_le] at *)
          show _ = crcStep (crc8 _ n2)
          rw [← hq]
          unfold crcStep
          first
            | (rw [if_pos (by exact h3)]; rfl)
            | (rw [if_neg (by exact h3)]; rfl)
    · have hn2 : n2 = 8 := by
        (try subst hM); (try simp only [jqn] at *); (try simp only [jqi] at *); (try simp only [real, jq1, jq2, jq3, jq4, jq5, jq6, sEq_dec, Bool.not_true, Bool.not_false, gt_iff_lt, ge_iff_le] at *)
        omega
      subst hn2
      refine ⟨xs.length - (i + 1), by omega, i + 1, _, _, ?_, hin, ?_, rfl, rfl⟩
      · (try subst hM); (try simp only [jqn] at *); (try simp only [jqi] at *); (try simp only [real, jq1, jq2, jq3, jq4, jq5, jq6, sEq_dec, Bool.not_true, Bool.not_false, gt_iff_lt, ge_iff_le] at *)
        rw [hj, w64 (by omega)]; omega
      · rw [hq]; rfl
  · rintro -
    (try subst hM); (try simp only [jqn] at *); (try simp only [jqi] at *); (try simp only [real, jq1, jq2, jq3, jq4, jq5, jq6, sEq_dec, Bool.not_true, Bool.not_false, gt_iff_lt, ge_iff_le] at *)
    have : i = xs.length := by omega
    subst this
    show _ = crcV xs
    rw [hr]; rfl
theorem ok44 : FnOK Tryd.prog 44 c36 := by
  refine FnOK.of_vc mixed tabOk .nil Tryd.func44 rfl (by decide) lv44 hd44 ?_
  rintro ⟨(xs : List Int), ⟨⟩⟩ (hl : xs.length ≤ 1048576) hwf
  generalize hM : real = M
  cbv
  refine ⟨fun m Γ => ∃ (i : Nat) (j : Int) (r : Int), j = i ∧ i ≤ xs.length ∧ r = crcB xs i ∧ m = xs.length - i ∧ Γ = ⟨30, [(3, .pv [] (.int .u32) r), (6, .pv [] (.sl (.int .u8)) xs), (7, .pv [] (.int .i64) (M.ofN (M.len xs))), (8, .pv [] (.int .i64) j)], [], [.hole 0]⟩, ⟨_, 0, 0, _, rfl, Nat.zero_le _, rfl, rfl, rfl⟩, ?_⟩
  rintro m _ ⟨i, j, r, hj, hi, hr, rfl, rfl⟩ -
  cbv
  refine splM (fun h => ?_) (fun h => ?_) <;> cbv
  · have hin : i < xs.length := by
      (try subst hM); (try simp only [jqn] at *); (try simp only [jqi] at *); (try simp only [real, jq1, jq2, jq3, jq4, jq5, jq6, sEq_dec, Bool.not_true, Bool.not_false, gt_iff_lt, ge_iff_le] at *)
      omega
    (try simp only [jqn] at hi hj); (try simp only [jqi] at hi hj)
    repeat' (first | (refine And.intro (fun _ => by first | exact drawRd rfl (by decide +kernel) | exact drawTail (by decide +kernel)) ?_; cbv) | (refine And.intro (by (try subst hM); (try simp only [jqn] at *); (try simp only [jqi] at *); (try simp only [real, jq1, jq2, jq3, jq4, jq5, jq6, sEq_dec, Bool.not_true, Bool.not_false, gt_iff_lt, ge_iff_le] at *); omega) ?_; cbv))
    have hji : j.toNat = i := by rw [hj]; simp
    refine ⟨fun m Γ => ∃ (n2 : Nat) (j2 q : Int), j2 = n2 ∧ n2 ≤ 8 ∧ q = crc8 (bitX (crcB xs i) (IntKind.wrap .u32 (xs.getD i 0))) n2 ∧ m = 8 - n2 ∧ Γ = ⟨30, [(3, .pv [] (.int .u32) q), (6, .pv [] (.sl (.int .u8)) xs), (7, .pv [] (.int .i64) (M.ofN (M.len xs))), (8, .pv [] (.int .i64) j), (16, .pv [] (.int .i64) j2)], [], [.hole 0]⟩, ⟨_, 0, 0, _, rfl, by omega, ?_, rfl, rfl⟩, ?_⟩
    · (try subst hM); (try simp only [jqn] at *); (try simp only [jqi] at *); (try simp only [real, jq1, jq2, jq3, jq4, jq5, jq6, sEq_dec, Bool.not_true, Bool.not_false, gt_iff_lt, ge_iff_le] at *)
      simp only [hji, hr]; rfl
    rintro m _ ⟨n2, j2, q, hj2, hi2, hq, rfl, rfl⟩ -
    cbv
    refine splM (fun h2 => ?_) (fun h2 => ?_) <;> cbv
    · have hin2 : n2 < 8 := by
        (try subst hM); (try simp only [jqn] at *); (try simp only [jqi] at *); (try simp only [real, jq1, jq2, jq3, jq4, jq5, jq6, sEq_dec, Bool.not_true, Bool.not_false, gt_iff_lt, ge_iff_le] at *)
        omega
      (try simp only [jqn] at hi2 hj2); (try simp only [jqi] at hi2 hj2)
      repeat' (first | (refine splM (fun h3 => ?_) (fun h3 => ?_) <;> cbv) | (refine And.intro (fun _ => by first | exact drawRd rfl (by decide +kernel) | exact drawTail (by decide +kernel)) ?_; cbv) | (refine And.intro (by (try subst hM); (try simp only [jqn] at *); (try simp only [jqi] at *); (try simp only [real, jq1, jq2, jq3, jq4, jq5, jq6, sEq_dec, Bool.not_true, Bool.not_false, gt_iff_lt, ge_iff_le] at *); omega) ?_; cbv))
      all_goals
        refine ⟨8 - (n2 + 1), by omega, n2 + 1, _, _, ?_, hin2, ?_, rfl, rfl⟩
        · (try subst hM); (try simp only [jqn] at *); (try simp only [jqi] at *); (try simp only [real, jq1, jq2, jq3, jq4, jq5, jq6, sEq_dec, Bool.not_true, Bool.not_false, gt_iff_lt, ge_iff_le] at *)
          rw [hj2, w64 (by omega)]; omega
        · (try subst hM); (try simp only [jqn] at *); (try simp only [jqi] at *); (try simp only [real, jq1, jq2, jq3, jq4, jq5, jq6, sEq_dec, Bool.not_true, Bool.not_false, gt_iff_lt, ge_iff_le] at *)
          show _ = crcStep (crc8 _ n2)
          rw [← hq]
          unfold crcStep
          first
            | (rw [if_pos (by exact h3)]; rfl)
            | (rw [if_neg (by exact h3)]; rfl)
    · have hn2 : n2 = 8 := by
        (try subst hM); (try simp only [jqn] at *); (try simp only [jqi] at *); (try simp only [real, jq1, jq2, jq3, jq4, jq5, jq6, sEq_dec, Bool.not_true, Bool.not_false, gt_iff_lt, ge_iff_le] at *)
        omega
      subst hn2
      refine ⟨xs.length - (i + 1), by omega, i + 1, _, _, ?_, hin, ?_, rfl, rfl⟩
      · (try subst hM); (try simp only [jqn] at *); (try simp only [jqi] at *); (try simp only [real, jq1, jq2, jq3, jq4, jq5, jq6, sEq_dec, Bool.not_true, Bool.not_false, gt_iff_lt, ge_iff_le] at *)
        rw [hj, w64 (by omega)]; omega
      · rw [hq]; rfl
  · rintro -
    (try subst hM); (try simp only [jqn] at *); (try simp only [jqi] at *); (try simp only [real, jq1, jq2, jq3, jq4, jq5, jq6, sEq_dec, Bool.not_true, Bool.not_false, gt_iff_lt, ge_iff_le] at *)
    have : i = xs.length := by omega
    subst this
    show _ = crcV xs
    unfold crcV
    rw [hr]
    unfold bitX
    rw [BitVec.xor_comm]; rfl
end Go.Proofs.YtmjeghlfmhbjdaaDoor.EngTab

/- Contracts of the codecs' functions, sixth text: the specification's table. -/
namespace Go.Proofs.YtmjeghlfmhbjdaaDoor.EngTab
open Go.Proofs.YtmjeghlfmhbjdaaDoor.Eng
open PUnit (unit)
set_option maxRecDepth 100000
set_option linter.unusedVariables false
set_option linter.unusedSimpArgs false
def fillB (out : List Int) : List Int := out ++ List.replicate (124 - out.length) 0
def sealB (out : List Int) : List Int := fillB out ++ numB (crcV (fillB out)) 4
def c40 : Con := Con.of ⟨[(false, 1, tyB)], [(1, tyB)], fun x => x.1.length ≤ 124, fun x y _ => y.1 = sealB x.1⟩
theorem wrap_crc (x : Int) (h : 0 ≤ x ∧ x ≤ 4294967295) : IntKind.wrap .i64 x = x := w64 (by omega)
theorem ok40 : FnOK Tryd.prog 40 c40 := by
  refine FnOK.of_vc mixed tabOk (.cons en39 ok39 (.cons en36 ok36 .nil)) Tryd.func40 rfl (by decide) lv40 hd40 ?_
  rintro ⟨(out : List Int), ⟨⟩⟩ (hl : out.length ≤ 124) hwf
  generalize hM : real = M
  cbv
  refine ⟨fun m Γ => ∃ (n : Nat) (xs : List Int), xs = out ++ List.replicate n 0 ∧ out.length + n ≤ 124 ∧ m = 124 - (out.length + n) ∧ Γ = ⟨14, [(0, .ref 0)], [(0, .row 0 (.int .u8) xs)], [.hole 0]⟩, ⟨_, 0, _, by simp, by omega, rfl, rfl⟩, ?_⟩
  rintro m _ ⟨n, xs, hx, hn, rfl, rfl⟩ -
  cbv
  refine splM (fun h => ?_) (fun h => ?_) <;> cbv
  · have hlt : out.length + n < 124 := by
      (try subst hM); (try simp only [jqn] at *); (try simp only [jqi] at *); (try simp only [real, jq1, jq2, jq3, jq4, jq5, jq6, sEq_dec, Bool.not_true, Bool.not_false, gt_iff_lt, ge_iff_le] at *)
      subst hx
      simp at *
      omega
    refine ⟨by (try subst hM); (try simp only [jqn] at *); (try simp only [jqi] at *); (try simp only [real, jq1, jq2, jq3, jq4, jq5, jq6, sEq_dec, Bool.not_true, Bool.not_false, gt_iff_lt, ge_iff_le] at *); subst hx; simp; omega, 124 - (out.length + (n + 1)), by omega, n + 1, _, ?_, by omega, rfl, rfl⟩
    (try subst hM); (try simp only [jqn] at *); (try simp only [jqi] at *); (try simp only [real, jq1, jq2, jq3, jq4, jq5, jq6, sEq_dec, Bool.not_true, Bool.not_false, gt_iff_lt, ge_iff_le] at *)
    subst hx
    simp [List.replicate_succ']
  · have hlt : out.length + n = 124 := by
      (try subst hM); (try simp only [jqn] at *); (try simp only [jqi] at *); (try simp only [real, jq1, jq2, jq3, jq4, jq5, jq6, sEq_dec, Bool.not_true, Bool.not_false, gt_iff_lt, ge_iff_le] at *)
      subst hx
      simp at *
      omega
    have hxs : xs = fillB out := by rw [hx]; unfold fillB; congr 2; omega
    have hlen : xs.length = 124 := by rw [hx]; simp; omega
    refine ⟨fun _ => (by show xs.length ≤ 1048576; omega), ?_⟩
    rintro ⟨(y : Int), ⟨⟩⟩ x' (hy : y = crcV xs) hw -
    have hk : InK .u32 y := hw.1
    have hk2 : 0 ≤ y ∧ y ≤ 4294967295 := hk
    cbv
    refine ⟨fun _ => ⟨(by show (0 : Int) ≤ 4; omega), (by show (4 : Int) ≤ 8; omega), (by show xs.length ≤ 1000; omega)⟩, ?_⟩
    rintro ⟨(z : List Int), ⟨⟩⟩ x'' (hz : z = xs ++ numB (M.wrap .i64 y) 4) - -
    cbv
    rintro -
    (try subst hM); (try simp only [jqn] at *); (try simp only [jqi] at *); (try simp only [real, jq1, jq2, jq3, jq4, jq5, jq6, sEq_dec, Bool.not_true, Bool.not_false, gt_iff_lt, ge_iff_le] at *)
    show z = sealB out
    rw [hz, wrap_crc _ hk2, hy, hxs]; rfl
def c51 : Con := Con.of ⟨[(false, 0, .sl tyRun), (false, 0, .int .i64)], [(0, .bool)], fun x => x.1.length ≤ 1048576 ∧ x.2.1 = 512, fun x y _ => (y.1 = true ↔ ordR x.1)⟩
theorem ok51 : FnOK Tryd.prog 51 c51 := by
  refine FnOK.of_vc mixed tabOk .nil Tryd.func51 rfl (by decide) lv51 hd51 ?_
  rintro ⟨(rs : List RunD), (top : Int), ⟨⟩⟩ ⟨(hl : rs.length ≤ 1048576), (ht : top = 512)⟩ hwf
  generalize hM : real = M
  cbv
  refine ⟨fun m Γ => ∃ (i : Nat) (j : Int), j = i ∧ i ≤ rs.length ∧ (∀ k, k < i → okAt rs k) ∧ m = rs.length - i ∧ Γ = ⟨89, [(0, .pv [] (.sl tyRun) rs), (1, .pv [] (.int .i64) top), (5, .pv [] (.int .i64) j)], [], [.hole 0, .hole 0]⟩, ⟨_, 0, 0, rfl, Nat.zero_le _, by omega, rfl, rfl⟩, ?_⟩
  rintro m _ ⟨i, j, hj, hi, hx, rfl, rfl⟩ -
  cbv
  refine splM (fun h => ?_) (fun h => ?_) <;> cbv
  · have hin : i < rs.length := by
      (try subst hM); (try simp only [jqn] at *); (try simp only [jqi] at *); (try simp only [real, jq1, jq2, jq3, jq4, jq5, jq6, sEq_dec, Bool.not_true, Bool.not_false, gt_iff_lt, ge_iff_le] at *)
      omega
    (try simp only [jqn] at hi hj); (try simp only [jqi] at hi hj)
    have hji : j.toNat = i := by rw [hj]; simp
    have e0 : rs.getD j.toNat (0, 0, 0, unit) = runAt rs i := by rw [hji]; rfl
    have e1 : 0 < i → IntKind.wrap .i64 (j - 1) = ((i - 1 : Nat) : Int) := fun hi0 => by rw [hj, w64 (by omega)]; omega
    have ep : rs.getD (((i - 1 : Nat) : Int)).toNat (0, 0, 0, unit) = runAt rs (i - 1) := by rw [Int.toNat_natCast]; rfl
    have bad : ¬ okAt rs i → ((false = true) ↔ ordR rs) := fun hs => bad144 hin hs
    have good : okAt rs i → ∀ k, k < i + 1 → okAt rs k := fun hs k hk => by
      by_cases hk2 : k < i
      · exact hx k hk2
      · have : k = i := by omega
        subst this
        exact hs
    have hwp : 0 < i → IntKind.wrap .i64 ((runAt rs (i - 1)).1 + (runAt rs (i - 1)).2.1) = (runAt rs (i - 1)).1 + (runAt rs (i - 1)).2.1 := fun hi0 => w64 (by obtain ⟨o1, o2, o3, o4, o5, o6, o7⟩ := (hx (i - 1) (by omega)).1; omega)
    repeat' (first | (refine splM (fun h => ?_) (fun h => ?_) <;> cbv) | (refine And.intro (fun _ => by first | exact drawRd rfl (by decide +kernel) | exact drawTail (by decide +kernel)) ?_; cbv) | (refine And.intro (by (try subst hM); (try simp only [jqn] at *); (try simp only [jqi] at *); (try simp only [real, jq1, jq2, jq3, jq4, jq5, jq6, sEq_dec, Bool.not_true, Bool.not_false, gt_iff_lt, ge_iff_le] at *); (try rw [e1 (by omega)]); omega) ?_; cbv))
    all_goals first
      | (rintro -; refine bad (fun hs => ?_); obtain ⟨⟨o1, o2, o3, o4, o5, o6, o7⟩, o8⟩ := hs; (try subst hM); (try simp only [jqn] at *); (try simp only [jqi] at *); (try simp only [real, jq1, jq2, jq3, jq4, jq5, jq6, sEq_dec, Bool.not_true, Bool.not_false, gt_iff_lt, ge_iff_le] at *); have hw := w64 (x := (runAt rs i).1 + (runAt rs i).2.1) (by omega); simp only [e0, hw] at *; omega)
      | (rintro -; refine bad (fun hs => ?_); obtain ⟨⟨o1, o2, o3, o4, o5, o6, o7⟩, o8⟩ := hs; (try subst hM); (try simp only [jqn] at *); (try simp only [jqi] at *); (try simp only [real, jq1, jq2, jq3, jq4, jq5, jq6, sEq_dec, Bool.not_true, Bool.not_false, gt_iff_lt, ge_iff_le] at *); have hi0 : 0 < i := by omega
         have hw := w64 (x := (runAt rs i).1 + (runAt rs i).2.1) (by omega)
         have o9 := o8 hi0; unfold stepOK at o9; simp only [e0, e1 hi0, ep, hwp hi0, hw] at *; omega)
      | (refine ⟨rs.length - (i + 1), by omega, i + 1, _, ?_, hin, good ?_, rfl, rfl⟩
         · (try subst hM); (try simp only [jqn] at *); (try simp only [jqi] at *); (try simp only [real, jq1, jq2, jq3, jq4, jq5, jq6, sEq_dec, Bool.not_true, Bool.not_false, gt_iff_lt, ge_iff_le] at *)
           rw [hj, w64 (by omega)]; omega
         · (try subst hM); (try simp only [jqn] at *); (try simp only [jqi] at *); (try simp only [real, jq1, jq2, jq3, jq4, jq5, jq6, sEq_dec, Bool.not_true, Bool.not_false, gt_iff_lt, ge_iff_le] at *)
           simp only [e0] at *
           have hw := w64 (x := (runAt rs i).1 + (runAt rs i).2.1) (by omega)
           simp only [hw] at *
           refine ⟨⟨?_, ?_, ?_, ?_, ?_, ?_, ?_⟩, fun hi0 => ?_⟩
           all_goals (first | omega | (simp only [e1 hi0, ep, hwp hi0] at *; unfold stepOK; omega)))
  · rintro -
    (try subst hM); (try simp only [jqn] at *); (try simp only [jqi] at *); (try simp only [real, jq1, jq2, jq3, jq4, jq5, jq6, sEq_dec, Bool.not_true, Bool.not_false, gt_iff_lt, ge_iff_le] at *)
    have : i = rs.length := by omega
    subst this
    exact ⟨fun _ => hx, fun _ => rfl⟩
end Go.Proofs.YtmjeghlfmhbjdaaDoor.EngTab

/- Contracts of the codecs' functions, seventh text: the specification's EncodeTable. -/
namespace Go.Proofs.YtmjeghlfmhbjdaaDoor.EngTab
open Go.Proofs.YtmjeghlfmhbjdaaDoor.Eng
open PUnit (unit)
set_option maxRecDepth 100000
set_option linter.unusedVariables false
set_option linter.unusedSimpArgs false
def runB (r : RunD) : List Int := numB r.1 2 ++ numB r.2.1 2 ++ numB r.2.2.1 2
def runsB (rs : List RunD) : Nat → List Int
  | 0 => []
  | i + 1 => runsB rs i ++ runB (runAt rs i)
theorem runsB_len (rs : List RunD) : ∀ i, (runsB rs i).length = 6 * i
  | 0 => rfl
  | i + 1 => by simp [runsB, runB, numB_len, runsB_len rs i]; omega
def specT (next : Int) (rs : List RunD) : List Int := sealB ([3, (rs.length : Int) % 256] ++ numB next 2 ++ runsB rs rs.length)
open Classical in
noncomputable def encT (next : Int) (rs : List RunD) : List Int := if tabOK next rs then specT next rs else []
open Classical in
noncomputable def encC (p : Prop) : Int := if p then 0 else 5
def c32 : Con := Con.of ⟨[(false, 0, tyTab)], [(1, tyB), (0, .int .i64)], fun x => x.1.2.1.length ≤ 1048576, fun x y _ => y.1 = encT x.1.1 x.1.2.1 ∧ y.2.1 = encC (tabOK x.1.1 x.1.2.1)⟩
theorem ok32 : FnOK Tryd.prog 32 c32 := by
  refine FnOK.of_vc mixed tabOk (.cons en51 ok51 (.cons en39 ok39 (.cons en40 ok40 .nil))) Tryd.func32 rfl (by decide) lv32 hd32 ?_
  rintro ⟨⟨(next : Int), (rs : List RunD), ⟨⟩⟩, ⟨⟩⟩ (hl : rs.length ≤ 1048576) hwf
  generalize hM : real = M
  cbv
  have badT : ¬ tabOK next rs → c32.post ((next, rs, unit), unit) (([], 5, unit)) ((next, rs, unit), unit) := fun h => ⟨by unfold encT; rw [if_neg h], by unfold encC; rw [if_neg h]⟩
  repeat' (refine splM (fun h => ?_) (fun h => ?_) <;> cbv)
  all_goals first
    | (rintro -; refine badT (fun ho => ?_); obtain ⟨o1, o2, o3⟩ := ho; (try subst hM); (try simp only [jqn] at *); (try simp only [jqi] at *); (try simp only [real, jq1, jq2, jq3, jq4, jq5, jq6, sEq_dec, Bool.not_true, Bool.not_false, gt_iff_lt, ge_iff_le] at *); omega)
    | (refine ⟨fun _ => ⟨hl, rfl⟩, ?_⟩
       rintro ⟨(y : Bool), ⟨⟩⟩ x' (hy : y = true ↔ ordR rs) - -
       cbv
       refine splM (fun h5 => ?_) (fun h5 => ?_) <;> cbv)
    | skip
  all_goals first
    | (rintro -; refine badT (fun ho => ?_); obtain ⟨o1, o2, o3⟩ := ho; have := hy.2 o3; subst this; subst hM; cases h5)
    | skip
  all_goals
    have hyt : y = true := by cases y <;> first | rfl | (subst hM; cases h5)
    have hOK : tabOK next rs := by
      have h3 := hy.1 hyt
      (try subst hM); (try simp only [jqn] at *); (try simp only [jqi] at *); (try simp only [real, jq1, jq2, jq3, jq4, jq5, jq6, sEq_dec, Bool.not_true, Bool.not_false, gt_iff_lt, ge_iff_le] at *)
      exact ⟨by omega, by omega, h3⟩
    have hl20 : rs.length ≤ 20 := hOK.2.1
    refine ⟨fun _ => ⟨(by show (0 : Int) ≤ 2; omega), (by show (2 : Int) ≤ 8; omega), (by show 2 ≤ 1000; omega)⟩, ?_⟩
    rintro ⟨(z : List Int), ⟨⟩⟩ x'' (hz : z = [3, M.wrap .u8 (M.ofN (M.len rs))] ++ numB next 2) - -
    cbv
    have hz0 : z = [3, (rs.length : Int) % 256] ++ numB next 2 := by
      rw [hz]
      (try subst hM); (try simp only [jqn] at *); (try simp only [jqi] at *); (try simp only [real, jq1, jq2, jq3, jq4, jq5, jq6, sEq_dec, Bool.not_true, Bool.not_false, gt_iff_lt, ge_iff_le] at *)
      rw [wrap8_mod]
    have hzl : z.length = 4 := by rw [hz0]; simp [numB_len]
    refine ⟨fun m Γ => ∃ (i : Nat) (j : Int) (r : Nat) (xs : List Int), (r = 1 ∨ r = 2) ∧ j = i ∧ i ≤ rs.length ∧ xs = z ++ runsB rs i ∧ m = rs.length - i ∧ Γ = ⟨72, [(1, .ad 0 tyTab 0 []), (4, .ref r), (5, .pv [] (.int .i64) j)], [(0, .box (.consA (.pv [] (.int .i64) next) (.consA (.pv [] (.sl tyRun) rs) .nilA))), (r, .row 0 (.int .u8) xs)], [.hole 0]⟩, ⟨_, 0, 0, 2, _, .inr rfl, rfl, Nat.zero_le _, by simp [runsB], rfl, rfl⟩, ?_⟩
    rintro m _ ⟨i, j, r, xs, hr, hj, hi, hx, rfl, rfl⟩ -
    have hxl : xs.length = 4 + 6 * i := by rw [hx, List.length_append, hzl, runsB_len]
    rcases hr with rfl | rfl <;> cbv
    all_goals
      refine splM (fun h6 => ?_) (fun h6 => ?_) <;> cbv
      · have hin : i < rs.length := by
          (try subst hM); (try simp only [jqn] at *); (try simp only [jqi] at *); (try simp only [real, jq1, jq2, jq3, jq4, jq5, jq6, sEq_dec, Bool.not_true, Bool.not_false, gt_iff_lt, ge_iff_le] at *)
          omega
        (try simp only [jqn] at hi hj hxl); (try simp only [jqi] at hi hj hxl)
        have hji : j.toNat = i := by rw [hj]; simp
        have e0 : rs.getD j.toNat (0, 0, 0, unit) = runAt rs i := by rw [hji]; rfl
        refine ⟨by (try subst hM); (try simp only [jqn] at *); (try simp only [jqi] at *); (try simp only [real, jq1, jq2, jq3, jq4, jq5, jq6, sEq_dec, Bool.not_true, Bool.not_false, gt_iff_lt, ge_iff_le] at *); omega, by (try subst hM); (try simp only [jqn] at *); (try simp only [jqi] at *); (try simp only [real, jq1, jq2, jq3, jq4, jq5, jq6, sEq_dec, Bool.not_true, Bool.not_false, gt_iff_lt, ge_iff_le] at *); omega, fun _ => ⟨(by show (0 : Int) ≤ 2; omega), (by show (2 : Int) ≤ 8; omega), (by show xs.length ≤ 1000; omega)⟩, ?_⟩
        rintro ⟨(y1 : List Int), ⟨⟩⟩ q1 (hy1 : y1 = xs ++ numB (M.get rs j (0, 0, 0, unit)).1 2) - -
        have hl1 : y1.length = xs.length + 2 := by rw [hy1]; simp [numB_len]
        cbv
        refine ⟨by (try subst hM); (try simp only [jqn] at *); (try simp only [jqi] at *); (try simp only [real, jq1, jq2, jq3, jq4, jq5, jq6, sEq_dec, Bool.not_true, Bool.not_false, gt_iff_lt, ge_iff_le] at *); omega, by (try subst hM); (try simp only [jqn] at *); (try simp only [jqi] at *); (try simp only [real, jq1, jq2, jq3, jq4, jq5, jq6, sEq_dec, Bool.not_true, Bool.not_false, gt_iff_lt, ge_iff_le] at *); omega, fun _ => ⟨(by show (0 : Int) ≤ 2; omega), (by show (2 : Int) ≤ 8; omega), (by show y1.length ≤ 1000; omega)⟩, ?_⟩
        rintro ⟨(y2 : List Int), ⟨⟩⟩ q2 (hy2 : y2 = y1 ++ numB (M.get rs j (0, 0, 0, unit)).2.1 2) - -
        have hl2 : y2.length = y1.length + 2 := by rw [hy2]; simp [numB_len]
        cbv
        refine ⟨by (try subst hM); (try simp only [jqn] at *); (try simp only [jqi] at *); (try simp only [real, jq1, jq2, jq3, jq4, jq5, jq6, sEq_dec, Bool.not_true, Bool.not_false, gt_iff_lt, ge_iff_le] at *); omega, by (try subst hM); (try simp only [jqn] at *); (try simp only [jqi] at *); (try simp only [real, jq1, jq2, jq3, jq4, jq5, jq6, sEq_dec, Bool.not_true, Bool.not_false, gt_iff_lt, ge_iff_le] at *); omega, fun _ => ⟨(by show (0 : Int) ≤ 2; omega), (by show (2 : Int) ≤ 8; omega), (by show y2.length ≤ 1000; omega)⟩, ?_⟩
        rintro ⟨(y3 : List Int), ⟨⟩⟩ q3 (hy3 : y3 = y2 ++ numB (M.get rs j (0, 0, 0, unit)).2.2.1 2) - -
        cbv
        have hfin : y3 = z ++ runsB rs (i + 1) := by
          subst hM
          rw [hy3, hy2, hy1, hx]
          show _ = z ++ (runsB rs i ++ (numB (runAt rs i).1 2 ++ numB (runAt rs i).2.1 2 ++ numB (runAt rs i).2.2.1 2))
          rw [← e0]
          simp only [List.append_assoc]; rfl
        first
          | (refine ⟨rs.length - (i + 1), by omega, i + 1, _, 1, _, .inl rfl, ?_, hin, hfin, rfl, rfl⟩
             (try subst hM); (try simp only [jqn] at *); (try simp only [jqi] at *); (try simp only [real, jq1, jq2, jq3, jq4, jq5, jq6, sEq_dec, Bool.not_true, Bool.not_false, gt_iff_lt, ge_iff_le] at *)
             rw [hj, w64 (by omega)]; omega)
          | (refine ⟨rs.length - (i + 1), by omega, i + 1, _, 2, _, .inr rfl, ?_, hin, hfin, rfl, rfl⟩
             (try subst hM); (try simp only [jqn] at *); (try simp only [jqi] at *); (try simp only [real, jq1, jq2, jq3, jq4, jq5, jq6, sEq_dec, Bool.not_true, Bool.not_false, gt_iff_lt, ge_iff_le] at *)
             rw [hj, w64 (by omega)]; omega)
      · have hie : i = rs.length := by
          (try subst hM); (try simp only [jqn] at *); (try simp only [jqi] at *); (try simp only [real, jq1, jq2, jq3, jq4, jq5, jq6, sEq_dec, Bool.not_true, Bool.not_false, gt_iff_lt, ge_iff_le] at *)
          omega
        subst hie
        refine ⟨fun _ => (by show xs.length ≤ 124; omega), ?_⟩
        rintro ⟨(y : List Int), ⟨⟩⟩ q (hyy : y = sealB xs) - -
        cbv
        rintro -
        refine ⟨?_, by unfold encC; rw [if_pos hOK]⟩
        show y = encT next rs
        unfold encT
        rw [if_pos hOK, hyy, hx, hz0]; rfl
end Go.Proofs.YtmjeghlfmhbjdaaDoor.EngTab

/- The codecs' plain law: what is laid down piece by piece is what is appended piece by piece. -/
namespace Go.Proofs.YtmjeghlfmhbjdaaDoor.EngTab
open Go.Proofs.YtmjeghlfmhbjdaaDoor.Eng
open PUnit (unit)
set_option linter.unusedVariables false
theorem ovr_pad {p ys : List Int} {m : Nat} {at' : Int} (ha : at' = p.length) (h : ys.length ≤ m) : ovr (p ++ List.replicate m 0) at' ys = p ++ ys ++ List.replicate (m - ys.length) 0 := by
  unfold ovr
  have : at'.toNat = p.length := by rw [ha]; simp
  rw [this, List.take_left, List.drop_append, List.drop_of_length_le (by omega)]
  simp
theorem begB_eq (k c : Int) : begB k c = [k % 256, c % 256] ++ List.replicate 126 0 := rfl
theorem layR_eq {hd : List Int} {rs : List RunD} (hl : hd.length = 4) : ∀ i, i ≤ 20 → layR (hd ++ List.replicate 124 0) rs i = (hd ++ runsB rs i) ++ List.replicate (124 - 6 * i) 0
  | 0, _ => by simp [layR, runsB]
  | i + 1, h => by
    unfold layR
    rw [layR_eq hl i (by omega)]
    unfold putRun
    have e0 : rs.getD i (0, 0, 0, ()) = runAt rs i := rfl
    rw [e0]
    have l0 : (hd ++ runsB rs i).length = 4 + 6 * i := by rw [List.length_append, hl, runsB_len]
    rw [ovr_pad (by rw [l0]; omega) (by rw [numB_len]; omega)]
    rw [ovr_pad (by rw [List.length_append, l0, numB_len]; omega) (by simp only [numB_len]; omega)]
    rw [ovr_pad (by rw [List.length_append, List.length_append, l0, numB_len, numB_len]; omega) (by simp only [numB_len]; omega)]
    have er : runsB rs (i + 1) = runsB rs i ++ runB (runAt rs i) := rfl
    rw [er]
    unfold runB
    simp only [List.append_assoc, numB_len]
    rw [show 124 - 6 * i - 2 - 2 - 2 = 124 - 6 * (i + 1) by omega]
def sumB (b : List Int) : List Int := ovr b 124 (numB (crcV (b.take 124)) 4)
theorem sum_seal {p : List Int} (h : p.length ≤ 124) : sumB (p ++ List.replicate (128 - p.length) 0) = sealB p := by
  have e : p ++ List.replicate (128 - p.length) 0 = fillB p ++ List.replicate 4 (0 : Int) := by
    unfold fillB
    rw [List.append_assoc, List.replicate_append_replicate]
    congr 2
    omega
  have hl : (fillB p).length = 124 := by unfold fillB; simp; omega
  rw [e]
  unfold sumB sealB
  rw [show (fillB p ++ List.replicate 4 (0 : Int)).take 124 = fillB p by rw [← hl, List.take_left]]
  rw [ovr_pad (by rw [hl]; rfl) (by rw [numB_len]; omega), numB_len]
  simp
theorem layT_eq (k next : Int) {rs : List RunD} (h : rs.length ≤ 20) : layT k rs.length next rs = ([k % 256, (rs.length : Int) % 256] ++ numB next 2 ++ runsB rs rs.length) ++ List.replicate (128 - ([k % 256, (rs.length : Int) % 256] ++ numB next 2 ++ runsB rs rs.length).length) 0 := by
  unfold layT
  rw [begB_eq, ovr_pad (by rfl) (by rw [numB_len]; omega), numB_len, layR_eq (by simp [numB_len]) _ h]
  congr 2
  simp [numB_len, runsB_len]; omega
theorem encT_sum {next : Int} {rs : List RunD} (h : tabOK next rs) : sumB (layT 3 rs.length next rs) = encT next rs := by
  rw [layT_eq 3 next h.2.1]
  unfold encT
  rw [if_pos h]
  exact sum_seal (by simp [numB_len, runsB_len]; have := h.2.1; omega)
end Go.Proofs.YtmjeghlfmhbjdaaDoor.EngTab

/- Contracts of the codecs' functions: impl.encode at tables and superblocks. -/
namespace Go.Proofs.YtmjeghlfmhbjdaaDoor.EngTab
open Go.Proofs.YtmjeghlfmhbjdaaDoor.Eng
open PUnit (unit)
set_option maxRecDepth 100000
set_option linter.unusedVariables false
set_option linter.unusedSimpArgs false
abbrev tyMisp : Ty := .pair (.int .i64) (.pair .any .unit)
abbrev tyErr : Ty := .ialt 96 (.ptr tyMisp) .inil
abbrev tyF2 : Ty := .ialt 83 tyTF (.ialt 87 tySF .inil)
def tabM : Tab := tabW.meth [(83, "loop.example/s01595/impl.sound", 89), (83, "loop.example/s01595/impl.lay", 88), (87, "loop.example/s01595/impl.sound", 92), (87, "loop.example/s01595/impl.lay", 91)]
theorem tabMOk : TabOk Tryd.prog tabM := tabWOk.meth (by
  simp only [List.mem_cons, List.not_mem_nil, or_false, forall_eq_or_imp, forall_eq]
  exact ⟨⟨by kernel_rfl, _, Tryd.underlying83, by simp⟩, ⟨by kernel_rfl, _, Tryd.underlying83, by simp⟩, ⟨by kernel_rfl, _, Tryd.underlying87, by simp⟩, ⟨by kernel_rfl, _, Tryd.underlying87, by simp⟩⟩)
/-- The package's faults: their values. -/
structure Sen where
  form : Value
  size : Value
  sum : Value
def Sen.gl (g : Sen) : List (Nat × Value) := [(0, g.form), (1, g.size), (2, g.sum)]
abbrev FormD : Type := ((Int × Int × Unit) × (Int × List RunD × Unit) × Unit) ⊕ (((Int × Int × Unit) × (Int × Int × Int × Int × List RootD × Unit) × Unit) ⊕ Unit)
def formOK : FormD → Prop
  | .inl f => tabOK f.2.1.1 f.2.1.2.1
  | .inr (.inl f) => supOK f.2.1.1 f.2.1.2.1 f.2.1.2.2.1 f.2.1.2.2.2.1 f.2.1.2.2.2.2.1
  | .inr (.inr _) => False
def formLay : FormD → List Int
  | .inl f => layT f.1.1 f.1.2.1 f.2.1.1 f.2.1.2.1
  | .inr (.inl f) => layS f.1.1 f.1.2.1 f.2.1.1 f.2.1.2.1 f.2.1.2.2.1 f.2.1.2.2.2.1 f.2.1.2.2.2.2.1
  | .inr (.inr _) => []
def formSz : FormD → Prop
  | .inl f => f.2.1.2.1.length ≤ 1048576
  | .inr (.inl f) => f.2.1.2.2.2.2.1.length ≤ 1048576
  | .inr (.inr _) => False
abbrev ErrD : Type := Option (Int × Value × Unit) ⊕ Unit
def c29 (g : Sen) : Con := { ps := [(false, 0, tyF2)], rs := [(1, tyB), (0, tyErr)], pre := fun x => formSz x.1, post := fun x y _ => (formOK x.1 → y.1 = sumB (formLay x.1) ∧ y.2.1 = .inr ()) ∧ (¬ formOK x.1 → y.1 = [] ∧ y.2.1 = .inl (some (-1, g.form, ()))), gl := g.gl }
theorem ok29 (g : Sen) : FnOK Tryd.prog 29 (c29 g) := by
  refine FnOK.of_vc mixed tabMOk (.cons en89 ok89 (.cons en88 ok88 (.cons en92 ok92 (.cons en91 ok91 (.cons en44 ok44 .nil))))) Tryd.func29 rfl (by show 1 ≤ Tryd.f29.ntmps; decide) lv29 hd29 ?_
  rintro ⟨(f | f | f), ⟨⟩⟩ hsz hwf
  · obtain ⟨⟨k, c, ⟨⟩⟩, ⟨next, rs, ⟨⟩⟩, ⟨⟩⟩ := f
    have hl : rs.length ≤ 1048576 := hsz
    generalize hM : real = M
    cbv
    refine ⟨fun _ => hl, ?_⟩
    rintro ⟨(y : Bool), ⟨⟩⟩ x' (hy : y = true ↔ tabOK next rs) - -
    cbv
    refine splM (fun h => ?_) (fun h => ?_) <;> cbv
    · have hyf : ¬ tabOK next rs := fun ho => by have := hy.2 ho; subst this; subst hM; cases h
      refine ⟨ot29_2, (fun _ => by kernel_rfl), ?_⟩
      cbv
      repeat' (refine And.intro ?_ ?_)
      all_goals first | trivial | skip
      rintro -
      exact ⟨fun ho => absurd ho hyf, fun _ => ⟨rfl, rfl⟩⟩
    · have hyt : y = true := by cases y <;> first | rfl | (subst hM; cases h)
      have hOK := hy.1 hyt
      refine ⟨fun _ => hOK.2.1, ?_⟩
      rintro ⟨(b : List Int), ⟨⟩⟩ x'' (hb : b = layT k c next rs) - -
      cbv
      refine ⟨ot29_4, (fun _ => by kernel_rfl), ?_⟩
      cbv
      repeat' (first
        | trivial
        | (refine And.intro (by (try subst hM); (try simp only [jqn] at *); (try simp only [jqi] at *); (try simp only [real, jq1, jq2, jq3, jq4, jq5, jq6, sEq_dec, Bool.not_true, Bool.not_false, gt_iff_lt, ge_iff_le] at *); omega) ?_)
        | (refine And.intro (fun _ => by (try subst hM); (try simp only [jqn] at *); (try simp only [jqi] at *); (try simp only [real, jq1, jq2, jq3, jq4, jq5, jq6, sEq_dec, Bool.not_true, Bool.not_false, gt_iff_lt, ge_iff_le] at *); show ((b.drop _).take _).length ≤ 1048576; simp; omega) ?_
           rintro ⟨(s : Int), ⟨⟩⟩ q (hs : s = crcV (M.cut b 0 124)) hw -
           have hk2 : 0 ≤ s ∧ s ≤ 4294967295 := (show InK .u32 s from hw.1)
           cbv)
        | (refine And.intro ?_ ?_))
      all_goals
        rintro -
        refine ⟨fun _ => ⟨?_, rfl⟩, fun hn => absurd hOK hn⟩
        (try subst hM); (try simp only [jqn] at *); (try simp only [jqi] at *); (try simp only [real, jq1, jq2, jq3, jq4, jq5, jq6, sEq_dec, Bool.not_true, Bool.not_false, gt_iff_lt, ge_iff_le] at *)
        show _ = sumB (layT k c next rs)
        rw [← hb, wrap_crc _ hk2, hs]; rfl
  · obtain ⟨⟨k, c, ⟨⟩⟩, ⟨bl, ge, ne, ta, rs, ⟨⟩⟩, ⟨⟩⟩ := f
    have hl : rs.length ≤ 1048576 := hsz
    generalize hM : real = M
    cbv
    refine ⟨fun _ => hl, ?_⟩
    rintro ⟨(y : Bool), ⟨⟩⟩ x' (hy : y = true ↔ supOK bl ge ne ta rs) - -
    cbv
    refine splM (fun h => ?_) (fun h => ?_) <;> cbv
    · have hyf : ¬ supOK bl ge ne ta rs := fun ho => by have := hy.2 ho; subst this; subst hM; cases h
      refine ⟨ot29_2, (fun _ => by kernel_rfl), ?_⟩
      cbv
      repeat' (refine And.intro ?_ ?_)
      all_goals first | trivial | skip
      rintro -
      exact ⟨fun ho => absurd ho hyf, fun _ => ⟨rfl, rfl⟩⟩
    · have hyt : y = true := by cases y <;> first | rfl | (subst hM; cases h)
      have hOK := hy.1 hyt
      refine ⟨fun _ => hOK.2.2.1.2, ?_⟩
      rintro ⟨(b : List Int), ⟨⟩⟩ x'' (hb : b = layS k c bl ge ne ta rs) - -
      cbv
      refine ⟨ot29_4, (fun _ => by kernel_rfl), ?_⟩
      cbv
      repeat' (first
        | trivial
        | (refine And.intro (by (try subst hM); (try simp only [jqn] at *); (try simp only [jqi] at *); (try simp only [real, jq1, jq2, jq3, jq4, jq5, jq6, sEq_dec, Bool.not_true, Bool.not_false, gt_iff_lt, ge_iff_le] at *); omega) ?_)
        | (refine And.intro (fun _ => by (try subst hM); (try simp only [jqn] at *); (try simp only [jqi] at *); (try simp only [real, jq1, jq2, jq3, jq4, jq5, jq6, sEq_dec, Bool.not_true, Bool.not_false, gt_iff_lt, ge_iff_le] at *); show ((b.drop _).take _).length ≤ 1048576; simp; omega) ?_
           rintro ⟨(s : Int), ⟨⟩⟩ q (hs : s = crcV (M.cut b 0 124)) hw -
           have hk2 : 0 ≤ s ∧ s ≤ 4294967295 := (show InK .u32 s from hw.1)
           cbv)
        | (refine And.intro ?_ ?_))
      all_goals
        rintro -
        refine ⟨fun _ => ⟨?_, rfl⟩, fun hn => absurd hOK hn⟩
        (try subst hM); (try simp only [jqn] at *); (try simp only [jqi] at *); (try simp only [real, jq1, jq2, jq3, jq4, jq5, jq6, sEq_dec, Bool.not_true, Bool.not_false, gt_iff_lt, ge_iff_le] at *)
        show _ = sumB (layS k c bl ge ne ta rs)
        rw [← hb, wrap_crc _ hk2, hs]; rfl
  · exact False.elim hsz
end Go.Proofs.YtmjeghlfmhbjdaaDoor.EngTab
