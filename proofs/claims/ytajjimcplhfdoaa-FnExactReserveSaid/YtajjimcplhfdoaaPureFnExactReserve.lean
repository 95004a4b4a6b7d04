/- The law FnExactReserve: for every int64 the program's Reserve and the reference's answer the same number. No condition. -/
import Derived.Test.YtajjimcplhfdoaaPFnExactReservex1
namespace Go.Proofs.Ytajjimcplhfdoaa.Pure
open Go.RowKit Go.Proofs.Ytajjimcplhfdoaa.PFnExactReserve Go.Proofs.YtajjimcplhfdoaaW.PrintWords Go.Proofs.YtajjimcplhfdoaaW.PrintLast

theorem wr {x : Int} (h0 : -9223372036854775808 ≤ x) (h1 : x < 9223372036854775808) : wrap64 x = x := by unfold wrap64; omega

theorem loop_tells (b : Int) (h8 : 8 ≤ b) (h9 : b ≤ 512) (d : Nat) : ∀ (k : Nat) (i : Int), 0 ≤ i → i * 20 < b - 2 + 20 → (b - 2 + 19) / 20 - i = d → d < k →
    spec_Reserve.l0 k b i = some ((b - 2 + 19) / 20) := by
  induction d with
  | zero =>
    intro k i h0 h1 hd hk
    obtain ⟨k, rfl⟩ : ∃ m, k = m + 1 := ⟨k - 1, by omega⟩
    simp only [spec_Reserve.l0]
    rw [wr (x := i * 20) (by omega) (by omega), wr (x := b - 2) (by omega) (by omega), if_neg (by omega)]
    congr 1; omega
  | succ d ih =>
    intro k i h0 h1 hd hk
    obtain ⟨k, rfl⟩ : ∃ m, k = m + 1 := ⟨k - 1, by omega⟩
    simp only [spec_Reserve.l0]
    rw [wr (x := i * 20) (by omega) (by omega), wr (x := b - 2) (by omega) (by omega), if_pos (by omega), wr (x := i + 1) (by omega) (by omega)]
    exact ih k (i + 1) (by omega) (by omega) (by omega) (by omega)

/-- The two answers are one. -/
theorem FnExactReserve : laws_FnExactReserve.Pure := by
  intro b _
  by_cases h8 : b < 8
  · refine ⟨1, ?_⟩
    simp [laws_FnExactReserve.f, spec_Reserve.f, spec_l1BlocksOK.f, impl_Reserve.f, h8, show ¬ 8 ≤ b by omega]
  · by_cases h9 : 512 < b
    · refine ⟨1, ?_⟩
      simp [laws_FnExactReserve.f, spec_Reserve.f, spec_l1BlocksOK.f, impl_Reserve.f, h8, h9, show 8 ≤ b by omega, show ¬ b ≤ 512 by omega]
    · refine ⟨100, ?_⟩
      have hl := loop_tells b (by omega) (by omega) ((b - 2 + 19) / 20).toNat 100 0 (by omega) (by omega) (by omega) (by omega)
      have e : wrap64 (Int.tdiv (wrap64 ((wrap64 (b - 2)) + 19)) 20) = (b - 2 + 19) / 20 := by
        rw [wr (x := b - 2) (by omega) (by omega), wr (x := b - 2 + 19) (by omega) (by omega), Int.tdiv_eq_ediv_of_nonneg (by omega)]
        exact wr (by omega) (by omega)
      simp [laws_FnExactReserve.f, spec_Reserve.f, spec_l1BlocksOK.f, impl_Reserve.f, h8, h9, show 8 ≤ b by omega, show b ≤ 512 by omega, hl, e]

end Go.Proofs.Ytajjimcplhfdoaa.Pure
