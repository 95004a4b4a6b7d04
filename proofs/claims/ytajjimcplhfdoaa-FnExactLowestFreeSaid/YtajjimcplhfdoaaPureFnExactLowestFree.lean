/- The law FnExactLowestFree: for every two lists of int64 the program's LowestFree answers what the reference answers. No condition. -/
import Derived.Test.YtajjimcplhfdoaaPFnExactLowestFreex3
import Derived.Test.YtajjimcplhfdoaaPlain
import Derived.Test.YtajjimcplhfdoaaCounts
import Derived.Test.YtajjimcplhfdoaaIter
namespace Go.Proofs.Ytajjimcplhfdoaa.Pure
open Go.RowKit Go.Proofs.Ytajjimcplhfdoaa.PFnExactLowestFree Go.Proofs.YtajjimcplhfdoaaW.PrintWords Go.Proofs.YtajjimcplhfdoaaW.PrintLast Go.Proofs.Ytajjimcplhfdoaa.Plain
set_option linter.unusedVariables false

theorem to_ev (x : List Int) (hb : x.length ≤ 1048576) : Ev (fun k => laws_toInt64S.f k x) x := copy_ev (F := laws_toInt64S.l0) (fun _ _ _ _ => rfl) _ (by decide) x hb
theorem eq_refl_ev (x : List Int) (hb : x.length ≤ 1048576) : Ev (fun k => laws_eqInt64S.f k x x) true := eq_ev (F := laws_eqInt64S.l0) (fun _ _ _ _ => rfl) x hb

theorem one_ev (l : List Int) : Ev (fun k => spec_l3Check.f k l) (check1 l) := l3Check_ev (B := spec_l1BlocksOK.f) (fun _ => rfl) (F := spec_l3Check.l0) (fun _ _ _ => rfl) l

theorem two_ev (a b : List Int) : Ev (fun k => spec_l3CheckTwo.f k a b) (check2 a b) := by
  unfold spec_l3CheckTwo.f
  by_cases h : a.length = b.length
  · refine Ev.pos (by omega) (Ev.bind (one_ev a) (Ev.bind (one_ev b) ?_))
    rw [check2_of a b h]
    have j1 : ∀ t, Ev (fun k => spec_l3CheckTwo.j1 k (check1 a) (check1 b) t) (if t = true then 2 else if check1 a = 0 then check1 b else check1 a) := by
      intro t
      refine Ev.succ ?_
      simp only [spec_l3CheckTwo.j1]
      cases t
      · refine Ev.neg (by simp) ?_
        by_cases h0 : check1 a = 0
        · refine Ev.pos h0 (Ev.const ?_); simp [h0]
        · refine Ev.neg h0 (Ev.const ?_); simp [h0]
      · exact Ev.pos rfl (Ev.const (by simp))
    have j0 : ∀ t, Ev (fun k => spec_l3CheckTwo.j0 k (check1 a) (check1 b) t) (if t = true then 1 else if check1 a = 2 ∨ check1 b = 2 then 2 else if check1 a = 0 then check1 b else check1 a) := by
      intro t
      refine Ev.succ ?_
      simp only [spec_l3CheckTwo.j0]
      cases t
      · refine Ev.neg (by simp) ?_
        by_cases h2 : check1 a = 2
        · refine Ev.pos h2 ?_
          have := j1 true
          simpa [h2] using this
        · refine Ev.neg h2 ?_
          have := j1 (check1 b == 2)
          simpa [h2, beq_iff_eq] using this
      · exact Ev.pos rfl (Ev.const (by simp))
    by_cases h1 : check1 a = 1
    · refine Ev.pos h1 ?_
      have := j0 true
      simpa [h1] using this
    · refine Ev.neg h1 ?_
      have := j0 (check1 b == 1)
      simpa [h1, beq_iff_eq] using this
  · refine Ev.neg (by omega) (Ev.const ?_)
    unfold check2
    rw [if_pos (by omega)]

theorem bad_two_ev (a b : List Int) : Ev (fun k => impl_badCounts.f k [a, b]) (check2 a b) := by
  rw [← badL_two]
  exact bad_ev (F0 := impl_badCounts.l0) (F1 := impl_badCounts.l1) (F2 := impl_badCounts.l2) (F3 := impl_badCounts.l3) (fun _ _ _ _ _ => rfl) (fun _ _ _ _ _ => rfl) (fun _ _ _ _ _ _ _ _ => rfl) (fun _ _ _ _ => rfl) [a, b] (by simp)


/-! The free blocks, as the reference tells them. -/
theorem l3Free_from (a b : List Int) (h9 : a.length ≤ 512) (h : a.length = b.length) (d : Nat) : ∀ i : Nat, 2 ≤ i → i + d = a.length →
    Ev (fun k => spec_l3Free.l0 k a b (Iter.freesTo a b i) (i : Int)) (Iter.frees a b) := by
  induction d with
  | zero =>
    intro i h2 hi
    refine Ev.succ ?_
    simp only [spec_l3Free.l0]
    refine Ev.neg (by omega) (Ev.const ?_)
    obtain rfl : i = a.length := by omega
    rfl
  | succ d ih =>
    intro i h2 hi
    have hn := ih (i + 1) (by omega) (by omega)
    refine Ev.succ ?_
    simp only [spec_l3Free.l0, wr1 i (by omega)]
    refine Ev.pos (by omega) (Ev.pos (by omega) ?_)
    by_cases h0 : rd a (i : Int) = 0
    · refine Ev.pos h0 (Ev.pos (by omega) ?_)
      by_cases h1 : rd b (i : Int) = 0
      · refine Ev.pos h1 (Ev.pos (by have := Iter.freesTo_length a b i; omega) ?_)
        rw [Iter.freesTo_succ_yes a b i h2 (by simp [Iter.freeAt, h0, h1])] at hn
        exact hn
      · refine Ev.neg h1 ?_
        rw [Iter.freesTo_succ_no a b i (by simp [Iter.freeAt, h1])] at hn
        exact hn
    · refine Ev.neg h0 ?_
      rw [Iter.freesTo_succ_no a b i (by simp [Iter.freeAt, h0])] at hn
      exact hn
theorem l3Free_ev (a b : List Int) (h8 : 2 ≤ a.length) (h9 : a.length ≤ 512) (h : a.length = b.length) : Ev (fun k => spec_l3Free.f k a b) (Iter.frees a b) := by
  have := l3Free_from a b h9 h (a.length - 2) 2 (by omega) (by omega)
  rw [Iter.freesTo_two] at this
  exact this
theorem frees_length (a b : List Int) : (Iter.frees a b).length ≤ a.length := Iter.freesTo_length a b a.length

/-- What both answer. -/
def lowTold (a b : List Int) : Int × Int := if check2 a b = 0 then (match Iter.frees a b with | [] => (0, 7) | x :: _ => (x, 0)) else (0, check2 a b)
theorem impl_low_ev (a b : List Int) : Ev (fun k => impl_LowestFree.f k a b) (lowTold a b) := by
  unfold impl_LowestFree.f lowTold
  refine Ev.bind (bad_two_ev a b) ?_
  by_cases h : check2 a b = 0
  · obtain ⟨_, h9, hl, _⟩ := check2_ok h
    simp only [if_pos h]
    refine Ev.pos ⟨by omega, by omega⟩ ?_
    cases Iter.frees a b with
    | nil => exact Ev.const rfl
    | cons x t => exact Ev.const rfl
  · simp only [if_neg h]
    exact Ev.const rfl

theorem spec_low_ev (a b : List Int) : Ev (fun k => spec_LowestFree.f k a b) (lowTold a b) := by
  unfold spec_LowestFree.f lowTold
  refine Ev.bind (two_ev a b) ?_
  by_cases h : check2 a b = 0
  · rw [if_pos h]
    obtain ⟨h8, h9, hl, _⟩ := check2_ok h
    refine Ev.pos h (Ev.bind (l3Free_ev a b (by omega) h9 hl) ?_)
    cases hf : Iter.frees a b with
    | nil => exact Ev.pos (by simp) (Ev.const rfl)
    | cons x t => exact Ev.neg (by simp only [List.length_cons]; omega) (Ev.pos (by simp only [List.length_cons]; omega) (Ev.const (by simp [rd])))
  · rw [if_neg h]
    exact Ev.neg h (Ev.const rfl)
theorem FnExactLowestFree : laws_FnExactLowestFree.Pure := by
  intro a b _ _ _ _ _ _
  refine Ev.rounds (r := true) ?_
  unfold laws_FnExactLowestFree.f
  by_cases ha : (a.length : Int) > 1048576
  · exact Ev.pos ha (Ev.const rfl)
  by_cases hb : (b.length : Int) > 1048576
  · exact Ev.neg ha (Ev.pos hb (Ev.const rfl))
  refine Ev.neg ha (Ev.neg hb ?_)
  have ta := to_ev a (by omega)
  have tb := to_ev b (by omega)
  refine Ev.bind ta (Ev.bind tb (Ev.bind (spec_low_ev a b) (Ev.bind ta (Ev.bind tb (Ev.bind (impl_low_ev a b) ?_)))))
  refine Ev.pos rfl (Ev.succ ?_)
  simp only [laws_FnExactLowestFree.j0]
  exact Ev.neg (by simp) (Ev.bind ta (Ev.bind (eq_refl_ev a (by omega)) (Ev.pos rfl (Ev.bind tb (Ev.bind (eq_refl_ev b (by omega)) (Ev.pos rfl (Ev.const rfl)))))))

end Go.Proofs.Ytajjimcplhfdoaa.Pure
