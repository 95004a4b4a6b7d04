/- FnPlan: for drawn pairs of count lists of 8 to 512 blocks: CountsOf of RunsOf gives the list back; PlanTable's blocks are those that LowestFree tells one after the other, each counted 1 before the next is asked; its runs are RunsOf of the list with all of them; they fit, and with one block less they would not; and with Reserve or more free blocks, as Classify tells, it is never refused. -/
import Derived.Test.YtbimmmmjdimebaaPFnPlanx12
import Derived.Test.YtbimmmmjdimebaaPlain
import Derived.Test.YtbimmmmjdimebaaCounts
import Derived.Test.YtbimmmmjdimebaaIter
namespace Go.Proofs.Ytbimmmmjdimebaa.Pure
open Go.RowKit Go.Proofs.Ytbimmmmjdimebaa.PFnPlan Go.Proofs.YtbimmmmjdimebaaW.PrintWords Go.Proofs.YtbimmmmjdimebaaW.PrintLast Go.Proofs.Ytbimmmmjdimebaa.Plain
set_option linter.unusedVariables false

theorem one_ev (l : List Int) : Ev (fun k => spec_l3Check.f k l) (check1 l) := l3Check_ev (B := spec_l1BlocksOK.f) (fun _ => rfl) (F := spec_l3Check.l0) (fun _ _ _ => rfl) l

theorem two_ev (a b : List Int) : Ev (fun k => spec_l3CheckTwo.f k a b) (check2 a b) := by
  unfold spec_l3CheckTwo.f
  by_cases h : a.length = b.length
  · refine Ev.pos (by omega) (Ev.bind (one_ev a) (Ev.bind (one_ev b) ?_))
    rw [check2_of a b h]
    have j1 : ∀ t, Ev (fun k => spec_l3CheckTwo.j1 k (check1 a) (check1 b) t) (if t = true then 2 else if check1 a = 0 then check1 b else check1 a) := by
      intro t
      refine Ev.succ ?_
      simp only [spec_l3CheckTwo.j1]
      cases t
      · refine Ev.neg (by simp) ?_
        by_cases h0 : check1 a = 0
        · refine Ev.pos h0 (Ev.const ?_); simp [h0]
        · refine Ev.neg h0 (Ev.const ?_); simp [h0]
      · exact Ev.pos rfl (Ev.const (by simp))
    have j0 : ∀ t, Ev (fun k => spec_l3CheckTwo.j0 k (check1 a) (check1 b) t) (if t = true then 1 else if check1 a = 2 ∨ check1 b = 2 then 2 else if check1 a = 0 then check1 b else check1 a) := by
      intro t
      refine Ev.succ ?_
      simp only [spec_l3CheckTwo.j0]
      cases t
      · refine Ev.neg (by simp) ?_
        by_cases h2 : check1 a = 2
        · refine Ev.pos h2 ?_
          have := j1 true
          simpa [h2] using this
        · refine Ev.neg h2 ?_
          have := j1 (check1 b == 2)
          simpa [h2, beq_iff_eq] using this
      · exact Ev.pos rfl (Ev.const (by simp))
    by_cases h1 : check1 a = 1
    · refine Ev.pos h1 ?_
      have := j0 true
      simpa [h1] using this
    · refine Ev.neg h1 ?_
      have := j0 (check1 b == 1)
      simpa [h1, beq_iff_eq] using this
  · refine Ev.neg (by omega) (Ev.const ?_)
    unfold check2
    rw [if_pos (by omega)]

theorem bad_one_ev (a : List Int) : Ev (fun k => impl_badCounts.f k [a]) (check1 a) := by
  rw [← badL_one]
  exact bad_ev (F0 := impl_badCounts.l0) (F1 := impl_badCounts.l1) (F2 := impl_badCounts.l2) (F3 := impl_badCounts.l3) (fun _ _ _ _ _ => rfl) (fun _ _ _ _ _ => rfl) (fun _ _ _ _ _ _ _ _ => rfl) (fun _ _ _ _ => rfl) [a] (by simp)

theorem bad_two_ev (a b : List Int) : Ev (fun k => impl_badCounts.f k [a, b]) (check2 a b) := by
  rw [← badL_two]
  exact bad_ev (F0 := impl_badCounts.l0) (F1 := impl_badCounts.l1) (F2 := impl_badCounts.l2) (F3 := impl_badCounts.l3) (fun _ _ _ _ _ => rfl) (fun _ _ _ _ _ => rfl) (fun _ _ _ _ _ _ _ _ => rfl) (fun _ _ _ _ => rfl) [a, b] (by simp)


/-! The free blocks, as the reference tells them. -/
theorem l3Free_from (a b : List Int) (h9 : a.length ≤ 512) (h : a.length = b.length) (d : Nat) : ∀ i : Nat, 2 ≤ i → i + d = a.length →
    Ev (fun k => spec_l3Free.l0 k a b (Iter.freesTo a b i) (i : Int)) (Iter.frees a b) := by
  induction d with
  | zero =>
    intro i h2 hi
    refine Ev.succ ?_
    simp only [spec_l3Free.l0]
    refine Ev.neg (by omega) (Ev.const ?_)
    obtain rfl : i = a.length := by omega
    rfl
  | succ d ih =>
    intro i h2 hi
    have hn := ih (i + 1) (by omega) (by omega)
    refine Ev.succ ?_
    simp only [spec_l3Free.l0, wr1 i (by omega)]
    refine Ev.pos (by omega) (Ev.pos (by omega) ?_)
    by_cases h0 : rd a (i : Int) = 0
    · refine Ev.pos h0 (Ev.pos (by omega) ?_)
      by_cases h1 : rd b (i : Int) = 0
      · refine Ev.pos h1 (Ev.pos (by have := Iter.freesTo_length a b i; omega) ?_)
        rw [Iter.freesTo_succ_yes a b i h2 (by simp [Iter.freeAt, h0, h1])] at hn
        exact hn
      · refine Ev.neg h1 ?_
        rw [Iter.freesTo_succ_no a b i (by simp [Iter.freeAt, h1])] at hn
        exact hn
    · refine Ev.neg h0 ?_
      rw [Iter.freesTo_succ_no a b i (by simp [Iter.freeAt, h0])] at hn
      exact hn
theorem l3Free_ev (a b : List Int) (h8 : 2 ≤ a.length) (h9 : a.length ≤ 512) (h : a.length = b.length) : Ev (fun k => spec_l3Free.f k a b) (Iter.frees a b) := by
  have := l3Free_from a b h9 h (a.length - 2) 2 (by omega) (by omega)
  rw [Iter.freesTo_two] at this
  exact this
theorem frees_length (a b : List Int) : (Iter.frees a b).length ≤ a.length := Iter.freesTo_length a b a.length

/-! The reference's plan. -/
theorem frees_mem (a b : List Int) (x : Int) (h : x ∈ Iter.frees a b) : 2 ≤ x ∧ x < (a.length : Int) := by
  unfold Iter.frees Iter.freesTo at h
  simp only [List.mem_map, List.mem_filter, List.mem_range, Bool.and_eq_true, decide_eq_true_eq] at h
  obtain ⟨i, ⟨h1, h2, _⟩, rfl⟩ := h
  omega
theorem plan_copy (a f : List Int) (h9 : a.length ≤ 512) (kk : Nat) (r : List Int × List Rn × Int) (hr : Ev (fun k => spec_l3Plan.l2 k a f (kk : Int) a 0) r) (d : Nat) : ∀ i : Nat, i + d = a.length →
    Ev (fun k => spec_l3Plan.l1 k a f (kk : Int) (a.take i) (i : Int)) r := by
  induction d with
  | zero =>
    intro i hi
    refine Ev.succ ?_
    simp only [spec_l3Plan.l1]
    rw [List.take_of_length_le (by omega)]
    exact Ev.neg (by omega) hr
  | succ d ih =>
    intro i hi
    refine Ev.succ ?_
    simp only [spec_l3Plan.l1, wr1 i (by omega)]
    refine Ev.pos (by omega) (Ev.pos (by omega) (Ev.pos (by rw [List.length_take]; omega) ?_))
    have := ih (i + 1) (by omega)
    rw [List.take_succ_eq_append_getElem (by omega), ← rd_eq a i (by omega)] at this
    exact this
theorem plan_mark (a f : List Int) (h9 : a.length ≤ 512) (hf : f.length ≤ 512) (hm : ∀ x ∈ f, 0 ≤ x ∧ x < (a.length : Int)) (kk : Nat) (hk : kk ≤ f.length) (r : List Int × List Rn × Int)
    (hr : Ev (fun k => (spec_l3Runs.f k (markAll a (f.take kk))).bind fun t164 => (if (t164.length : Int) ≤ (wrap64 (20 * (kk : Int))) then (if 0 ≤ (kk : Int) then (if (kk : Int) ≤ (f.length : Int) then (some ((f.take ((kk : Int) : Int).toNat), t164, 0)) else (none)) else (none)) else (spec_l3Plan.l0 k a f (wrap64 ((kk : Int) + 1))))) r) (d : Nat) :
    ∀ i : Nat, i + d = kk → Ev (fun k => spec_l3Plan.l2 k a f (kk : Int) (markAll a (f.take i)) (i : Int)) r := by
  induction d with
  | zero =>
    intro i hi
    refine Ev.succ ?_
    simp only [spec_l3Plan.l2]
    obtain rfl : i = kk := by omega
    exact Ev.neg (by omega) hr
  | succ d ih =>
    intro i hi
    have hx := hm (rd f (i : Int)) (by rw [rd_eq f i (by omega)]; exact List.getElem_mem _)
    refine Ev.succ ?_
    simp only [spec_l3Plan.l2, wr1 i (by omega)]
    refine Ev.pos (by omega) (Ev.pos (by omega) (Ev.pos (by omega) (Ev.pos hx.1 (Ev.pos (by rw [markAll_length]; exact hx.2) ?_))))
    have := ih (i + 1) (by omega)
    rw [List.take_succ_eq_append_getElem (by omega), ← rd_eq f i (by omega), markAll_snoc] at this
    exact this
theorem plan_from (a f : List Int) (h9 : a.length ≤ 512) (hf : f.length ≤ 512) (hm : ∀ x ∈ f, 0 ≤ x ∧ x < (a.length : Int)) (d : Nat) : ∀ j : Nat, j + d = f.length →
    Ev (fun k => spec_l3Plan.l0 k a f ((j + 1 : Nat) : Int)) (impl_plan.g (markAll a (f.take j)) (f.take j) (f.drop j)) := by
  induction d with
  | zero =>
    intro j hj
    refine Ev.succ ?_
    simp only [spec_l3Plan.l0]
    rw [List.drop_of_length_le (by omega)]
    exact Ev.neg (by omega) (Ev.const rfl)
  | succ d ih =>
    intro j hj
    refine Ev.succ ?_
    simp only [spec_l3Plan.l0]
    refine Ev.pos (by omega) ?_
    have hd : f.drop j = f[j]'(by omega) :: f.drop (j + 1) := List.drop_eq_getElem_cons (by omega)
    have ht : f.take (j + 1) = f.take j ++ [f[j]'(by omega)] := List.take_succ_eq_append_getElem (by omega)
    have hml : (markAll a (f.take (j + 1))).length ≤ 1048576 := by rw [markAll_length]; omega
    have key := plan_mark a f h9 hf hm (j + 1) (by omega) (impl_plan.g (markAll a (f.take j)) (f.take j) (f.drop j)) (by
      refine Ev.bind (spec_runs_ev _ hml) ?_
      have e20 : wrap64 (20 * ((j + 1 : Nat) : Int)) = 20 * ((j + 1 : Nat) : Int) := wr (by omega) (by omega)
      simp only [e20]
      rw [hd, impl_plan.g, ← markAll_snoc, ← ht]
      have hl : ((f.take (j + 1)).length : Int) = ((j + 1 : Nat) : Int) := by rw [List.length_take]; omega
      rw [hl]
      by_cases hc : ((runs (markAll a (f.take (j + 1)))).length : Int) ≤ 20 * ((j + 1 : Nat) : Int)
      · rw [if_pos hc]
        refine Ev.pos hc (Ev.pos (by omega) (Ev.pos (by omega) (Ev.const ?_)))
        rw [Int.toNat_natCast]
      · rw [if_neg hc]
        refine Ev.neg hc ?_
        simp only [wr1 (j + 1) (by omega)]
        exact ih (j + 1) (by omega)) (j + 1) 0 (by omega)
    exact plan_copy a f h9 (j + 1) _ key a.length 0 (by omega)
theorem l3Plan_ev (a b : List Int) (h8 : 2 ≤ a.length) (h9 : a.length ≤ 512) (h : a.length = b.length) : Ev (fun k => spec_l3Plan.f k a b) (impl_plan.g a [] (Iter.frees a b)) := by
  unfold spec_l3Plan.f
  refine Ev.bind (l3Free_ev a b h8 h9 h) ?_
  have hl := frees_length a b
  have := plan_from a (Iter.frees a b) h9 (by omega) (fun x hx => by have := frees_mem a b x hx; omega) (Iter.frees a b).length 0 (by omega)
  simpa [markAll] using this
theorem g_length (r : List Int) : ∀ m t, m.length ≤ 512 → t.length + r.length ≤ 512 → (impl_plan.g m t r).1.length ≤ 512 ∧ (impl_plan.g m t r).2.1.length ≤ 512 := by
  induction r with
  | nil => intro m t _ _; simp [impl_plan.g]
  | cons b r ih =>
    intro m t hm ht
    have hm2 : (m.set b.toNat 1).length ≤ 512 := by simpa using hm
    rw [impl_plan.g]
    split
    · refine ⟨?_, ?_⟩
      · simp only [List.length_append, List.length_cons, List.length_nil] at ht ⊢; omega
      · exact Nat.le_trans (runs_length _) hm2
    · exact ih _ _ hm2 (by simp only [List.length_append, List.length_cons, List.length_nil] at ht ⊢; omega)
/-- What both answer. -/
def planTold (a b : List Int) : List Int × List Rn × Int := if check2 a b = 0 then impl_plan.g a [] (Iter.frees a b) else ([], [], check2 a b)
theorem planTold_length (a b : List Int) : (planTold a b).1.length ≤ 512 ∧ (planTold a b).2.1.length ≤ 512 := by
  unfold planTold
  split
  · rename_i h
    obtain ⟨h8, h9, hl, _⟩ := check2_ok h
    have := frees_length a b
    exact g_length _ _ _ h9 (by simp; omega)
  · simp
theorem spec_plan_ev (a b : List Int) : Ev (fun k => spec_PlanTable.f k a b) (planTold a b) := by
  unfold spec_PlanTable.f planTold
  refine Ev.bind (two_ev a b) ?_
  by_cases h : check2 a b = 0
  · rw [if_pos h]
    obtain ⟨h8, h9, hl, _⟩ := check2_ok h
    exact Ev.pos h (Ev.bind (l3Plan_ev a b (by omega) h9 hl) (Ev.const rfl))
  · rw [if_neg h]
    exact Ev.neg h (Ev.const rfl)
theorem impl_plan_ev (a b : List Int) : Ev (fun k => impl_PlanTable.f k a b) (planTold a b) := by
  unfold impl_PlanTable.f planTold
  refine Ev.bind (bad_two_ev a b) ?_
  by_cases h : check2 a b = 0
  · simp only [if_pos h]
    obtain ⟨h8, h9, hl, _⟩ := check2_ok h
    refine Ev.bind0 (a := impl_plan.g a [] (Iter.frees a b)) ?_ (Ev.const rfl)
    unfold impl_plan.f
    rw [if_pos ⟨by omega, by omega, h9⟩]
  · simp only [if_neg h]
    exact Ev.const rfl

/-- What both answer. -/
def lowTold (a b : List Int) : Int × Int := if check2 a b = 0 then (match Iter.frees a b with | [] => (0, 7) | x :: _ => (x, 0)) else (0, check2 a b)
theorem impl_low_ev (a b : List Int) : Ev (fun k => impl_LowestFree.f k a b) (lowTold a b) := by
  unfold impl_LowestFree.f lowTold
  refine Ev.bind (bad_two_ev a b) ?_
  by_cases h : check2 a b = 0
  · obtain ⟨_, h9, hl, _⟩ := check2_ok h
    simp only [if_pos h]
    refine Ev.pos ⟨by omega, by omega⟩ ?_
    cases Iter.frees a b with
    | nil => exact Ev.const rfl
    | cons x t => exact Ev.const rfl
  · simp only [if_neg h]
    exact Ev.const rfl

theorem rdR_eq (x : List Rn) (i : Nat) (h : i < x.length) : rd_T89 x (i : Int) = x[i] := by unfold rd_T89; simp [h]
def runsTold (a : List Int) : List Rn × Int := if check1 a = 0 then (runs a, 0) else ([], check1 a)
theorem check1_ok {a : List Int} (h : check1 a = 0) : 8 ≤ a.length ∧ a.length ≤ 512 := by
  unfold check1 at h
  split at h
  · simp at h
  · omega
theorem runsImpl_ev (a : List Int) : Ev (fun k => impl_RunsOf.f k a) (runsTold a) := by
  unfold impl_RunsOf.f runsTold
  refine Ev.bind (bad_one_ev a) ?_
  by_cases h : check1 a = 0
  · rw [if_pos h]
    exact Ev.pos h (Ev.bind (impl_runs_ev a (check1_ok h).2) (Ev.const rfl))
  · rw [if_neg h]
    exact Ev.neg h (Ev.const rfl)
def rowOK (T : Int) (r : Rn) : Bool := decide (¬ r.f0 < 2 ∧ ¬ r.f0 > T ∧ ¬ r.f1 < 1 ∧ ¬ r.f1 > T ∧ ¬ wrap64 (r.f0 + r.f1) > T ∧ ¬ r.f2 < 1 ∧ ¬ r.f2 > 65535)
def linkOK : Option Rn → Rn → Bool
  | none, _ => true
  | some p, r => decide (¬ r.f0 < wrap64 (p.f0 + p.f1) ∧ ¬ (r.f0 = wrap64 (p.f0 + p.f1) ∧ r.f2 = p.f2))
def good (T : Int) : Option Rn → List Rn → Bool
  | _, [] => true
  | p, r :: t => rowOK T r && (linkOK p r && good T (some r) t)
def prevR (x : List Rn) (i : Nat) : Option Rn := if i = 0 then none else some (rd_T89 x ((i : Int) - 1))
theorem dropR (x : List Rn) (i : Nat) (h : i < x.length) : x.drop i = rd_T89 x (i : Int) :: x.drop (i + 1) := by rw [List.drop_eq_getElem_cons h, rdR_eq x i h]
theorem prevR_succ (x : List Rn) (i : Nat) : prevR x (i + 1) = some (rd_T89 x (i : Int)) := by
  unfold prevR; rw [if_neg (by omega)]; congr 2; omega
theorem wrapm (i : Nat) (h : i ≤ 1099511627776) : wrap64 ((i : Int) - 1) = (i : Int) - 1 := wr (by omega) (by omega)
theorem impl_rows (x : List Rn) (hb : x.length ≤ 1048576) (d : Nat) : ∀ i : Nat, i + d = x.length → Ev (fun k => impl_inOrder.l0 k x x (x.length : Int) (i : Int)) (good 512 (prevR x i) (x.drop i)) := by
  induction d with
  | zero =>
    intro i hi
    refine Ev.succ ?_
    simp only [impl_inOrder.l0]
    refine Ev.neg (by omega) (Ev.const ?_)
    rw [List.drop_of_length_le (by omega)]; rfl
  | succ d ih =>
    intro i hi
    have hn := ih (i + 1) (by omega)
    rw [prevR_succ] at hn
    refine Ev.succ ?_
    simp only [impl_inOrder.l0]
    rw [dropR x i (by omega)]
    generalize hr : rd_T89 x (i : Int) = r at *
    refine Ev.pos (by omega) (Ev.pos (by omega) (Ev.pos (by omega) ?_))
    have hbad : ∀ {z : Bool}, rowOK 512 r = false → Ev (fun k => impl_inOrder.j1 k x (i : Int) x (x.length : Int) (i : Int) true r.f0 r.f1 r.f2) (rowOK 512 r && z) := by
      intro z h
      refine Ev.succ ?_
      simp only [impl_inOrder.j1, h]
      exact Ev.pos trivial (Ev.const rfl)
    have hbad2 : ∀ {z : Bool}, rowOK 512 r = false → Ev (fun k => impl_inOrder.j2 k x (i : Int) x (x.length : Int) (i : Int) true r.f0 r.f1 r.f2) (rowOK 512 r && z) := by
      intro z h
      refine Ev.succ ?_
      simp only [impl_inOrder.j2, h]
      exact Ev.pos trivial (Ev.const rfl)
    unfold good
    by_cases h1 : r.f0 < 2
    · exact Ev.pos h1 (hbad (by simp [rowOK, h1]))
    refine Ev.neg h1 ?_
    by_cases h3 : r.f1 < 1
    · exact Ev.pos h3 (hbad (by simp [rowOK, h3]))
    refine Ev.neg h3 ?_
    by_cases h2 : r.f0 > 512
    · exact Ev.pos h2 (hbad (by simp [rowOK, h2]))
    refine Ev.neg h2 ?_
    by_cases h4 : r.f1 > 512
    · exact Ev.pos h4 (hbad (by simp [rowOK, h4]))
    refine Ev.neg h4 ?_
    by_cases h5 : wrap64 (r.f0 + r.f1) > 512
    · rw [decide_eq_true h5]; exact hbad (by simp [rowOK, h5])
    rw [decide_eq_false h5]
    refine Ev.succ ?_
    simp only [impl_inOrder.j1]
    refine Ev.neg (by simp) ?_
    by_cases h6 : r.f2 < 1
    · exact Ev.pos h6 (hbad2 (by simp [rowOK, h6]))
    refine Ev.neg h6 ?_
    by_cases h7 : r.f2 > 65535
    · rw [decide_eq_true h7]; exact hbad2 (by simp [rowOK, h7])
    have hok : rowOK 512 r = true := by unfold rowOK; rw [decide_eq_true ⟨h1, h2, h3, h4, h5, h6, h7⟩]
    rw [decide_eq_false h7, hok, Bool.true_and]
    refine Ev.succ ?_
    simp only [impl_inOrder.j2, wr1 i (by omega), wrapm i (by omega)]
    refine Ev.neg (by simp) ?_
    by_cases h0 : i = 0
    · refine Ev.pos (by omega) ?_
      unfold prevR
      rw [if_pos h0]
      simpa [linkOK] using hn
    · refine Ev.neg (by omega) (Ev.pos (by omega) (Ev.pos (by omega) ?_))
      unfold prevR
      rw [if_neg h0]
      generalize rd_T89 x ((i : Int) - 1) = p
      by_cases g1 : r.f0 < wrap64 (p.f0 + p.f1)
      · exact Ev.pos g1 (Ev.const (by simp [linkOK, g1]))
      refine Ev.neg g1 ?_
      by_cases g2 : r.f0 = wrap64 (p.f0 + p.f1)
      · refine Ev.pos g2 ?_
        by_cases g3 : r.f2 = p.f2
        · exact Ev.pos g3 (Ev.const (by simp [linkOK, g2, g3]))
        · refine Ev.neg g3 ?_
          have e : linkOK (some p) r = true := by simp [linkOK, g3]; omega
          rw [e, Bool.true_and]; exact hn
      · refine Ev.neg g2 ?_
        have e : linkOK (some p) r = true := by simp [linkOK, g2]; omega
        rw [e, Bool.true_and]; exact hn
theorem row_split (T : Int) (h1 : 8 ≤ T) (h2 : T ≤ 512) (r : Rn) : rowOK T r = (rowOK 512 r && decide (wrap64 (r.f0 + r.f1) ≤ T)) := by
  unfold rowOK
  rw [← Bool.decide_and]
  congr 1
  refine propext ⟨fun h => ?_, fun h => ?_⟩
  · obtain ⟨a, b, c, d, e, f, g⟩ := h; exact ⟨⟨a, by omega, c, by omega, by omega, f, g⟩, by omega⟩
  · obtain ⟨⟨a, b, c, d, e, f, g⟩, z⟩ := h
    rw [wr (by omega) (by omega)] at e z ⊢
    exact ⟨a, by omega, c, by omega, by omega, f, g⟩
theorem good_split (T : Int) (h1 : 8 ≤ T) (h2 : T ≤ 512) (x : List Rn) : ∀ p, good T p x = (good 512 p x && x.all fun r => decide (wrap64 (r.f0 + r.f1) ≤ T)) := by
  induction x with
  | nil => intro p; rfl
  | cons r t ih =>
    intro p
    simp only [good, List.all_cons, ih, row_split T h1 h2]
    cases rowOK 512 r <;> cases linkOK p r <;> cases good 512 (some r) t <;> simp
theorem good_rows (T : Int) (x : List Rn) : ∀ p, good T p x = true → ∀ r ∈ x, rowOK T r = true := by
  induction x with
  | nil => intro p _ r h; simp at h
  | cons q t ih =>
    intro p h r hr
    simp only [good, Bool.and_eq_true] at h
    rcases List.mem_cons.1 hr with rfl | hr
    · exact h.1
    · exact ih _ h.2.2 r hr
def lastC (b : Int) (l : List Rn) : Int := l.foldl (fun c r => if b ≥ r.f0 ∧ b < wrap64 (r.f0 + r.f1) then r.f2 else c) 0
def tab (n : Nat) (g : Int → Int) : List Int := (List.range n).map fun b => g ((b : Nat) : Int)
theorem tab_length (n : Nat) (g : Int → Int) : (tab n g).length = n := by simp [tab]
theorem tab_succ (n : Nat) (g : Int → Int) : tab (n + 1) g = tab n g ++ [g (n : Int)] := by simp [tab, List.range_succ]
theorem tab_congr (n : Nat) (g h : Int → Int) (e : ∀ b : Nat, b < n → g (b : Int) = h (b : Int)) : tab n g = tab n h := by
  unfold tab; exact List.map_congr_left fun b hb => e b (List.mem_range.1 hb)
theorem tab_set (n : Nat) (g : Int → Int) (j : Nat) (v : Int) : (tab n g).set j v = tab n (fun b => if b = (j : Int) then v else g b) := by
  refine List.ext_getElem (by simp [tab]) fun i h1 h2 => ?_
  simp only [tab, List.getElem_set, List.getElem_map, List.getElem_range]
  by_cases h : j = i
  · rw [if_pos h, if_pos (by omega)]
  · rw [if_neg h, if_neg (by omega)]
theorem lastC_take (b : Int) (x : List Rn) (i : Nat) (h : i < x.length) : lastC b (x.take (i + 1)) = if b ≥ (rd_T89 x (i : Int)).f0 ∧ b < wrap64 ((rd_T89 x (i : Int)).f0 + (rd_T89 x (i : Int)).f1) then (rd_T89 x (i : Int)).f2 else lastC b (x.take i) := by
  rw [List.take_succ_eq_append_getElem h, rdR_eq x i h]
  simp only [lastC, List.foldl_append, List.foldl_cons, List.foldl_nil]
theorem impl_in (T : Nat) (hT : T ≤ 512) (x : List Rn) (g : Int → Int) (i : Nat) (r : Rn) (h0 : 2 ≤ r.f0) (h1 : 1 ≤ r.f1) (h2 : r.f0 ≤ 512) (h4 : r.f1 ≤ 512) (h3 : r.f0 + r.f1 ≤ (T : Int)) (w : List Int × Int) (hi : i ≤ 1048576)
    (hn : Ev (fun k => impl_CountsOf.l0 k (T : Int) (tab T fun b => if b ≥ r.f0 ∧ b < wrap64 (r.f0 + r.f1) then r.f2 else g b) x (x.length : Int) ((i + 1 : Nat) : Int)) w) (d : Nat) :
    ∀ j : Nat, ((j + d : Nat) : Int) = r.f0 + r.f1 → r.f0 ≤ (j : Int) → Ev (fun k => impl_CountsOf.l1 k (T : Int) (tab T fun b => if b ≥ r.f0 ∧ b < (j : Int) then r.f2 else g b) (j : Int) x (x.length : Int) (i : Int) r.f0 r.f1 r.f2) w := by
  have e : wrap64 (r.f0 + r.f1) = r.f0 + r.f1 := wr (by omega) (by omega)
  induction d with
  | zero =>
    intro j hj _
    refine Ev.succ ?_
    simp only [impl_CountsOf.l1, wr1 i (by omega), e]
    refine Ev.neg (by omega) ?_
    rw [show (j : Int) = r.f0 + r.f1 by omega]
    rw [e] at hn; exact hn
  | succ d ih =>
    intro j hj hj2
    refine Ev.succ ?_
    simp only [impl_CountsOf.l1, e, Int.toNat_natCast, wr1 j (by omega)]
    refine Ev.pos (by omega) (Ev.pos (by omega) (Ev.pos (by rw [tab_length]; omega) ?_))
    rw [tab_set]
    have h := ih (j + 1) (by omega) (by omega)
    rw [tab_congr T _ (fun b => if b = (j : Int) then r.f2 else if b ≥ r.f0 ∧ b < (j : Int) then r.f2 else g b)] at h
    · exact h
    · intro b hb
      by_cases hbj : (b : Int) = (j : Int)
      · rw [if_pos hbj, if_pos (by omega)]
      · rw [if_neg hbj]
        by_cases hc : (b : Int) ≥ r.f0 ∧ (b : Int) < (j : Int)
        · rw [if_pos hc, if_pos (by omega)]
        · rw [if_neg hc, if_neg (by omega)]
theorem impl_out (T : Nat) (hT : T ≤ 512) (x : List Rn) (hx : x.length ≤ 512) (hr : ∀ r ∈ x, rowOK 512 r = true) (d : Nat) : ∀ i : Nat, i + d = x.length →
    Ev (fun k => impl_CountsOf.l0 k (T : Int) (tab T fun b => lastC b (x.take i)) x (x.length : Int) (i : Int)) (if ((x.drop i).all fun r => decide (wrap64 (r.f0 + r.f1) ≤ (T : Int))) = true then (tab T fun b => lastC b x, 0) else ([], 5)) := by
  induction d with
  | zero =>
    intro i hi
    refine Ev.succ ?_
    simp only [impl_CountsOf.l0]
    rw [List.take_of_length_le (by omega), List.drop_of_length_le (by omega)]
    exact Ev.neg (by omega) (Ev.const (by simp))
  | succ d ih =>
    intro i hi
    have hn := ih (i + 1) (by omega)
    have hri := hr x[i] (List.getElem_mem (by omega))
    rw [← rdR_eq x i (by omega)] at hri
    have hl := fun b => lastC_take b x i (by omega)
    refine Ev.succ ?_
    simp only [impl_CountsOf.l0]
    rw [dropR x i (by omega), List.all_cons]
    simp only [hl] at hn
    generalize rd_T89 x (i : Int) = r at *
    unfold rowOK at hri
    have hri := of_decide_eq_true hri
    obtain ⟨a, b, c, d, e, f, g⟩ := hri
    have e1 : wrap64 (r.f0 + r.f1) = r.f0 + r.f1 := wr (by omega) (by omega)
    refine Ev.pos (by omega) (Ev.pos (by omega) (Ev.pos (by omega) ?_))
    by_cases h : wrap64 (r.f0 + r.f1) > (T : Int)
    · refine Ev.pos h (Ev.const ?_)
      rw [decide_eq_false (by omega)]; simp
    · refine Ev.neg h ?_
      rw [decide_eq_true (by omega), Bool.true_and]
      have hq := impl_in T hT x (fun b => lastC b (x.take i)) i r (by omega) (by omega) (by omega) (by omega) (by omega) _ (by omega) hn r.f1.toNat r.f0.toNat (by omega) (by omega)
      rw [show ((r.f0.toNat : Nat) : Int) = r.f0 by omega] at hq
      rw [tab_congr T _ (fun b => lastC b (x.take i))] at hq
      · exact hq
      · intro b hb; rw [if_neg (by omega)]
def countsTold (T : Int) (x : List Rn) : List Int × Int :=
  if T < 8 ∨ T > 512 then ([], 1) else if (x.length : Int) > 512 ∨ good T none x = false then ([], 5) else (tab T.toNat fun b => lastC b x, 0)
theorem countsImpl_ev (T : Int) (x : List Rn) (hb : x.length ≤ 1048576) : Ev (fun k => impl_CountsOf.f k T x) (countsTold T x) := by
  have hbad : T < 8 ∨ T > 512 → Ev (fun k => impl_CountsOf.j0 k T x true) (countsTold T x) := by
    intro h
    unfold countsTold; rw [if_pos h]
    refine Ev.succ ?_
    simp only [impl_CountsOf.j0]
    exact Ev.pos trivial (Ev.const rfl)
  unfold impl_CountsOf.f
  by_cases h1 : T < 8
  · exact Ev.pos h1 (hbad (.inl h1))
  refine Ev.neg h1 ?_
  by_cases h2 : T > 512
  · rw [decide_eq_true h2]; exact hbad (.inr h2)
  rw [decide_eq_false h2]
  unfold countsTold; rw [if_neg (by omega)]
  refine Ev.succ ?_
  simp only [impl_CountsOf.j0]
  refine Ev.neg (by simp) ?_
  have hj : Ev (fun k => impl_CountsOf.j1 k T x true) (([], 5) : List Int × Int) := by
    refine Ev.succ ?_
    simp only [impl_CountsOf.j1]
    exact Ev.pos trivial (Ev.const rfl)
  by_cases h3 : (x.length : Int) > 512
  · rw [if_pos (.inl h3)]; exact Ev.pos h3 hj
  refine Ev.neg h3 ?_
  have := impl_rows x hb x.length 0 (by omega)
  rw [List.drop_zero] at this
  refine Ev.bind (a := good 512 none x) this ?_
  cases hg : good 512 none x
  · rw [if_pos (.inr (by rw [good_split T (by omega) (by omega), hg]; rfl))]; exact hj
  · refine Ev.succ ?_
    simp only [impl_CountsOf.j1]
    refine Ev.neg (by simp) (Ev.pos (by omega) (Ev.pos (by omega) ?_))
    obtain ⟨n, rfl⟩ : ∃ n : Nat, T = (n : Int) := ⟨T.toNat, by omega⟩
    have ho := impl_out n (by omega) x (by omega) (good_rows 512 x none hg) x.length 0 (by omega)
    rw [List.drop_zero] at ho
    rw [good_split (n : Int) (by omega) (by omega), hg, Bool.true_and]
    have hz : (List.replicate ((n : Int)).toNat (0 : Int)) = tab n fun b => lastC b (x.take 0) := by
      refine List.ext_getElem (by simp [tab]) fun i h1 h2 => ?_
      simp [tab, lastC]
    rw [hz]
    cases ha : x.all fun r => decide (wrap64 (r.f0 + r.f1) ≤ (n : Int))
    · rw [if_pos (.inr rfl)]
      rw [ha, if_neg (by simp)] at ho; exact ho
    · rw [if_neg (by simp [h3])]
      rw [ha, if_pos rfl] at ho; exact ho
def cls (a b : List Int) (i : Nat) : Int := if i < 2 then 1 else if rd a (i : Int) > 0 then 2 else if rd b (i : Int) > 0 then 3 else 4
def classes (a b : List Int) (n : Nat) : List Int := (List.range n).map (cls a b)
theorem classes_length (a b : List Int) (n : Nat) : (classes a b n).length = n := by simp [classes]
theorem classes_succ (a b : List Int) (n : Nat) : classes a b (n + 1) = classes a b n ++ [cls a b n] := by simp [classes, List.range_succ]
theorem impl_from (a b : List Int) (h9 : a.length ≤ 512) (h : a.length = b.length) (d : Nat) : ∀ (i : Nat) (x : List Int), i + d = a.length → x.length = a.length → x.take i = (classes a b a.length).take i →
    Ev (fun k => impl_Classify.l0 k a b x (a.length : Int) (i : Int)) (classes a b a.length, 0) := by
  induction d with
  | zero =>
    intro i x hi hl hp
    refine Ev.succ ?_
    simp only [impl_Classify.l0]
    refine Ev.neg (by omega) (Ev.const ?_)
    rw [List.take_of_length_le (by omega), List.take_of_length_le (by rw [classes_length]; omega)] at hp
    rw [hp]
  | succ d ih =>
    intro i x hi hl hp
    have hn := ih (i + 1) (x.set i (cls a b i)) (by omega) (by simpa using hl) (by
      have e : cls a b i = rd (classes a b a.length) (i : Int) := by rw [rd_eq _ _ (by rw [classes_length]; omega)]; simp [classes]
      rw [e]
      exact set_take x (classes a b a.length) i (by rw [classes_length]; omega) (by rw [classes_length]; omega) hp)
    refine Ev.succ ?_
    simp only [impl_Classify.l0, Int.toNat_natCast, wr1 i (by omega)]
    refine Ev.pos (by omega) ?_
    by_cases h2 : i < 2
    · refine Ev.pos (by omega) (Ev.pos (by omega) (Ev.pos (by omega) ?_))
      simpa [cls, h2] using hn
    · refine Ev.neg (by omega) (Ev.pos (by omega) (Ev.pos (by omega) ?_))
      by_cases h1 : rd a (i : Int) > 0
      · refine Ev.pos h1 (Ev.pos (by omega) ?_)
        simpa [cls, h2, h1] using hn
      · refine Ev.neg h1 (Ev.pos (by omega) ?_)
        by_cases h3 : rd b (i : Int) > 0
        · refine Ev.pos h3 (Ev.pos (by omega) ?_)
          simpa [cls, h2, h1, h3] using hn
        · refine Ev.neg h3 (Ev.pos (by omega) ?_)
          simpa [cls, h2, h1, h3] using hn
def classTold (a b : List Int) : List Int × Int := if check2 a b = 0 then (classes a b a.length, 0) else ([], check2 a b)
theorem classImpl_ev (a b : List Int) : Ev (fun k => impl_Classify.f k a b) (classTold a b) := by
  unfold impl_Classify.f classTold
  refine Ev.bind (bad_two_ev a b) ?_
  by_cases h : check2 a b = 0
  · rw [if_pos h]
    obtain ⟨_, h9, hl, _⟩ := check2_ok h
    refine Ev.pos h (Ev.pos (by omega) (Ev.pos (by omega) ?_))
    exact impl_from a b h9 hl a.length 0 _ (by omega) (by simp) (by simp)
  · rw [if_neg h]
    exact Ev.neg h (Ev.const rfl)

/-! What the runs of a list are: in order, and they count the list. -/
theorem eqlen_at (c : Int) (l : List Int) : ∀ j : Nat, j < eqlen c l → l[j]? = some c := by
  induction l with
  | nil => intro j h; simp [eqlen] at h
  | cons x t ih =>
    intro j h
    unfold eqlen at h
    split at h
    · rename_i hx
      cases j with
      | zero => simp [hx]
      | succ j => simpa using ih j (by omega)
    · omega
theorem runsF_start (l : List Int) : ∀ (p : Int) (b : Nat), ∀ r ∈ runsF p b l, (b : Int) ≤ r.f0 := by
  induction l with
  | nil => intro p b r h; simp [runsF] at h
  | cons c t ih =>
    intro p b r h
    unfold runsF at h
    split at h
    · have := ih 0 (b + 1) r h; omega
    · split at h
      · have := ih c (b + 1) r h; omega
      · rcases List.mem_cons.mp h with h | h
        · rw [h]; exact Int.le_refl _
        · have := ih c (b + 1) r h; omega
def stepC (b : Int) (c : Int) (r : Rn) : Int := if b ≥ r.f0 ∧ b < wrap64 (r.f0 + r.f1) then r.f2 else c
theorem lastC_fold (b : Int) (l : List Rn) : lastC b l = l.foldl (stepC b) 0 := rfl
theorem fold_none (i : Int) (l : List Rn) (h : ∀ r ∈ l, i < r.f0) : ∀ c, l.foldl (stepC i) c = c := by
  induction l with
  | nil => intro c; rfl
  | cons r t ih =>
    intro c
    have h0 := h r (by simp)
    rw [List.foldl_cons, stepC, if_neg (by omega)]
    exact ih (fun q hq => h q (List.mem_cons_of_mem _ hq)) c
theorem runs_fold (l : List Int) : ∀ (p : Int) (b : Nat) (c0 : Int) (j : Nat) (v : Int), b + l.length ≤ 1048576 → l[j]? = some v → (runsF p b l).foldl (stepC ((b + j : Nat) : Int)) c0 = if v = 0 ∨ (j < eqlen p l) then c0 else v := by
  induction l with
  | nil => intro p b c0 j v _ h; simp at h
  | cons c t ih =>
    intro p b c0 j v hb hj
    simp only [List.length_cons] at hb
    have el := eqlen_le c t
    unfold runsF
    cases j with
    | zero =>
      obtain rfl : c = v := by simpa using hj
      have hno : ∀ q, ∀ r ∈ runsF q (b + 1) t, ((b + 0 : Nat) : Int) < r.f0 := fun q r hr => by have := runsF_start t q (b + 1) r hr; omega
      split
      · rename_i h0
        rw [fold_none _ _ (hno 0), if_pos (.inl h0)]
      · rename_i h0
        split
        · rename_i hp
          rw [fold_none _ _ (hno c), if_pos (.inr (by rw [eqlen, if_pos hp]; omega))]
        · rename_i hp
          rw [List.foldl_cons, fold_none _ _ (hno c), stepC]
          simp only
          rw [wr (by omega) (by omega), if_pos (by omega), if_neg]
          rintro (h | h)
          · exact h0 h
          · rw [eqlen, if_neg hp] at h; omega
    | succ j =>
      have hj2 : t[j]? = some v := by simpa using hj
      have e : b + (j + 1) = b + 1 + j := by omega
      split
      · rename_i h0
        rw [e, ih 0 (b + 1) c0 j v (by omega) hj2]
        have hz : j < eqlen 0 t → v = 0 := fun h => by have := eqlen_at 0 t j h; rw [hj2] at this; injection this
        have hq : j + 1 < eqlen p (c :: t) → v = 0 := fun h => by
          have := eqlen_at p (c :: t) (j + 1) h
          have h00 := eqlen_at p (c :: t) 0 (by omega)
          simp only [List.getElem?_cons_succ, List.getElem?_cons_zero] at this h00
          rw [hj2] at this
          injection this with this
          injection h00 with h00
          omega
        by_cases hv : v = 0
        · rw [if_pos (.inl hv), if_pos (.inl hv)]
        · rw [if_neg (by rintro (h | h); exact hv h; exact hv (hz h)), if_neg (by rintro (h | h); exact hv h; exact hv (hq h))]
      · rename_i h0
        split
        · rename_i hp
          rw [e, ih c (b + 1) c0 j v (by omega) hj2, eqlen, if_pos hp, ← hp]
          by_cases hc : v = 0 ∨ j < eqlen c t
          · rw [if_pos hc, if_pos (by omega)]
          · rw [if_neg hc, if_neg (by omega)]
        · rename_i hp
          rw [List.foldl_cons, e, ih c (b + 1) _ j v (by omega) hj2, stepC]
          simp only
          have ep : eqlen p (c :: t) = 0 := by rw [eqlen, if_neg hp]
          rw [wr (by omega) (by omega), ep]
          by_cases hc : j < eqlen c t
          · have := eqlen_at c t j hc
            rw [hj2] at this
            injection this with this
            subst this
            rw [if_pos (.inr hc), if_pos (by omega), if_neg (by omega)]
          · by_cases hv : v = 0
            · rw [if_pos (.inl hv), if_neg (by omega), if_pos (.inl hv)]
            · rw [if_neg (by omega), if_neg (by omega)]
theorem counts_of_runs (l : List Int) (h : l.length ≤ 1048576) : (tab l.length fun b => lastC b (runs l)) = l := by
  refine List.ext_getElem (by rw [tab_length]) fun i h1 h2 => ?_
  have := runs_fold l 0 0 0 i l[i] (by omega) (by simp)
  have e : (tab l.length fun b => lastC b (runs l))[i] = lastC ((i : Nat) : Int) (runs l) := by simp [tab]
  rw [e, lastC_fold]
  unfold runs
  rw [show ((i : Nat) : Int) = ((0 + i : Nat) : Int) by omega, this]
  split
  · rename_i hc
    rcases hc with hc | hc
    · exact hc.symm
    · have := eqlen_at 0 l i hc
      rw [List.getElem?_eq_getElem h2] at this
      injection this with this
      exact this.symm
  · rfl
theorem good_runs (T : Nat) (hT : T ≤ 512) (l : List Int) : ∀ (p : Int) (b : Nat) (q : Option Rn), b + l.length = T → (∀ (j : Nat) (v : Int), l[j]? = some v → 0 ≤ v ∧ v ≤ 65535 ∧ (v ≠ 0 → 2 ≤ b + j)) →
    (∀ r, q = some r → 0 ≤ r.f0 ∧ 0 ≤ r.f1 ∧ r.f0 ≤ 512 ∧ r.f1 ≤ 512 ∧ ((p ≠ 0 ∧ r.f0 + r.f1 = ((b + eqlen p l : Nat) : Int) ∧ r.f2 = p) ∨ (p = 0 ∧ r.f0 + r.f1 < (b : Int)))) → (q = none → p = 0) → good (T : Int) q (runsF p b l) = true := by
  induction l with
  | nil => intro p b q _ _ _ _; simp [runsF, good]
  | cons c t ih =>
    intro p b q hb hv hq hn
    simp only [List.length_cons] at hb
    have hv' : ∀ (j : Nat) (v : Int), t[j]? = some v → 0 ≤ v ∧ v ≤ 65535 ∧ (v ≠ 0 → 2 ≤ b + 1 + j) := fun j v h => by
      have := hv (j + 1) v (by simpa using h)
      exact ⟨this.1, this.2.1, fun h => by have := this.2.2 h; omega⟩
    have hc := hv 0 c (by simp)
    have el := eqlen_le c t
    unfold runsF
    split
    · rename_i h0
      refine ih 0 (b + 1) q (by omega) hv' (fun r hr => ?_) (fun _ => rfl)
      obtain ⟨a1, a2, a3, a4, ⟨h1, h2, h3⟩ | h⟩ := hq r hr
      · have e : eqlen p (c :: t) = 0 := by rw [eqlen, if_neg (by omega)]
        rw [e] at h2
        exact ⟨a1, a2, a3, a4, .inr ⟨rfl, by omega⟩⟩
      · exact ⟨a1, a2, a3, a4, .inr ⟨rfl, by omega⟩⟩
    · rename_i h0
      split
      · rename_i hp
        refine ih c (b + 1) q (by omega) hv' (fun r hr => ?_) (fun h => by have := hn h; omega)
        obtain ⟨a1, a2, a3, a4, ⟨h1, h2, h3⟩ | h⟩ := hq r hr
        · have e : eqlen p (c :: t) = eqlen c t + 1 := by rw [eqlen, if_pos hp, hp]
          rw [e] at h2
          exact ⟨a1, a2, a3, a4, .inl ⟨h0, by omega, by omega⟩⟩
        · omega
      · rename_i hp
        have ep : eqlen p (c :: t) = 0 := by rw [eqlen, if_neg hp]
        have hc2 := hc.2.2 h0
        have r1 : rowOK (T : Int) ⟨(b : Int), ((eqlen c t + 1 : Nat) : Int), c⟩ = true := by
          unfold rowOK
          simp only
          rw [wr (by omega) (by omega)]
          exact decide_eq_true ⟨by omega, by omega, by omega, by omega, by omega, by omega, by omega⟩
        have r2 : linkOK q ⟨(b : Int), ((eqlen c t + 1 : Nat) : Int), c⟩ = true := by
          cases q with
          | none => rfl
          | some r =>
            obtain ⟨a1, a2, a3, a4, h⟩ := hq r rfl
            unfold linkOK
            simp only
            rw [wr (by omega) (by omega)]
            rcases h with ⟨h1, h2, h3⟩ | h
            · rw [ep] at h2
              exact decide_eq_true ⟨by omega, fun z => by omega⟩
            · exact decide_eq_true ⟨by omega, fun z => by omega⟩
        unfold good
        rw [r1, r2, Bool.true_and, Bool.true_and]
        refine ih c (b + 1) _ (by omega) hv' (fun r hr => ?_) (fun h => by cases h)
        injection hr with hr
        subst hr
        simp only
        exact ⟨by omega, by omega, by omega, by omega, .inl ⟨h0, by omega, trivial⟩⟩
theorem list_ok {a : List Int} (h8 : 8 ≤ a.length) (hb : a.any badNum = false) (h0 : rd a 0 = 0) (h1 : rd a 1 = 0) (j : Nat) (v : Int) (h : a[j]? = some v) : 0 ≤ v ∧ v ≤ 65535 ∧ (v ≠ 0 → 2 ≤ j) := by
  have hm : v ∈ a := List.mem_of_getElem? h
  have hn : badNum v = false := by
    cases e : badNum v with
    | false => rfl
    | true => rw [List.any_eq_true.mpr ⟨v, hm, e⟩] at hb; cases hb
  unfold badNum at hn
  simp only [Bool.or_eq_false_iff, decide_eq_false_iff_not] at hn
  refine ⟨by omega, by omega, fun hv => ?_⟩
  rcases Nat.lt_or_ge j 2 with hj | hj
  · exfalso
    have : j = 0 ∨ j = 1 := by omega
    rcases this with rfl | rfl
    · unfold rd at h0; simp [h] at h0; exact hv h0
    · unfold rd at h1; simp [h] at h1; exact hv h1
  · exact hj
theorem told_runs (a : List Int) (h8 : 8 ≤ a.length) (h9 : a.length ≤ 512) (hb : a.any badNum = false) (h0 : rd a 0 = 0) (h1 : rd a 1 = 0) : countsTold (a.length : Int) (runs a) = (a, 0) := by
  have hg := good_runs a.length h9 a 0 0 none (by omega) (fun j v h => by have := list_ok h8 hb h0 h1 j v h; exact ⟨this.1, this.2.1, fun h => by have := this.2.2 h; omega⟩) (fun r h => by cases h) (fun _ => rfl)
  have hl := runs_length a
  unfold countsTold
  rw [if_neg (by omega), if_neg]
  · rw [Int.toNat_natCast, counts_of_runs a (by omega)]
  · rintro (h | h)
    · omega
    · have : good (a.length : Int) none (runs a) = true := hg
      rw [this] at h; cases h
/-! The free blocks of a list in which the lowest is taken. -/
theorem frees_set (a b : List Int) (x : Nat) (hx : x < a.length) : Iter.frees (a.set x 1) b = (Iter.frees a b).filter (fun y => decide (y ≠ (x : Int))) := by
  unfold Iter.frees Iter.freesTo
  rw [List.length_set, List.filter_map, List.filter_filter]
  congr 1
  refine List.filter_congr fun i hi => ?_
  have hi2 := List.mem_range.mp hi
  unfold Iter.freeAt
  by_cases h : i = x
  · subst h
    have e : rd (a.set i 1) (i : Int) = 1 := by unfold rd; simp [hx]
    simp [e]
  · have e : rd (a.set x 1) (i : Int) = rd a (i : Int) := by unfold rd; simp only [List.getD_eq_getElem?_getD]; rw [List.getElem?_set_ne (by omega)]
    have e2 : decide ((i : Int) ≠ (x : Int)) = true := decide_eq_true (by omega)
    rw [e]
    show _ = (decide ((i : Int) ≠ (x : Int)) && _)
    rw [e2, Bool.true_and]
theorem frees_nodup (a b : List Int) : (Iter.frees a b).Nodup := by
  unfold Iter.frees Iter.freesTo
  exact List.Pairwise.map _ (fun i j h e => h (by omega)) (List.Pairwise.filter _ List.nodup_range)
theorem frees_take (a b : List Int) (x : Int) (t : List Int) (h : Iter.frees a b = x :: t) : Iter.frees (a.set x.toNat 1) b = t := by
  have hm := frees_mem a b x (by rw [h]; simp)
  have hn := frees_nodup a b
  rw [h, List.nodup_cons] at hn
  rw [frees_set a b x.toNat (by omega), h, List.filter_cons]
  rw [if_neg (by simp; omega)]
  refine List.filter_eq_self.mpr fun y hy => ?_
  have : y ≠ x := fun e => hn.1 (by rw [← e]; exact hy)
  exact decide_eq_true (by omega)
theorem free_zero (a b : List Int) (x : Int) (h : x ∈ Iter.frees a b) : rd a x = 0 ∧ rd b x = 0 := by
  unfold Iter.frees Iter.freesTo at h
  simp only [List.mem_map, List.mem_filter, List.mem_range, Bool.and_eq_true, decide_eq_true_eq, Iter.freeAt] at h
  obtain ⟨i, ⟨_, _, h1, h2⟩, rfl⟩ := h
  exact ⟨h1, h2⟩
/-- A sound pair stays sound when a free block is taken. -/
theorem check2_set {a b : List Int} (h : check2 a b = 0) (x : Int) (hx : 2 ≤ x) : check2 (a.set x.toNat 1) b = 0 := by
  obtain ⟨h8, h9, hl, ba, bb, a0, a1, b0, b1⟩ := check2_ok h
  have e0 : rd (a.set x.toNat 1) 0 = 0 := by
    have : rd (a.set x.toNat 1) 0 = rd a 0 := by unfold rd; simp only [List.getD_eq_getElem?_getD]; rw [List.getElem?_set_ne (by omega)]
    rw [this, a0]
  have e1 : rd (a.set x.toNat 1) 1 = 0 := by
    have : rd (a.set x.toNat 1) 1 = rd a 1 := by unfold rd; simp only [List.getD_eq_getElem?_getD]; rw [List.getElem?_set_ne (show x.toNat ≠ (1 : Int).toNat by omega)]
    rw [this, a1]
  have e2 : (a.set x.toNat 1).any badNum = false := by
    cases e : (a.set x.toNat 1).any badNum with
    | false => rfl
    | true =>
      obtain ⟨y, hy, hy2⟩ := List.any_eq_true.mp e
      rcases List.mem_or_eq_of_mem_set hy with hm | rfl
      · rw [List.any_eq_true.mpr ⟨y, hm, hy2⟩] at ba; cases ba
      · simp [badNum] at hy2
  unfold check2
  rw [List.length_set, if_neg (by omega), e2, bb, if_neg (by simp), if_neg (by rw [e0, e1, b0, b1]; simp)]
theorem check1_of {a b : List Int} (h : check2 a b = 0) : check1 a = 0 := by
  obtain ⟨h8, h9, hl, ba, bb, a0, a1, b0, b1⟩ := check2_ok h
  unfold check1
  rw [if_neg (by omega), ba, if_neg (by simp), if_neg (by rw [a0, a1]; simp)]
/-- The runs are at most as many as the blocks behind the first two. -/
theorem runs_two (a : List Int) (h8 : 8 ≤ a.length) (a0 : rd a 0 = 0) (a1 : rd a 1 = 0) : (runs a).length + 2 ≤ a.length := by
  unfold runs
  match a, h8, a0, a1 with
  | x :: y :: t, _, a0, a1 =>
    obtain rfl : x = 0 := by simpa [rd] using a0
    obtain rfl : y = 0 := by simpa [rd] using a1
    rw [runsF, if_pos rfl, runsF, if_pos rfl]
    have := runsF_length t 0 (0 + 1 + 1)
    simp only [List.length_cons]
    omega
/-- How the plan comes out: the least number of free blocks, taken from below, that suffices. -/
theorem g_spec (r : List Int) : ∀ (m t : List Int),
    (impl_plan.g m t r = ([], [], 7) ∧ ∀ k, 1 ≤ k → k ≤ r.length → ¬ ((runs (markAll m (r.take k))).length : Int) ≤ 20 * ((t.length + k : Nat) : Int)) ∨
    (∃ K, 1 ≤ K ∧ K ≤ r.length ∧ impl_plan.g m t r = (t ++ r.take K, runs (markAll m (r.take K)), 0) ∧ ((runs (markAll m (r.take K))).length : Int) ≤ 20 * ((t.length + K : Nat) : Int) ∧ ∀ k, 1 ≤ k → k < K → ¬ ((runs (markAll m (r.take k))).length : Int) ≤ 20 * ((t.length + k : Nat) : Int)) := by
  induction r with
  | nil => intro m t; exact .inl ⟨rfl, fun k h1 h2 => by simp at h2; omega⟩
  | cons b r ih =>
    intro m t
    have e1 : ∀ k, markAll m ((b :: r).take (k + 1)) = markAll (m.set b.toNat 1) (r.take k) := fun k => rfl
    have el : (t ++ [b]).length = t.length + 1 := by simp
    rw [impl_plan.g]
    by_cases hc : ((runs (m.set b.toNat 1)).length : Int) ≤ 20 * ((t ++ [b]).length : Int)
    · rw [if_pos hc]
      rw [el] at hc
      refine .inr ⟨1, Nat.le_refl _, by simp, ?_, ?_, fun k h1 h2 => by omega⟩
      · rw [show (1 : Nat) = 0 + 1 from rfl, e1]; rfl
      · rw [show (1 : Nat) = 0 + 1 from rfl, e1]; exact hc
    · rw [if_neg hc]
      rw [el] at hc
      have h1 : ∀ k, 1 ≤ k → (k = 1 ∨ ∃ j, 1 ≤ j ∧ k = j + 1) := fun k hk => by
        rcases Nat.lt_or_ge 1 k with h | h
        · exact .inr ⟨k - 1, by omega, by omega⟩
        · exact .inl (by omega)
      rcases ih (m.set b.toNat 1) (t ++ [b]) with ⟨hg, hk⟩ | ⟨K, k1, k2, hg, hl, hk⟩
      · refine .inl ⟨hg, fun k g1 g2 => ?_⟩
        rcases h1 k g1 with rfl | ⟨j, j1, rfl⟩
        · rw [show (1 : Nat) = 0 + 1 from rfl, e1]; exact hc
        · rw [e1]
          have := hk j j1 (by simp only [List.length_cons] at g2; omega)
          rw [el] at this
          rwa [show t.length + (j + 1) = t.length + 1 + j by omega]
      · refine .inr ⟨K + 1, by omega, by simp only [List.length_cons]; omega, ?_, ?_, fun k g1 g2 => ?_⟩
        · rw [hg, e1]; simp
        · rw [e1]
          rw [el] at hl
          rwa [show t.length + (K + 1) = t.length + 1 + K by omega]
        · rcases h1 k g1 with rfl | ⟨j, j1, rfl⟩
          · rw [show (1 : Nat) = 0 + 1 from rfl, e1]; exact hc
          · rw [e1]
            have := hk j j1 (by omega)
            rw [el] at this
            rwa [show t.length + (j + 1) = t.length + 1 + j by omega]
theorem marked_step (a b : List Int) (h : check2 a b = 0) (k : Nat) (hk : k ≤ (Iter.frees a b).length) :
    check2 (markAll a ((Iter.frees a b).take k)) b = 0 ∧ Iter.frees (markAll a ((Iter.frees a b).take k)) b = (Iter.frees a b).drop k ∧ (markAll a ((Iter.frees a b).take k)).length = a.length := by
  induction k with
  | zero => exact ⟨by simpa [markAll] using h, by simp [markAll], by simp [markAll]⟩
  | succ k ih =>
    obtain ⟨i1, i2, i3⟩ := ih (by omega)
    have hm := frees_mem a b (Iter.frees a b)[k] (List.getElem_mem (by omega))
    rw [List.take_succ_eq_append_getElem (by omega), markAll_snoc]
    refine ⟨check2_set i1 _ hm.1, ?_, by rw [List.length_set, i3]⟩
    refine frees_take _ b _ _ ?_
    rw [i2, List.drop_eq_getElem_cons (by omega)]

/-! The draws: a draw always gives a number in its range. -/
def Dn {α : Type} (g : Nat → Option α) (P : α → Prop) : Prop := ∃ r, Ev g r ∧ P r
theorem Dn.ite {α : Type} {c : Prop} [Decidable c] {g f : Nat → Option α} {P : α → Prop} (h1 : c → Dn g P) (h2 : ¬ c → Dn f P) : Dn (fun k => if c then g k else f k) P := by
  by_cases h : c
  · obtain ⟨r, e, p⟩ := h1 h; exact ⟨r, Ev.pos h e, p⟩
  · obtain ⟨r, e, p⟩ := h2 h; exact ⟨r, Ev.neg h e, p⟩
theorem Dn.yes {α : Type} {c : Prop} [Decidable c] {g f : Nat → Option α} {P : α → Prop} (h : c) (k : Dn g P) : Dn (fun k => if c then g k else f k) P := by
  obtain ⟨r, e, p⟩ := k; exact ⟨r, Ev.pos h e, p⟩
theorem Dn.no {α : Type} {c : Prop} [Decidable c] {g f : Nat → Option α} {P : α → Prop} (h : ¬ c) (k : Dn f P) : Dn (fun k => if c then g k else f k) P := by
  obtain ⟨r, e, p⟩ := k; exact ⟨r, Ev.neg h e, p⟩
theorem Dn.bind {α β : Type} {g : Nat → Option α} {F : Nat → α → Option β} {Q : α → Prop} {P : β → Prop} (h : Dn g Q) (k : ∀ r, Q r → Dn (fun n => F n r) P) : Dn (fun n => (g n).bind (F n)) P := by
  obtain ⟨r, e, q⟩ := h
  obtain ⟨s, e2, p⟩ := k r q
  exact ⟨s, Ev.bind e e2, p⟩
theorem Dn.some {α : Type} {r : α} {P : α → Prop} (h : P r) : Dn (fun _ => some r) P := ⟨r, Ev.const rfl, h⟩
theorem Dn.succ {α : Type} {g : Nat → Option α} {P : α → Prop} (h : Dn (fun k => g (k + 1)) P) : Dn g P := by
  obtain ⟨r, e, p⟩ := h; exact ⟨r, Ev.succ e, p⟩
theorem Dn.imp {α : Type} {g : Nat → Option α} {P Q : α → Prop} (h : Dn g P) (k : ∀ r, P r → Q r) : Dn g Q := by
  obtain ⟨r, e, p⟩ := h; exact ⟨r, e, k r p⟩
theorem uw (x : Int) : 0 ≤ IntKind.u64.wrap x := by
  show 0 ≤ x % 2 ^ 64
  omega
theorem next_ok (c : List Int) (hc : c.length ≤ 1048576) (p st n : Int) (h0 : 0 ≤ p) (hp : p ≤ 1048576) (hn : 0 < n) (hn2 : n ≤ 1048576) :
    ∃ r q t, spec_l1Next.f c p st n = some (r, q, t) ∧ 0 ≤ r ∧ r < n ∧ 0 ≤ q ∧ q ≤ 1048576 := by
  have en : IntKind.u64.wrap n = n := by
    show n % 2 ^ 64 = n
    omega
  have key : ∀ x : Int, 0 ≤ x → 0 ≤ wrap64 (Int.tmod x n) ∧ wrap64 (Int.tmod x n) < n := by
    intro x hx
    rw [Int.tmod_eq_emod_of_nonneg hx]
    have h1 := Int.emod_nonneg x (show n ≠ 0 by omega)
    have h2 := Int.emod_lt_of_pos x hn
    rw [wr (by omega) (by omega)]
    exact ⟨h1, h2⟩
  unfold spec_l1Next.f
  rw [if_neg (by omega), en]
  by_cases hl : p < (c.length : Int)
  · rw [if_pos hl, if_pos h0, if_neg (by omega), wr (show -9223372036854775808 ≤ p + 1 by omega) (by omega)]
    have := key (Go.bits .xor .u64 ((IntKind.u64.wrap ((IntKind.u64.wrap (st * 6364136223846793005)) + 1442695040888963407)) / 8589934592) (IntKind.u64.wrap (rd c p))) (by unfold Go.bits; exact uw _)
    exact ⟨_, _, _, rfl, this.1, this.2, by omega, by omega⟩
  · rw [if_neg hl, if_neg (by omega)]
    have := key ((IntKind.u64.wrap ((IntKind.u64.wrap (st * 6364136223846793005)) + 1442695040888963407)) / 8589934592) (Int.ediv_nonneg (uw _) (by omega))
    exact ⟨_, _, _, rfl, this.1, this.2, h0, hp⟩
theorem Dn.next {β : Type} {c : List Int} {p st n : Int} {F : Nat → Int × Int × Int → Option β} {P : β → Prop} (hc : c.length ≤ 1048576) (hn : 0 < n) (hn2 : n ≤ 1048576) (h0 : 0 ≤ p) (hp : p ≤ 1048576)
    (h : ∀ r q t, 0 ≤ r → r < n → 0 ≤ q → q ≤ 1048576 → Dn (fun k => F k (r, q, t)) P) : Dn (fun k => (spec_l1Next.f c p st n).bind (F k)) P := by
  obtain ⟨r, q, t, e, h1, h2, h3, h4⟩ := next_ok c hc p st n h0 hp hn hn2
  obtain ⟨s, e2, hP⟩ := h r q t h1 h2 h3 h4
  exact ⟨s, Ev.bind0 e e2, hP⟩
theorem blocks_ok (c : List Int) (hc : c.length ≤ 1048576) (p st : Int) (h0 : 0 ≤ p) (hp : p ≤ 1048576) : Dn (fun _ => spec_l1DrawBlocks.f c p st) (fun r => 8 ≤ r.1 ∧ r.1 ≤ 512 ∧ 0 ≤ r.2.1 ∧ r.2.1 ≤ 1048576) := by
  unfold spec_l1DrawBlocks.f
  refine Dn.next hc (by omega) (by omega) h0 hp fun r q t h1 h2 h3 h4 => ?_
  dsimp only
  refine Dn.ite (fun _ => Dn.some ⟨by show (8 : Int) ≤ 512; omega, by show (512 : Int) ≤ 512; omega, h3, h4⟩) fun _ => Dn.ite (fun _ => Dn.some ⟨by show (8 : Int) ≤ 8; omega, by show (8 : Int) ≤ 512; omega, h3, h4⟩) fun _ => Dn.ite (fun _ => ?_) (fun _ => ?_)
  · refine Dn.next hc (by omega) (by omega) h3 h4 fun r q t g1 g2 g3 g4 => ?_
    dsimp only
    refine Dn.some ?_
    rw [wr (by omega) (by omega)]
    exact ⟨by show (8 : Int) ≤ 60 + r; omega, by show 60 + r ≤ (512 : Int); omega, g3, g4⟩
  · refine Dn.next hc (by omega) (by omega) h3 h4 fun r q t g1 g2 g3 g4 => ?_
    dsimp only
    refine Dn.some ?_
    rw [wr (by omega) (by omega)]
    exact ⟨by show (8 : Int) ≤ 10 + r; omega, by show 10 + r ≤ (512 : Int); omega, g3, g4⟩
theorem counts_from (c : List Int) (hc : c.length ≤ 1048576) (n : Nat) (hn : n ≤ 512) (way : Int) (d : Nat) : ∀ (i : Nat) (x5 : List Int) (now p st : Int), i + d = n → x5.length = i → 0 ≤ p → p ≤ 1048576 →
    Dn (fun k => spec_l3DrawCounts.l0 k (n : Int) x5 way now (i : Int) c p st) (fun r => r.1.length = n ∧ 0 ≤ r.2.1 ∧ r.2.1 ≤ 1048576) := by
  induction d with
  | zero =>
    intro i x5 now p st hi hl h0 hp
    refine Dn.succ ?_
    simp only [spec_l3DrawCounts.l0]
    exact Dn.no (by omega) (Dn.some ⟨by show x5.length = n; omega, h0, hp⟩)
  | succ d ih =>
    intro i x5 now p st hi hl h0 hp
    have H : ∀ (v w q t : Int), 0 ≤ q → q ≤ 1048576 → Dn (fun k => if x5.length < 17592186044416 then spec_l3DrawCounts.l0 k (n : Int) (x5 ++ [v]) way w (wrap64 ((i : Int) + 1)) c q t else none) (fun r => r.1.length = n ∧ 0 ≤ r.2.1 ∧ r.2.1 ≤ 1048576) := by
      intro v w q t g0 g1
      rw [wr1 i (by omega)]
      exact Dn.yes (by omega) (ih (i + 1) (x5 ++ [v]) w q t (by omega) (by simp; omega) g0 g1)
    refine Dn.succ ?_
    simp only [spec_l3DrawCounts.l0]
    refine Dn.yes (by omega) ?_
    repeat' first
      | exact H _ _ _ _ (by assumption) (by assumption)
      | (refine Dn.next hc (by omega) (by omega) (by assumption) (by assumption) fun r q t _ _ _ _ => ?_; dsimp only)
      | refine Dn.ite (fun _ => ?_) (fun _ => ?_)
theorem counts_ok (c : List Int) (hc : c.length ≤ 1048576) (n : Int) (h8 : 8 ≤ n) (hn : n ≤ 512) (p st : Int) (h0 : 0 ≤ p) (hp : p ≤ 1048576) :
    Dn (fun k => spec_l3DrawCounts.f k c p st n) (fun r => (r.1.length : Int) = n ∧ 0 ≤ r.2.1 ∧ r.2.1 ≤ 1048576) := by
  unfold spec_l3DrawCounts.f
  refine Dn.next hc (by omega) (by omega) h0 hp fun r q t _ _ g0 g1 => ?_
  dsimp only
  obtain ⟨m, rfl⟩ : ∃ m : Nat, n = (m : Int) := ⟨n.toNat, by omega⟩
  exact (counts_from c hc m (by omega) r (m - 2) 2 [0, 0] 0 q t (by omega) rfl g0 g1).imp fun r h => ⟨by have := h.1; omega, h.2⟩
theorem spoil_from (c : List Int) (d : Nat) : ∀ (l : List Int) (p st : Int), l.length + d = 513 → 0 ≤ p → p ≤ 1048576 → Dn (fun k => spec_l3SpoilCounts.l0 k l c p st) (fun r => r.1.length ≤ 513 ∧ 0 ≤ r.2.1 ∧ r.2.1 ≤ 1048576) := by
  induction d with
  | zero =>
    intro l p st h h0 hp
    refine Dn.succ ?_
    simp only [spec_l3SpoilCounts.l0]
    exact Dn.no (by omega) (Dn.some ⟨by show l.length ≤ 513; omega, h0, hp⟩)
  | succ d ih =>
    intro l p st h h0 hp
    refine Dn.succ ?_
    simp only [spec_l3SpoilCounts.l0]
    exact Dn.yes (by omega) (Dn.yes (by omega) (ih (l ++ [1]) p st (by simp; omega) h0 hp))
theorem spoil_ok (c : List Int) (hc : c.length ≤ 1048576) (l : List Int) (h8 : 8 ≤ l.length) (hn : l.length ≤ 512) (p st : Int) (h0 : 0 ≤ p) (hp : p ≤ 1048576) :
    Dn (fun k => spec_l3SpoilCounts.f k c p st l) (fun r => r.1.length ≤ 513 ∧ 0 ≤ r.2.1 ∧ r.2.1 ≤ 1048576) := by
  unfold spec_l3SpoilCounts.f
  refine Dn.next hc (by omega) (by omega) h0 hp fun r q t _ _ g0 g1 => ?_
  dsimp only
  refine Dn.next hc (by omega) (by omega) g0 g1 fun i q2 t2 i0 i1 j0 j1 => ?_
  dsimp only
  refine Dn.ite (fun _ => Dn.yes (by omega) (Dn.some ⟨?_, j0, j1⟩)) fun _ => Dn.ite (fun _ => Dn.yes i0 (Dn.yes i1 (Dn.some ⟨?_, j0, j1⟩))) fun _ => Dn.ite (fun _ => Dn.yes i0 (Dn.yes i1 (Dn.some ⟨?_, j0, j1⟩))) fun _ =>
    Dn.ite (fun _ => Dn.yes (by omega) (Dn.some ⟨?_, j0, j1⟩)) fun _ => Dn.ite (fun _ => Dn.yes (by omega) (Dn.some ⟨?_, j0, j1⟩)) fun _ => ?_
  · simp only [List.length_take]; omega
  · simp only [List.length_set]; omega
  · simp only [List.length_set]; omega
  · simp only [List.length_set]; omega
  · simp only [List.length_append, List.length_cons, List.length_nil]; omega
  · exact spoil_from c (513 - l.length) l q2 t2 (by omega) j0 j1
def two (r : List Int × List Int × Int × Int) : Prop := r.1.length ≤ 513 ∧ r.2.1.length ≤ 513
theorem j3_ok (c : List Int) (hc : c.length ≤ 1048576) (a b : List Int) (a8 : 8 ≤ a.length) (a9 : a.length ≤ 512) (b8 : 8 ≤ b.length) (b9 : b.length ≤ 512) (p st : Int) (h0 : 0 ≤ p) (hp : p ≤ 1048576) :
    Dn (fun k => spec_l3DrawTwo.j3 k a b c p st) two := by
  refine Dn.succ ?_
  simp only [spec_l3DrawTwo.j3]
  refine Dn.next hc (by omega) (by omega) h0 hp fun r q t _ _ g0 g1 => ?_
  dsimp only
  refine Dn.ite (fun _ => ?_) (fun _ => ?_)
  · exact Dn.bind (spoil_ok c hc a a8 a9 q t g0 g1) fun r h => Dn.some ⟨h.1, by show b.length ≤ 513; omega⟩
  · refine Dn.next hc (by omega) (by omega) g0 g1 fun r q t _ _ g0 g1 => ?_
    dsimp only
    refine Dn.ite (fun _ => ?_) (fun _ => ?_)
    · exact Dn.bind (spoil_ok c hc b b8 b9 q t g0 g1) fun r h => Dn.some ⟨by show a.length ≤ 513; omega, h.1⟩
    · exact Dn.some ⟨by show a.length ≤ 513; omega, by show b.length ≤ 513; omega⟩
theorem two0_from (c : List Int) (hc : c.length ≤ 1048576) (n : Nat) (n8 : 8 ≤ n) (n9 : n ≤ 512) (a : List Int) (ha : a.length = n) (p st : Int) (h0 : 0 ≤ p) (hp : p ≤ 1048576) (d : Nat) : ∀ (i : Nat) (x : List Int), i + d = n → x.length = i → Dn (fun k => spec_l3DrawTwo.l0 k (n : Int) a x (i : Int) c p st) two := by
  induction d with
  | zero =>
    intro i x hi hx
    refine Dn.succ ?_
    simp only [spec_l3DrawTwo.l0]
    exact Dn.no (by omega) (j3_ok c hc a x (by omega) (by omega) (by omega) (by omega) p st h0 hp)
  | succ d ih =>
    intro i x hi hx
    refine Dn.succ ?_
    simp only [spec_l3DrawTwo.l0, wr1 i (by omega)]
    exact Dn.yes (by omega) (Dn.yes (by omega) (ih (i + 1) (x ++ [0]) (by omega) (by simp; omega)))
theorem two1_from (c : List Int) (hc : c.length ≤ 1048576) (n : Nat) (n8 : 8 ≤ n) (n9 : n ≤ 512) (a : List Int) (ha : a.length = n) (p st : Int) (h0 : 0 ≤ p) (hp : p ≤ 1048576) (d : Nat) : ∀ (i : Nat) (x : List Int), i + d = n → x.length = i → Dn (fun k => spec_l3DrawTwo.l1 k (n : Int) a x (i : Int) c p st) two := by
  induction d with
  | zero =>
    intro i x hi hx
    refine Dn.succ ?_
    simp only [spec_l3DrawTwo.l1]
    exact Dn.no (by omega) (j3_ok c hc a x (by omega) (by omega) (by omega) (by omega) p st h0 hp)
  | succ d ih =>
    intro i x hi hx
    refine Dn.succ ?_
    simp only [spec_l3DrawTwo.l1, wr1 i (by omega)]
    exact Dn.yes (by omega) (Dn.yes (by omega) (Dn.yes (by omega) (Dn.yes (by omega) (ih (i + 1) _ (by omega) (by simp; omega)))))
theorem two2_from (c : List Int) (hc : c.length ≤ 1048576) (n : Nat) (n8 : 8 ≤ n) (n9 : n ≤ 512) (b : List Int) (hb : b.length = n) (d : Nat) : ∀ (i : Nat) (a : List Int) (p st : Int), i + d = n → a.length = n → 0 ≤ p → p ≤ 1048576 → Dn (fun k => spec_l3DrawTwo.l2 k (n : Int) a b (i : Int) c p st) two := by
  induction d with
  | zero =>
    intro i a p st hi ha h0 hp
    refine Dn.succ ?_
    simp only [spec_l3DrawTwo.l2]
    exact Dn.no (by omega) (j3_ok c hc a b (by omega) (by omega) (by omega) (by omega) p st h0 hp)
  | succ d ih =>
    intro i a p st hi ha h0 hp
    refine Dn.succ ?_
    simp only [spec_l3DrawTwo.l2, wr1 i (by omega)]
    refine Dn.yes (by omega) (Dn.next hc (by omega) (by omega) h0 hp fun r q t _ _ g0 g1 => ?_)
    dsimp only
    refine Dn.ite (fun _ => ?_) (fun _ => ih (i + 1) a q t (by omega) ha g0 g1)
    refine Dn.next hc (by omega) (by omega) g0 g1 fun r q t _ _ g0 g1 => ?_
    dsimp only
    exact Dn.yes (by omega) (Dn.yes (by omega) (ih (i + 1) _ q t (by omega) (by simp; omega) g0 g1))
theorem two_ok (c : List Int) (hc : c.length ≤ 1048576) (st : Int) : Dn (fun k => spec_l3DrawTwo.f k c 0 st) two := by
  unfold spec_l3DrawTwo.f
  refine Dn.bind (g := fun _ => spec_l1DrawBlocks.f c 0 st) (blocks_ok c hc 0 st (by omega) (by omega)) fun n hN => ?_
  obtain ⟨n, p, t⟩ := n
  obtain ⟨n8, n9, p0, p1⟩ := hN
  dsimp only at n8 n9 p0 p1 ⊢
  refine Dn.bind (counts_ok c hc n n8 n9 p t p0 p1) fun a hA => ?_
  obtain ⟨a, p, t⟩ := a
  obtain ⟨aL, p0, p1⟩ := hA
  dsimp only at aL p0 p1 ⊢
  refine Dn.bind (counts_ok c hc n n8 n9 p t p0 p1) fun b hB => ?_
  obtain ⟨b, p, t⟩ := b
  obtain ⟨bL, p0, p1⟩ := hB
  dsimp only at bL p0 p1 ⊢
  obtain ⟨m, rfl⟩ : ∃ m : Nat, n = (m : Int) := ⟨n.toNat, by omega⟩
  refine Dn.next hc (by omega) (by omega) p0 p1 fun r q t _ _ g0 g1 => ?_
  dsimp only
  refine Dn.ite (fun _ => ?_) fun _ => Dn.ite (fun _ => ?_) fun _ => Dn.ite (fun _ => ?_) fun _ => ?_
  · exact two0_from c hc m (by omega) (by omega) a (by omega) q t g0 g1 m 0 [] (by omega) rfl
  · exact two1_from c hc m (by omega) (by omega) a (by omega) q t g0 g1 m 0 [] (by omega) rfl
  · exact two2_from c hc m (by omega) (by omega) b (by omega) (m - 2) 2 a q t (by omega) (by omega) g0 g1
  · exact j3_ok c hc a b (by omega) (by omega) (by omega) (by omega) q t g0 g1

/-! The law's own loops. -/
theorem fcopy_from (l : List Int) : ∀ (p : List Int), p.length + l.length ≤ 1048576 → Ev (fun k => laws_fCopyNums.l0 k (p ++ l) p (p.length : Int)) (p ++ l) := by
  induction l with
  | nil =>
    intro p _
    refine Ev.succ ?_
    simp only [laws_fCopyNums.l0]
    exact Ev.neg (by simp) (Ev.const (by simp))
  | cons r t ih =>
    intro p hp
    simp only [List.length_cons] at hp
    have hn := ih (p ++ [r]) (by simp; omega)
    refine Ev.succ ?_
    have e : rd (p ++ r :: t) (p.length : Int) = r := by unfold rd; simp
    simp only [laws_fCopyNums.l0, e, wr1 p.length (by omega)]
    refine Ev.pos (by simp only [List.length_append, List.length_cons]; omega) (Ev.pos (by omega) (Ev.pos (by omega) ?_))
    simpa using hn
theorem fcopy_ev (l : List Int) (h : l.length ≤ 1048576) : Ev (fun k => laws_fCopyNums.f k l) l := by
  have := fcopy_from l [] (by simp; omega)
  unfold laws_fCopyNums.f
  simpa using this
theorem lruns_from (x : List Rn) (hx : x.length ≤ 1048576) (d : Nat) : ∀ i : Nat, i + d = x.length → Ev (fun k => laws_lRuns.l0 k x x (i : Int)) true := by
  induction d with
  | zero =>
    intro i hi
    refine Ev.succ ?_
    simp only [laws_lRuns.l0]
    exact Ev.neg (by omega) (Ev.const rfl)
  | succ d ih =>
    intro i hi
    refine Ev.succ ?_
    simp only [laws_lRuns.l0, wr1 i (by omega)]
    exact Ev.pos (by omega) (Ev.pos (by omega) (Ev.pos (by omega) (Ev.neg (by simp) (ih (i + 1) (by omega)))))
theorem lruns_ev (x : List Rn) (hx : x.length ≤ 1048576) : Ev (fun k => laws_lRuns.f k x x) true := by
  unfold laws_lRuns.f
  exact Ev.pos rfl (lruns_from x hx x.length 0 (by omega))
theorem runsTold_of {a b : List Int} (h : check2 a b = 0) : runsTold a = (runs a, 0) := by unfold runsTold; rw [if_pos (check1_of h)]
theorem low_at {a b : List Int} (h : check2 a b = 0) {x : Int} {t : List Int} (hf : Iter.frees a b = x :: t) : lowTold a b = (x, 0) := by unfold lowTold; rw [if_pos h, hf]
section
variable {a b : List Int} (h : check2 a b = 0) (K : Nat) (k1 : 1 ≤ K) (k2 : K ≤ (Iter.frees a b).length)
  (hl : ((runs (markAll a ((Iter.frees a b).take K))).length : Int) ≤ 20 * ((0 + K : Nat) : Int)) (hm : ∀ k, 1 ≤ k → k < K → ¬ ((runs (markAll a ((Iter.frees a b).take k))).length : Int) ≤ 20 * ((0 + k : Nat) : Int))
include h k1 k2 hl hm
theorem l2_from (d : Nat) : ∀ i : Nat, i + d = K → Ev (fun k => laws_FnPlan.l2 k a b ((Iter.frees a b).take K) (runs (markAll a ((Iter.frees a b).take K))) (markAll a ((Iter.frees a b).take i)) (i : Int)) true := by
  have hok := check2_ok h
  have hK : ((Iter.frees a b).take K).length = K := by rw [List.length_take]; omega
  have hfl := frees_length a b
  induction d with
  | zero =>
    intro i hi
    obtain rfl : i = K := by omega
    obtain ⟨m1, m2, m3⟩ := marked_step a b h i k2
    have hr := runs_length (markAll a ((Iter.frees a b).take i))
    refine Ev.succ ?_
    simp only [laws_FnPlan.l2, hK]
    refine Ev.neg (by omega) (Ev.bind (fcopy_ev _ (by omega)) (Ev.bind (runsImpl_ev _) ?_))
    rw [runsTold_of m1]
    dsimp only
    refine Ev.pos (by omega) (Ev.pos rfl (Ev.bind (lruns_ev _ (by omega)) (Ev.pos rfl (Ev.const ?_))))
    rw [wr (by omega) (by omega)]
    exact decide_eq_true (by omega)
  | succ d ih =>
    intro i hi
    obtain ⟨m1, m2, m3⟩ := marked_step a b h i (by omega)
    have hr := runs_length (markAll a ((Iter.frees a b).take i))
    have hd : (Iter.frees a b).drop i = (Iter.frees a b)[i]'(by omega) :: (Iter.frees a b).drop (i + 1) := List.drop_eq_getElem_cons (by omega)
    have hx := frees_mem a b ((Iter.frees a b)[i]'(by omega)) (List.getElem_mem _)
    have hz := free_zero a b ((Iter.frees a b)[i]'(by omega)) (List.getElem_mem _)
    have hn := ih (i + 1) (by omega)
    rw [List.take_succ_eq_append_getElem (by omega), markAll_snoc] at hn
    have e : rd ((Iter.frees a b).take K) (i : Int) = (Iter.frees a b)[i]'(by omega) := by
      rw [rd_eq _ i (by omega)]
      simp
    have hj : Ev (fun k => laws_FnPlan.j6 k a b ((Iter.frees a b).take K) (runs (markAll a ((Iter.frees a b).take K))) (markAll a ((Iter.frees a b).take i)) (i : Int) false) true := by
      refine Ev.succ ?_
      simp only [laws_FnPlan.j6, wr1 i (by omega)]
      refine Ev.neg (by simp) (Ev.bind (fcopy_ev _ (by omega)) (Ev.bind (fcopy_ev _ (by omega)) (Ev.bind (impl_low_ev _ _) ?_)))
      rw [low_at m1 (m2.trans hd)]
      dsimp only
      rw [e, hK]
      refine Ev.pos rfl (Ev.pos (by omega) (Ev.pos (by omega) (Ev.pos rfl (Ev.neg (by omega) (Ev.neg (by omega) (Ev.pos (by omega) (Ev.pos (by omega) (Ev.pos hz.1 (Ev.pos (by omega) (Ev.pos hz.2 (Ev.pos (by omega) ?_)))))))))))
      exact hn
    refine Ev.succ ?_
    simp only [laws_FnPlan.l2, hK]
    refine Ev.pos (by omega) (Ev.bind (fcopy_ev _ (by omega)) (Ev.bind (runsImpl_ev _) ?_))
    rw [runsTold_of m1]
    dsimp only
    by_cases h0 : (i : Int) > 0
    · refine Ev.pos h0 ?_
      have := hm i (by omega) (by omega)
      rw [wr (show -9223372036854775808 ≤ 20 * (i : Int) by omega) (by omega), decide_eq_false (by omega)]
      exact hj
    · exact Ev.neg h0 hj
end
theorem reserve_ev (n : Nat) (h8 : 8 ≤ n) (h9 : n ≤ 512) : impl_Reserve.f (n : Int) = some (((n + 17) / 20 : Nat) : Int) := by
  unfold impl_Reserve.f
  rw [if_neg (by omega), if_neg (by omega), wr (show -9223372036854775808 ≤ (n : Int) - 2 by omega) (by omega), wr (show -9223372036854775808 ≤ (n : Int) - 2 + 19 by omega) (by omega), Int.tdiv_eq_ediv_of_nonneg (by omega), wr (by omega) (by omega)]
  congr 1
  omega
theorem l1_from {a b : List Int} (h : check2 a b = 0) (x7 : Int) (x8 : List Int) (x9 : List Rn) (hj : Ev (fun k => laws_FnPlan.j4 k a b x7 x8 x9 (((Iter.frees a b).length : Nat) : Int) (((a.length + 17) / 20 : Nat) : Int) false) true) (d : Nat) : ∀ i : Nat, i + d = a.length →
    Ev (fun k => laws_FnPlan.l1 k a b x7 x8 x9 (classes a b a.length) 0 (((Iter.freesTo a b i).length : Nat) : Int) (i : Int)) true := by
  obtain ⟨h8, h9, hl, ba, bb, a0, a1, b0, b1⟩ := check2_ok h
  have hc := classes_length a b a.length
  induction d with
  | zero =>
    intro i hi
    obtain rfl : i = a.length := by omega
    refine Ev.succ ?_
    simp only [laws_FnPlan.l1, hc]
    refine Ev.neg (by omega) (Ev.bind0 (reserve_ev a.length h8 h9) (Ev.pos trivial (Ev.pos trivial ?_)))
    rw [wr (by omega) (by omega), wr (by omega) (by omega), decide_eq_false (by omega)]
    exact hj
  | succ d ih =>
    intro i hi
    have hn := ih (i + 1) (by omega)
    have hlt := Iter.freesTo_length a b i
    have hr : rd (classes a b a.length) (i : Int) = cls a b i := by
      rw [rd_eq _ i (by omega)]
      simp [classes]
    refine Ev.succ ?_
    simp only [laws_FnPlan.l1, hc, hr, wr1 i (by omega)]
    refine Ev.pos (by omega) (Ev.pos (by omega) ?_)
    have ga := list_ok h8 ba a0 a1 i (rd a (i : Int)) (by rw [rd_eq a i (by omega)]; simp [show i < a.length by omega])
    have gb := list_ok (by omega) bb b0 b1 i (rd b (i : Int)) (by rw [rd_eq b i (by omega)]; simp [show i < b.length by omega])
    by_cases hf : 2 ≤ i ∧ rd a (i : Int) = 0 ∧ rd b (i : Int) = 0
    · have e : cls a b i = 4 := by unfold cls; rw [if_neg (by omega), if_neg (by omega), if_neg (by omega)]
      refine Ev.pos e ?_
      rw [Iter.freesTo_succ_yes a b i hf.1 (by simp [Iter.freeAt, hf.2.1, hf.2.2]), List.length_append] at hn
      rw [wr1 _ (by omega)]
      exact hn
    · have e : cls a b i ≠ 4 := by
        unfold cls
        split
        · omega
        · split
          · omega
          · split
            · omega
            · omega
      refine Ev.neg e ?_
      have e2 : Iter.freesTo a b (i + 1) = Iter.freesTo a b i := by
        by_cases h2 : 2 ≤ i
        · refine Iter.freesTo_succ_no a b i ?_
          unfold Iter.freeAt
          by_cases hz : rd a (i : Int) = 0
          · rw [decide_eq_true hz, decide_eq_false (by omega)]; rfl
          · rw [decide_eq_false hz]; rfl
        · simp [Iter.freesTo, List.range_succ, List.filter_append, h2]
      rw [e2] at hn
      exact hn
theorem l0_from {a b : List Int} (h9 : a.length ≤ 512) (hb : b.length ≤ 512) (hcl : classTold a b = (classes a b a.length, 0)) (x7 : Int) (x8 : List Int) (x9 : List Rn) (hj : Ev (fun k => laws_FnPlan.l1 k a b x7 x8 x9 (classes a b a.length) 0 0 0) true) (d : Nat) : ∀ i : Nat, i + d = a.length →
    Ev (fun k => laws_FnPlan.l0 k a b x7 x8 x9 a (i : Int)) true := by
  induction d with
  | zero =>
    intro i hi
    refine Ev.succ ?_
    simp only [laws_FnPlan.l0]
    refine Ev.neg (by omega) (Ev.bind (fcopy_ev _ (by omega)) (Ev.bind (fcopy_ev _ (by omega)) (Ev.bind (classImpl_ev a b) ?_)))
    rw [hcl]
    exact hj
  | succ d ih =>
    intro i hi
    refine Ev.succ ?_
    simp only [laws_FnPlan.l0, wr1 i (by omega)]
    exact Ev.pos (by omega) (Ev.pos (by omega) (Ev.pos (by omega) (Ev.pos trivial (ih (i + 1) (by omega)))))
theorem body_ev {a b : List Int} (h : check2 a b = 0) (x8 : List Int) (x9 : List Rn) (x7 : Int) (hg : impl_plan.g a [] (Iter.frees a b) = (x8, x9, x7)) : Ev (fun k => laws_FnPlan.j0 k a b x7 x8 x9 false) true := by
  obtain ⟨h8, h9, hl, ba, bb, a0, a1, b0, b1⟩ := check2_ok h
  have hr := runs_length a
  have hj4 : Ev (fun k => laws_FnPlan.j4 k a b x7 x8 x9 (((Iter.frees a b).length : Nat) : Int) (((a.length + 17) / 20 : Nat) : Int) false) true := by
    rcases g_spec (Iter.frees a b) a [] with ⟨e, hk⟩ | ⟨K, k1, k2, e, hk, hm⟩
    · rw [e] at hg
      injection hg with g1 g2
      injection g2 with g2 g3
      subst g1 g2 g3
      refine Ev.succ ?_
      simp only [laws_FnPlan.j4]
      refine Ev.neg (by simp) (Ev.pos trivial (Ev.const (decide_eq_true ?_)))
      rcases Nat.lt_or_ge (Iter.frees a b).length ((a.length + 17) / 20) with hlt | hge
      · omega
      · exfalso
        have hk2 := hk ((a.length + 17) / 20) (by omega) hge
        simp only [List.length_nil] at hk2
        obtain ⟨m1, m2, m3⟩ := marked_step a b h ((a.length + 17) / 20) hge
        obtain ⟨_, _, _, _, _, z0, z1, _, _⟩ := check2_ok m1
        have := runs_two _ (by omega) z0 z1
        omega
    · rw [e] at hg
      injection hg with g1 g2
      injection g2 with g2 g3
      subst g1 g2 g3
      refine Ev.succ ?_
      simp only [laws_FnPlan.j4]
      refine Ev.neg (by simp) (Ev.neg (by omega) (Ev.bind (fcopy_ev a (by omega)) ?_))
      simp only [List.length_nil] at hk hm
      have := l2_from h K k1 k2 hk hm K 0 (by omega)
      simpa [markAll] using this
  have hl1 := l1_from h x7 x8 x9 hj4 (a.length - 2) 2 (by omega)
  have hl1' : Ev (fun k => laws_FnPlan.l1 k a b x7 x8 x9 (classes a b a.length) 0 0 0) true := by
    have hc := classes_length a b a.length
    have s : ∀ i : Nat, i < 2 → Ev (fun k => laws_FnPlan.l1 k a b x7 x8 x9 (classes a b a.length) 0 0 ((i + 1 : Nat) : Int)) true → Ev (fun k => laws_FnPlan.l1 k a b x7 x8 x9 (classes a b a.length) 0 0 (i : Int)) true := by
      intro i hi hn
      have hr : rd (classes a b a.length) (i : Int) = cls a b i := by
        rw [rd_eq _ i (by omega)]
        simp [classes]
      refine Ev.succ ?_
      simp only [laws_FnPlan.l1, hc, hr, wr1 i (by omega)]
      refine Ev.pos (by omega) (Ev.pos (by omega) (Ev.neg ?_ hn))
      unfold cls
      rw [if_pos hi]
      omega
    rw [Iter.freesTo_two] at hl1
    exact s 0 (by omega) (s 1 (by omega) hl1)
  refine Ev.succ ?_
  simp only [laws_FnPlan.j0]
  refine Ev.neg (by simp) (Ev.bind (fcopy_ev a (by omega)) (Ev.bind (runsImpl_ev a) ?_))
  rw [runsTold_of h]
  dsimp only
  refine Ev.bind (countsImpl_ev (a.length : Int) (runs a) (by omega)) ?_
  rw [told_runs a h8 h9 ba a0 a1]
  dsimp only
  refine Ev.pos rfl (Ev.pos rfl ?_)
  have e : ((a.length : Int) != (a.length : Int)) = false := by simp
  rw [e]
  refine Ev.succ ?_
  simp only [laws_FnPlan.j1]
  refine Ev.neg (by simp) ?_
  refine l0_from h9 (by omega) ?_ x7 x8 x9 hl1' a.length 0 (by omega)
  unfold classTold
  rw [if_pos h]
theorem FnPlan : laws_FnPlan.Pure := by
  intro c hc1 hc2 hc3
  suffices hE : Ev (fun k => laws_FnPlan.f k c) true by
    obtain ⟨k0, hk⟩ := hE
    exact ⟨k0, hk k0 (Nat.le_refl _)⟩
  unfold laws_FnPlan.f
  by_cases hb : (c.length : Int) > 1048576
  · exact Ev.pos hb (Ev.const rfl)
  refine Ev.neg hb ?_
  obtain ⟨⟨a, b, q, t⟩, he, ha, hb2⟩ := two_ok c (by omega) (beginS c seed0)
  dsimp only at ha hb2
  have hd : Ev (fun k => spec_DrawPlanTable.f k c) (a, b) := by
    unfold spec_DrawPlanTable.f
    exact Ev.bind he (Ev.const rfl)
  refine Ev.bind hd (Ev.bind (spec_plan_ev a b) (Ev.bind (fcopy_ev a (by omega)) (Ev.bind (fcopy_ev b (by omega)) (Ev.bind (impl_plan_ev a b) ?_))))
  refine Ev.pos rfl ?_
  by_cases h : check2 a b = 0
  · have hp : planTold a b = impl_plan.g a [] (Iter.frees a b) := by unfold planTold; rw [if_pos h]
    rw [hp]
    have hbody := body_ev h (impl_plan.g a [] (Iter.frees a b)).1 (impl_plan.g a [] (Iter.frees a b)).2.1 (impl_plan.g a [] (Iter.frees a b)).2.2 rfl
    by_cases h0 : (impl_plan.g a [] (Iter.frees a b)).2.2 = 0
    · exact Ev.pos h0 hbody
    · refine Ev.neg h0 ?_
      have h7 : (impl_plan.g a [] (Iter.frees a b)).2.2 = 7 := by
        rcases g_spec (Iter.frees a b) a [] with ⟨e, _⟩ | ⟨K, _, _, e, _, _⟩
        · rw [e]
        · exfalso; rw [e] at h0; exact h0 rfl
      have e : ((impl_plan.g a [] (Iter.frees a b)).2.2 != 7) = false := by rw [h7]; rfl
      rw [e]
      exact hbody
  · have hp : planTold a b = ([], [], check2 a b) := by unfold planTold; rw [if_neg h]
    rw [hp]
    refine Ev.neg h ?_
    have e : (check2 a b != 7) = true := by
      have : check2 a b = 1 ∨ check2 a b = 2 ∨ check2 a b = 5 ∨ check2 a b = 0 := by
        unfold check2
        split
        · exact .inl rfl
        · split
          · exact .inr (.inl rfl)
          · split
            · exact .inr (.inr (.inl rfl))
            · exact .inr (.inr (.inr rfl))
      rcases this with e | e | e | e <;> rw [e] <;> rfl
    rw [e]
    refine Ev.succ ?_
    simp only [laws_FnPlan.j0]
    exact Ev.pos trivial (Ev.pos rfl (Ev.const rfl))

end Go.Proofs.Ytbimmmmjdimebaa.Pure
