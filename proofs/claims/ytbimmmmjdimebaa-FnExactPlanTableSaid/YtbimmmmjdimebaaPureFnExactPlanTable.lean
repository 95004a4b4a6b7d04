/- The law FnExactPlanTable: for every two lists of int64 the program's PlanTable answers what the reference answers. No condition. -/
import Derived.Test.YtbimmmmjdimebaaPFnExactPlanTablex8
import Derived.Test.YtbimmmmjdimebaaPlain
import Derived.Test.YtbimmmmjdimebaaCounts
import Derived.Test.YtbimmmmjdimebaaIter
namespace Go.Proofs.Ytbimmmmjdimebaa.Pure
open Go.RowKit Go.Proofs.Ytbimmmmjdimebaa.PFnExactPlanTable Go.Proofs.YtbimmmmjdimebaaW.PrintWords Go.Proofs.YtbimmmmjdimebaaW.PrintLast Go.Proofs.Ytbimmmmjdimebaa.Plain
set_option linter.unusedVariables false

theorem to_ev (x : List Int) (hb : x.length ≤ 1048576) : Ev (fun k => laws_toInt64S.f k x) x := copy_ev (F := laws_toInt64S.l0) (fun _ _ _ _ => rfl) _ (by decide) x hb
theorem eq_refl_ev (x : List Int) (hb : x.length ≤ 1048576) : Ev (fun k => laws_eqInt64S.f k x x) true := eq_ev (F := laws_eqInt64S.l0) (fun _ _ _ _ => rfl) x hb

theorem mk_ev (x : List Int) (m : Nat) (hm : m ≤ 1099511627776) (hb : x.length ≤ 1048576) : Ev (fun k => laws_markInt64S.f k x (m : Int)) (((m + x.length : Nat) : Int), marks id m x.length) := mark_ev (F := laws_markInt64S.l0) (c := id) (fun _ _ _ _ => rfl) m x hm hb

theorem hd_ev (m n : Nat) (hm : m ≤ 1099511627776) (hb : n ≤ 1048576) : Ev (fun k => laws_heldInt64S.f k (marks id m n) (m : Int)) ((m + n : Nat) : Int) := held_ev (F := laws_heldInt64S.l0) (c := id) (fun _ _ _ _ => rfl) m n hm hb

theorem one_ev (l : List Int) : Ev (fun k => spec_l3Check.f k l) (check1 l) := l3Check_ev (B := spec_l1BlocksOK.f) (fun _ => rfl) (F := spec_l3Check.l0) (fun _ _ _ => rfl) l

theorem two_ev (a b : List Int) : Ev (fun k => spec_l3CheckTwo.f k a b) (check2 a b) := by
  unfold spec_l3CheckTwo.f
  by_cases h : a.length = b.length
  · refine Ev.pos (by omega) (Ev.bind (one_ev a) (Ev.bind (one_ev b) ?_))
    rw [check2_of a b h]
    have j1 : ∀ t, Ev (fun k => spec_l3CheckTwo.j1 k (check1 a) (check1 b) t) (if t = true then 2 else if check1 a = 0 then check1 b else check1 a) := by
      intro t
      refine Ev.succ ?_
      simp only [spec_l3CheckTwo.j1]
      cases t
      · refine Ev.neg (by simp) ?_
        by_cases h0 : check1 a = 0
        · refine Ev.pos h0 (Ev.const ?_); simp [h0]
        · refine Ev.neg h0 (Ev.const ?_); simp [h0]
      · exact Ev.pos rfl (Ev.const (by simp))
    have j0 : ∀ t, Ev (fun k => spec_l3CheckTwo.j0 k (check1 a) (check1 b) t) (if t = true then 1 else if check1 a = 2 ∨ check1 b = 2 then 2 else if check1 a = 0 then check1 b else check1 a) := by
      intro t
      refine Ev.succ ?_
      simp only [spec_l3CheckTwo.j0]
      cases t
      · refine Ev.neg (by simp) ?_
        by_cases h2 : check1 a = 2
        · refine Ev.pos h2 ?_
          have := j1 true
          simpa [h2] using this
        · refine Ev.neg h2 ?_
          have := j1 (check1 b == 2)
          simpa [h2, beq_iff_eq] using this
      · exact Ev.pos rfl (Ev.const (by simp))
    by_cases h1 : check1 a = 1
    · refine Ev.pos h1 ?_
      have := j0 true
      simpa [h1] using this
    · refine Ev.neg h1 ?_
      have := j0 (check1 b == 1)
      simpa [h1, beq_iff_eq] using this
  · refine Ev.neg (by omega) (Ev.const ?_)
    unfold check2
    rw [if_pos (by omega)]

theorem bad_two_ev (a b : List Int) : Ev (fun k => impl_badCounts.f k [a, b]) (check2 a b) := by
  rw [← badL_two]
  exact bad_ev (F0 := impl_badCounts.l0) (F1 := impl_badCounts.l1) (F2 := impl_badCounts.l2) (F3 := impl_badCounts.l3) (fun _ _ _ _ _ => rfl) (fun _ _ _ _ _ => rfl) (fun _ _ _ _ _ _ _ _ => rfl) (fun _ _ _ _ => rfl) [a, b] (by simp)


/-! The free blocks, as the reference tells them. -/
theorem l3Free_from (a b : List Int) (h9 : a.length ≤ 512) (h : a.length = b.length) (d : Nat) : ∀ i : Nat, 2 ≤ i → i + d = a.length →
    Ev (fun k => spec_l3Free.l0 k a b (Iter.freesTo a b i) (i : Int)) (Iter.frees a b) := by
  induction d with
  | zero =>
    intro i h2 hi
    refine Ev.succ ?_
    simp only [spec_l3Free.l0]
    refine Ev.neg (by omega) (Ev.const ?_)
    obtain rfl : i = a.length := by omega
    rfl
  | succ d ih =>
    intro i h2 hi
    have hn := ih (i + 1) (by omega) (by omega)
    refine Ev.succ ?_
    simp only [spec_l3Free.l0, wr1 i (by omega)]
    refine Ev.pos (by omega) (Ev.pos (by omega) ?_)
    by_cases h0 : rd a (i : Int) = 0
    · refine Ev.pos h0 (Ev.pos (by omega) ?_)
      by_cases h1 : rd b (i : Int) = 0
      · refine Ev.pos h1 (Ev.pos (by have := Iter.freesTo_length a b i; omega) ?_)
        rw [Iter.freesTo_succ_yes a b i h2 (by simp [Iter.freeAt, h0, h1])] at hn
        exact hn
      · refine Ev.neg h1 ?_
        rw [Iter.freesTo_succ_no a b i (by simp [Iter.freeAt, h1])] at hn
        exact hn
    · refine Ev.neg h0 ?_
      rw [Iter.freesTo_succ_no a b i (by simp [Iter.freeAt, h0])] at hn
      exact hn
theorem l3Free_ev (a b : List Int) (h8 : 2 ≤ a.length) (h9 : a.length ≤ 512) (h : a.length = b.length) : Ev (fun k => spec_l3Free.f k a b) (Iter.frees a b) := by
  have := l3Free_from a b h9 h (a.length - 2) 2 (by omega) (by omega)
  rw [Iter.freesTo_two] at this
  exact this
theorem frees_length (a b : List Int) : (Iter.frees a b).length ≤ a.length := Iter.freesTo_length a b a.length

/-! The reference's plan. -/
theorem frees_mem (a b : List Int) (x : Int) (h : x ∈ Iter.frees a b) : 2 ≤ x ∧ x < (a.length : Int) := by
  unfold Iter.frees Iter.freesTo at h
  simp only [List.mem_map, List.mem_filter, List.mem_range, Bool.and_eq_true, decide_eq_true_eq] at h
  obtain ⟨i, ⟨h1, h2, _⟩, rfl⟩ := h
  omega
theorem plan_copy (a f : List Int) (h9 : a.length ≤ 512) (kk : Nat) (r : List Int × List Rn × Int) (hr : Ev (fun k => spec_l3Plan.l2 k a f (kk : Int) a 0) r) (d : Nat) : ∀ i : Nat, i + d = a.length →
    Ev (fun k => spec_l3Plan.l1 k a f (kk : Int) (a.take i) (i : Int)) r := by
  induction d with
  | zero =>
    intro i hi
    refine Ev.succ ?_
    simp only [spec_l3Plan.l1]
    rw [List.take_of_length_le (by omega)]
    exact Ev.neg (by omega) hr
  | succ d ih =>
    intro i hi
    refine Ev.succ ?_
    simp only [spec_l3Plan.l1, wr1 i (by omega)]
    refine Ev.pos (by omega) (Ev.pos (by omega) (Ev.pos (by rw [List.length_take]; omega) ?_))
    have := ih (i + 1) (by omega)
    rw [List.take_succ_eq_append_getElem (by omega), ← rd_eq a i (by omega)] at this
    exact this
theorem plan_mark (a f : List Int) (h9 : a.length ≤ 512) (hf : f.length ≤ 512) (hm : ∀ x ∈ f, 0 ≤ x ∧ x < (a.length : Int)) (kk : Nat) (hk : kk ≤ f.length) (r : List Int × List Rn × Int)
    (hr : Ev (fun k => (spec_l3Runs.f k (markAll a (f.take kk))).bind fun t164 => (if (t164.length : Int) ≤ (wrap64 (20 * (kk : Int))) then (if 0 ≤ (kk : Int) then (if (kk : Int) ≤ (f.length : Int) then (some ((f.take ((kk : Int) : Int).toNat), t164, 0)) else (none)) else (none)) else (spec_l3Plan.l0 k a f (wrap64 ((kk : Int) + 1))))) r) (d : Nat) :
    ∀ i : Nat, i + d = kk → Ev (fun k => spec_l3Plan.l2 k a f (kk : Int) (markAll a (f.take i)) (i : Int)) r := by
  induction d with
  | zero =>
    intro i hi
    refine Ev.succ ?_
    simp only [spec_l3Plan.l2]
    obtain rfl : i = kk := by omega
    exact Ev.neg (by omega) hr
  | succ d ih =>
    intro i hi
    have hx := hm (rd f (i : Int)) (by rw [rd_eq f i (by omega)]; exact List.getElem_mem _)
    refine Ev.succ ?_
    simp only [spec_l3Plan.l2, wr1 i (by omega)]
    refine Ev.pos (by omega) (Ev.pos (by omega) (Ev.pos (by omega) (Ev.pos hx.1 (Ev.pos (by rw [markAll_length]; exact hx.2) ?_))))
    have := ih (i + 1) (by omega)
    rw [List.take_succ_eq_append_getElem (by omega), ← rd_eq f i (by omega), markAll_snoc] at this
    exact this
theorem plan_from (a f : List Int) (h9 : a.length ≤ 512) (hf : f.length ≤ 512) (hm : ∀ x ∈ f, 0 ≤ x ∧ x < (a.length : Int)) (d : Nat) : ∀ j : Nat, j + d = f.length →
    Ev (fun k => spec_l3Plan.l0 k a f ((j + 1 : Nat) : Int)) (impl_plan.g (markAll a (f.take j)) (f.take j) (f.drop j)) := by
  induction d with
  | zero =>
    intro j hj
    refine Ev.succ ?_
    simp only [spec_l3Plan.l0]
    rw [List.drop_of_length_le (by omega)]
    exact Ev.neg (by omega) (Ev.const rfl)
  | succ d ih =>
    intro j hj
    refine Ev.succ ?_
    simp only [spec_l3Plan.l0]
    refine Ev.pos (by omega) ?_
    have hd : f.drop j = f[j]'(by omega) :: f.drop (j + 1) := List.drop_eq_getElem_cons (by omega)
    have ht : f.take (j + 1) = f.take j ++ [f[j]'(by omega)] := List.take_succ_eq_append_getElem (by omega)
    have hml : (markAll a (f.take (j + 1))).length ≤ 1048576 := by rw [markAll_length]; omega
    have key := plan_mark a f h9 hf hm (j + 1) (by omega) (impl_plan.g (markAll a (f.take j)) (f.take j) (f.drop j)) (by
      refine Ev.bind (spec_runs_ev _ hml) ?_
      have e20 : wrap64 (20 * ((j + 1 : Nat) : Int)) = 20 * ((j + 1 : Nat) : Int) := wr (by omega) (by omega)
      simp only [e20]
      rw [hd, impl_plan.g, ← markAll_snoc, ← ht]
      have hl : ((f.take (j + 1)).length : Int) = ((j + 1 : Nat) : Int) := by rw [List.length_take]; omega
      rw [hl]
      by_cases hc : ((runs (markAll a (f.take (j + 1)))).length : Int) ≤ 20 * ((j + 1 : Nat) : Int)
      · rw [if_pos hc]
        refine Ev.pos hc (Ev.pos (by omega) (Ev.pos (by omega) (Ev.const ?_)))
        rw [Int.toNat_natCast]
      · rw [if_neg hc]
        refine Ev.neg hc ?_
        simp only [wr1 (j + 1) (by omega)]
        exact ih (j + 1) (by omega)) (j + 1) 0 (by omega)
    exact plan_copy a f h9 (j + 1) _ key a.length 0 (by omega)
theorem l3Plan_ev (a b : List Int) (h8 : 2 ≤ a.length) (h9 : a.length ≤ 512) (h : a.length = b.length) : Ev (fun k => spec_l3Plan.f k a b) (impl_plan.g a [] (Iter.frees a b)) := by
  unfold spec_l3Plan.f
  refine Ev.bind (l3Free_ev a b h8 h9 h) ?_
  have hl := frees_length a b
  have := plan_from a (Iter.frees a b) h9 (by omega) (fun x hx => by have := frees_mem a b x hx; omega) (Iter.frees a b).length 0 (by omega)
  simpa [markAll] using this
theorem g_length (r : List Int) : ∀ m t, m.length ≤ 512 → t.length + r.length ≤ 512 → (impl_plan.g m t r).1.length ≤ 512 ∧ (impl_plan.g m t r).2.1.length ≤ 512 := by
  induction r with
  | nil => intro m t _ _; simp [impl_plan.g]
  | cons b r ih =>
    intro m t hm ht
    have hm2 : (m.set b.toNat 1).length ≤ 512 := by simpa using hm
    rw [impl_plan.g]
    split
    · refine ⟨?_, ?_⟩
      · simp only [List.length_append, List.length_cons, List.length_nil] at ht ⊢; omega
      · exact Nat.le_trans (runs_length _) hm2
    · exact ih _ _ hm2 (by simp only [List.length_append, List.length_cons, List.length_nil] at ht ⊢; omega)
/-- What both answer. -/
def planTold (a b : List Int) : List Int × List Rn × Int := if check2 a b = 0 then impl_plan.g a [] (Iter.frees a b) else ([], [], check2 a b)
theorem planTold_length (a b : List Int) : (planTold a b).1.length ≤ 512 ∧ (planTold a b).2.1.length ≤ 512 := by
  unfold planTold
  split
  · rename_i h
    obtain ⟨h8, h9, hl, _⟩ := check2_ok h
    have := frees_length a b
    exact g_length _ _ _ h9 (by simp; omega)
  · simp
theorem spec_plan_ev (a b : List Int) : Ev (fun k => spec_PlanTable.f k a b) (planTold a b) := by
  unfold spec_PlanTable.f planTold
  refine Ev.bind (two_ev a b) ?_
  by_cases h : check2 a b = 0
  · rw [if_pos h]
    obtain ⟨h8, h9, hl, _⟩ := check2_ok h
    exact Ev.pos h (Ev.bind (l3Plan_ev a b (by omega) h9 hl) (Ev.const rfl))
  · rw [if_neg h]
    exact Ev.neg h (Ev.const rfl)
theorem impl_plan_ev (a b : List Int) : Ev (fun k => impl_PlanTable.f k a b) (planTold a b) := by
  unfold impl_PlanTable.f planTold
  refine Ev.bind (bad_two_ev a b) ?_
  by_cases h : check2 a b = 0
  · simp only [if_pos h]
    obtain ⟨h8, h9, hl, _⟩ := check2_ok h
    refine Ev.bind0 (a := impl_plan.g a [] (Iter.frees a b)) ?_ (Ev.const rfl)
    unfold impl_plan.f
    rw [if_pos ⟨by omega, by omega, h9⟩]
  · simp only [if_neg h]
    exact Ev.const rfl

/-! Marks on runs. -/
def rmarks (m n : Nat) : List Rn := (List.range n).map fun i => ⟨((m + 3 * i : Nat) : Int), ((m + 3 * i + 1 : Nat) : Int), ((m + 3 * i + 2 : Nat) : Int)⟩
theorem rmarks_length (m n : Nat) : (rmarks m n).length = n := by simp [rmarks]
theorem rdR_eq (x : List Rn) (i : Nat) (h : i < x.length) : rd_T89 x (i : Int) = x[i] := by unfold rd_T89; simp [h]
theorem rmarks_get (m n i : Nat) (h : i < n) : rd_T89 (rmarks m n) (i : Int) = ⟨((m + 3 * i : Nat) : Int), ((m + 3 * i + 1 : Nat) : Int), ((m + 3 * i + 2 : Nat) : Int)⟩ := by
  rw [rdR_eq _ _ (by simpa [rmarks] using h)]; simp [rmarks]
theorem rset_get (x : List Rn) (i : Nat) (h : i < x.length) (v : Rn) : rd_T89 (x.set i v) (i : Int) = v := by
  rw [rdR_eq _ _ (by simpa using h)]; simp
theorem rset_take (x y : List Rn) (i : Nat) (hi : i < y.length) (hl : x.length = y.length) (hp : x.take i = y.take i) (v : Rn) (hv : v = rd_T89 y (i : Int)) : (x.set i v).take (i + 1) = y.take (i + 1) := by
  have hi3 : i < x.length := by omega
  rw [List.take_succ_eq_append_getElem (by simpa using hi3), List.take_succ_eq_append_getElem hi, List.take_set_of_le (Nat.le_refl _), hp, hv, rdR_eq _ _ hi]
  simp
theorem rmark_from (m n : Nat) (hm : m ≤ 1099511627776) (hn : n ≤ 1048576) (d : Nat) : ∀ (i : Nat) (x : List Rn), i + d = n → x.length = n → x.take i = (rmarks m n).take i → Ev (fun k => laws_markRunS.l0 k x ((m + 3 * i : Nat) : Int) (i : Int)) (((m + 3 * n : Nat) : Int), rmarks m n) := by
  induction d with
  | zero =>
    intro i x hi hl hp
    refine Ev.succ ?_
    simp only [laws_markRunS.l0]
    refine Ev.neg (by omega) (Ev.const ?_)
    obtain rfl : i = n := by omega
    rw [List.take_of_length_le (by omega), List.take_of_length_le (by rw [rmarks_length]; omega)] at hp
    rw [hp]
  | succ d ih =>
    intro i x hi hl hp
    refine Ev.succ ?_
    have e1 : wrap64 (((m + 3 * i : Nat) : Int) + 1) = ((m + 3 * i + 1 : Nat) : Int) := by rw [wr (by omega) (by omega)]; omega
    have e2 : wrap64 (((m + 3 * i + 1 : Nat) : Int) + 1) = ((m + 3 * i + 2 : Nat) : Int) := by rw [wr (by omega) (by omega)]; omega
    have e3 : wrap64 (((m + 3 * i + 2 : Nat) : Int) + 1) = ((m + 3 * (i + 1) : Nat) : Int) := by rw [wr (by omega) (by omega)]; omega
    simp only [laws_markRunS.l0, Int.toNat_natCast, Option.bind_some, e1, e2, e3, wr1 i (by omega)]
    refine Ev.pos (by omega) (Ev.pos (by omega) ?_)
    simp only [rset_get x i (by omega), List.set_set]
    refine ih (i + 1) _ (by omega) (by simpa using hl) ?_
    exact rset_take x (rmarks m n) i (by rw [rmarks_length]; omega) (by rw [rmarks_length]; omega) hp _ (rmarks_get m n i (by omega)).symm
theorem rmark_ev (x : List Rn) (m : Nat) (hm : m ≤ 1099511627776) (hb : x.length ≤ 1048576) : Ev (fun k => laws_markRunS.f k x (m : Int)) (((m + 3 * x.length : Nat) : Int), rmarks m x.length) :=
  rmark_from m x.length hm hb x.length 0 x (by omega) rfl (by simp)
theorem rheld_from (m n : Nat) (hm : m ≤ 1099511627776) (hn : n ≤ 1048576) (d : Nat) : ∀ (i : Nat), i + d = n → Ev (fun k => laws_heldRunS.l0 k (rmarks m n) ((m + 3 * i : Nat) : Int) (i : Int)) ((m + 3 * n : Nat) : Int) := by
  induction d with
  | zero =>
    intro i hi
    refine Ev.succ ?_
    simp only [laws_heldRunS.l0]
    refine Ev.neg (by rw [rmarks_length]; omega) (Ev.const ?_)
    congr 1; omega
  | succ d ih =>
    intro i hi
    refine Ev.succ ?_
    have e1 : wrap64 (((m + 3 * i : Nat) : Int) + 1) = ((m + 3 * i + 1 : Nat) : Int) := by rw [wr (by omega) (by omega)]; omega
    have e2 : wrap64 (((m + 3 * i + 1 : Nat) : Int) + 1) = ((m + 3 * i + 2 : Nat) : Int) := by rw [wr (by omega) (by omega)]; omega
    have e3 : wrap64 (((m + 3 * i + 2 : Nat) : Int) + 1) = ((m + 3 * (i + 1) : Nat) : Int) := by rw [wr (by omega) (by omega)]; omega
    simp only [laws_heldRunS.l0, e1, e2, e3, wr1 i (by omega), rmarks_get m n i (by omega)]
    exact Ev.pos (by rw [rmarks_length]; omega) (Ev.pos (by omega) (Ev.pos trivial (Ev.pos trivial (Ev.pos trivial (ih (i + 1) (by omega))))))
theorem rheld_ev (m n : Nat) (hm : m ≤ 1099511627776) (hb : n ≤ 1048576) : Ev (fun k => laws_heldRunS.f k (rmarks m n) (m : Int)) ((m + 3 * n : Nat) : Int) := rheld_from m n hm hb n 0 (by omega)

theorem req_from (x : List Rn) (hb : x.length ≤ 1048576) (d : Nat) : ∀ (i : Nat), i + d = x.length → Ev (fun k => laws_eqRunS.l0 k x x (i : Int)) true := by
  induction d with
  | zero =>
    intro i hi
    refine Ev.succ ?_
    simp only [laws_eqRunS.l0]
    exact Ev.neg (by omega) (Ev.const rfl)
  | succ d ih =>
    intro i hi
    refine Ev.succ ?_
    simp only [laws_eqRunS.l0, wr1 i (by omega)]
    refine Ev.pos (by omega) (Ev.pos (by omega) (Ev.pos (by omega) ?_))
    refine Ev.bind0 (a := true) (by simp [laws_eqRun.f]) (Ev.pos rfl (ih (i + 1) (by omega)))
theorem req_ev (x : List Rn) (hb : x.length ≤ 1048576) : Ev (fun k => laws_eqRunS.f k x x) true := by
  unfold laws_eqRunS.f
  exact Ev.pos rfl (req_from x hb x.length 0 (by omega))

theorem FnExactPlanTable : laws_FnExactPlanTable.Pure := by
  intro a b _ _ _ _ _ _
  refine Ev.rounds (r := true) ?_
  unfold laws_FnExactPlanTable.f
  by_cases ha : (a.length : Int) > 1048576
  · exact Ev.pos ha (Ev.const rfl)
  by_cases hb : (b.length : Int) > 1048576
  · exact Ev.neg ha (Ev.pos hb (Ev.const rfl))
  refine Ev.neg ha (Ev.neg hb ?_)
  have ta := to_ev a (by omega)
  have tb := to_ev b (by omega)
  obtain ⟨hl1, hl2⟩ := planTold_length a b
  have hs := spec_plan_ev a b
  have hi := impl_plan_ev a b
  generalize planTold a b = t at *
  obtain ⟨t0, t1, t2⟩ := t
  simp only at hl1 hl2
  have hq := eq_refl_ev t0 (by omega)
  have hr := req_ev t1 (by omega)
  refine Ev.bind ta (Ev.bind tb (Ev.bind hs (Ev.bind ta (Ev.bind tb (Ev.bind hi (Ev.bind hq (Ev.pos rfl (Ev.bind hr (Ev.pos rfl ?_)))))))))
  refine Ev.succ ?_
  simp only [laws_FnExactPlanTable.j0]
  refine Ev.neg (by simp) (Ev.bind ta (Ev.bind (eq_refl_ev a (by omega)) (Ev.pos rfl (Ev.bind tb (Ev.bind (eq_refl_ev b (by omega)) (Ev.pos rfl ?_))))))
  refine Ev.bind (mk_ev a 1 (by omega) (by omega)) (Ev.bind (mk_ev b (1 + a.length) (by omega) (by omega)) (Ev.neg (by simp only []; omega) (Ev.bind hq (Ev.pos rfl (Ev.bind hr (Ev.pos rfl ?_))))))
  refine Ev.succ ?_
  simp only [laws_FnExactPlanTable.j1]
  refine Ev.neg (by simp) (Ev.bind (mk_ev t0 1 (by omega) (by omega)) (Ev.bind (rmark_ev t1 (1 + t0.length) (by omega) (by omega)) (Ev.bind (hd_ev 1 t0.length (by omega) (by omega)) (Ev.neg (by omega) (Ev.bind (rheld_ev (1 + t0.length) t1.length (by omega) (by omega)) (Ev.neg (by omega) (Ev.pos rfl ?_)))))))
  exact Ev.bind ta (Ev.bind tb (Ev.bind hi (Ev.bind hq (Ev.pos rfl (Ev.bind hr (Ev.pos rfl (Ev.pos rfl (Ev.const rfl))))))))

end Go.Proofs.Ytbimmmmjdimebaa.Pure
