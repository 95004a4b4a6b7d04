-- This text was written by a program of this session (gprint.py, on a turned copy of the print tool).
import Derived.Test.YtbimmmmjdimebaaLaw
import Derived.Test.YtbimmmmjdimebaaPFnPlanx0
import Derived.Test.YtbimmmmjdimebaaPFnPlanx4
import Derived.Test.YtbimmmmjdimebaaPFnPlanx5
import Derived.Test.YtbimmmmjdimebaaPFnPlanx6
import Derived.Maps.OwnIn
import Derived.RangeFuncBox
import Derived.Test.YtbimmmmjdimebaaIter
import Derived.Test.YtbimmmmjdimebaaPlain
namespace Go.Proofs.Ytbimmmmjdimebaa.PFnPlan
open Go.RowKit Go.Proofs.YtbimmmmjdimebaaW.PrintWords Go.Proofs.YtbimmmmjdimebaaW.PrintLast Go.Proofs.YtbimmmmjdimebaaW.PrintMore
attribute [local go_sem] max2_int min2_int max_two min_two max_three min_three max_four min_four   -- for this text's walks alone
set_option linter.unusedVariables false
set_option linter.unusedSimpArgs false

/-! ### impl_plan: function 79 -/
-- given: loop.example/s01595/impl.plan
section GivenPlan
attribute [local go_sem] Oper.semAt_some
open Go.Proofs.Ytbimmmmjdimebaa.Plain
/-! Runs. -/
abbrev Rn := S89
def eqlen (c : Int) : List Int → Nat
  | [] => 0
  | x :: t => if x = c then eqlen c t + 1 else 0
/-- The runs of what is left, behind a value prev at block b - 1. -/
def runsF (prev : Int) (b : Nat) : List Int → List Rn
  | [] => []
  | c :: t => if c = 0 then runsF 0 (b + 1) t else if c = prev then runsF c (b + 1) t else ⟨(b : Int), ((eqlen c t + 1 : Nat) : Int), c⟩ :: runsF c (b + 1) t
def runs (l : List Int) : List Rn := runsF 0 0 l
theorem runsF_length (l : List Int) : ∀ (p : Int) (b : Nat), (runsF p b l).length ≤ l.length := by
  induction l with
  | nil => intro p b; simp [runsF]
  | cons c t ih =>
    intro p b
    unfold runsF
    split
    · have := ih 0 (b + 1); simp only [List.length_cons]; omega
    · split
      · have := ih c (b + 1); simp only [List.length_cons]; omega
      · have := ih c (b + 1); simp only [List.length_cons]; omega
theorem runs_length (l : List Int) : (runs l).length ≤ l.length := runsF_length l 0 0
theorem eqlen_le (c : Int) (l : List Int) : eqlen c l ≤ l.length := by
  induction l with
  | nil => simp [eqlen]
  | cons x t ih => unfold eqlen; split <;> simp only [List.length_cons] <;> omega
theorem dropc (l : List Int) (i : Nat) (h : i < l.length) : l.drop i = rd l (i : Int) :: l.drop (i + 1) := by rw [List.drop_eq_getElem_cons h, rd_eq l i h]

/-! The reference's runs. -/
theorem spec_inner (l : List Int) (hl : l.length ≤ 1048576) (x3 : List Rn) (h3 : x3.length ≤ 1048576) (i : Nat) (hi : i < l.length) (r : List Rn)
    (hr : ∀ n : Nat, n = eqlen (rd l (i : Int)) (l.drop i) → Ev (fun k => spec_l3Runs.l0 k l (x3 ++ [⟨(i : Int), (n : Int), rd l (i : Int)⟩]) ((i + 1 : Nat) : Int)) r) (d : Nat) :
    ∀ (j n : Nat), j + d = l.length → n + eqlen (rd l (i : Int)) (l.drop j) = eqlen (rd l (i : Int)) (l.drop i) → Ev (fun k => spec_l3Runs.l1 k l x3 (i : Int) (n : Int) (j : Int)) r := by
  induction d with
  | zero =>
    intro j n hj hn
    refine Ev.succ ?_
    simp only [spec_l3Runs.l1, wr1 i (by omega)]
    refine Ev.neg (by omega) (Ev.pos (by omega) (Ev.pos (by omega) (Ev.pos (by omega) ?_)))
    rw [List.drop_of_length_le (i := j) (by omega)] at hn
    exact hr n (by simpa [eqlen] using hn)
  | succ d ih =>
    intro j n hj hn
    have hnl : n ≤ l.length := by
      have := eqlen_le (rd l (i : Int)) (l.drop i)
      rw [List.length_drop] at this
      omega
    refine Ev.succ ?_
    simp only [spec_l3Runs.l1, wr1 i (by omega), wr1 j (by omega), wr1 n (by omega)]
    refine Ev.pos (by omega) (Ev.pos (by omega) (Ev.pos (by omega) (Ev.pos (by omega) ?_)))
    rw [dropc l j (by omega)] at hn
    by_cases h : rd l (j : Int) = rd l (i : Int)
    · refine Ev.pos h ?_
      rw [eqlen, if_pos h] at hn
      exact ih (j + 1) (n + 1) (by omega) (by omega)
    · refine Ev.neg h (Ev.pos (by omega) ?_)
      rw [eqlen, if_neg h] at hn
      exact hr n (by omega)

theorem spec_outer (l : List Int) (hl : l.length ≤ 1048576) (d : Nat) : ∀ (i : Nat) (x3 : List Rn) (p : Int), i + d = l.length → x3.length ≤ i → p = (if i = 0 then 0 else rd l ((i : Int) - 1)) →
    Ev (fun k => spec_l3Runs.l0 k l x3 (i : Int)) (x3 ++ runsF p i (l.drop i)) := by
  induction d with
  | zero =>
    intro i x3 p hi h3 hp
    refine Ev.succ ?_
    simp only [spec_l3Runs.l0]
    refine Ev.neg (by omega) (Ev.const ?_)
    rw [List.drop_of_length_le (by omega)]; simp [runsF]
  | succ d ih =>
    intro i x3 p hi h3 hp
    have hnext : ∀ y : List Rn, y.length ≤ i + 1 → Ev (fun k => spec_l3Runs.l0 k l y ((i + 1 : Nat) : Int)) (y ++ runsF (rd l (i : Int)) (i + 1) (l.drop (i + 1))) := by
      intro y hy
      refine ih (i + 1) y _ (by omega) hy ?_
      rw [if_neg (by omega)]; congr 1; omega
    rw [dropc l i (by omega)]
    have hT : Ev (fun k => spec_l3Runs.j1 k l x3 (i : Int) true) (x3 ++ runsF (rd l (i : Int)) (i + 1) (l.drop (i + 1))) := by
      refine Ev.succ ?_
      simp only [spec_l3Runs.j1, wr1 i (by omega)]
      exact Ev.pos trivial (hnext x3 (by omega))
    have hF : Ev (fun k => spec_l3Runs.j1 k l x3 (i : Int) false) (x3 ++ ⟨(i : Int), ((eqlen (rd l (i : Int)) (l.drop (i + 1)) + 1 : Nat) : Int), rd l (i : Int)⟩ :: runsF (rd l (i : Int)) (i + 1) (l.drop (i + 1))) := by
      refine Ev.succ ?_
      simp only [spec_l3Runs.j1]
      refine Ev.neg (by simp) ?_
      refine spec_inner l hl x3 (by omega) i (by omega) _ ?_ (d + 1) i 0 (by omega) (by omega)
      intro n hn
      have := hnext (x3 ++ [⟨(i : Int), (n : Int), rd l (i : Int)⟩]) (by simp; omega)
      rw [dropc l i (by omega), eqlen, if_pos rfl] at hn
      rw [hn] at this ⊢
      simpa using this
    refine Ev.succ ?_
    simp only [spec_l3Runs.l0]
    refine Ev.pos (by omega) (Ev.pos (by omega) ?_)
    by_cases h0 : rd l (i : Int) = 0
    · refine Ev.pos h0 ?_
      rw [runsF, if_pos h0]
      rw [h0] at hT
      exact hT
    · refine Ev.neg h0 ?_
      rw [runsF, if_neg h0]
      by_cases hi0 : i = 0
      · refine Ev.neg (by omega) ?_
        rw [if_neg (by rw [hp, if_pos hi0]; exact h0)]
        exact hF
      · have e : wrap64 ((i : Int) - 1) = (i : Int) - 1 := wr (by omega) (by omega)
        simp only [e]
        refine Ev.pos (by omega) (Ev.pos (by omega) (Ev.pos (by omega) ?_))
        rw [if_neg hi0] at hp
        by_cases h1 : rd l ((i : Int) - 1) = rd l (i : Int)
        · rw [if_pos (by rw [hp, h1])]
          have : (rd l ((i : Int) - 1) == rd l (i : Int)) = true := by simp [h1]
          rw [this]; exact hT
        · rw [if_neg (by rw [hp]; exact Ne.symm h1)]
          have : (rd l ((i : Int) - 1) == rd l (i : Int)) = false := by simp [h1]
          rw [this]; exact hF
theorem spec_runs_ev (l : List Int) (hl : l.length ≤ 1048576) : Ev (fun k => spec_l3Runs.f k l) (runs l) := by
  have := spec_outer l hl l.length 0 [] 0 (by omega) (by simp) (by simp)
  unfold spec_l3Runs.f
  simpa [runs] using this
/-! The program's runs. -/
/-- What the program's loop comes to from a list of runs on. -/
def closing (out : List Rn) (b : Nat) (l : List Int) : List Rn :=
  match out.getLast? with
  | some q => if q.f0 + q.f1 = (b : Int) then out.dropLast ++ ⟨q.f0, q.f1 + (eqlen q.f2 l : Int), q.f2⟩ :: runsF q.f2 b l else out ++ runsF 0 b l
  | none => out ++ runsF 0 b l
theorem rd_last (x : List Rn) (h : 0 < x.length) : x.getLast? = some (rd_T89 x ((x.length : Int) - 1)) := by
  unfold rd_T89
  have e : ((x.length : Int) - 1).toNat = x.length - 1 := by omega
  rw [e, List.getLast?_eq_getElem?]
  have : x.length - 1 < x.length := by omega
  simp [this]
theorem impl_outer (l : List Int) (hl : l.length ≤ 512) (d : Nat) : ∀ (i : Nat) (x : List Rn), i + d = l.length → x.length ≤ i → (∀ q, x.getLast? = some q → 0 ≤ q.f0 ∧ 0 ≤ q.f1 ∧ q.f0 + q.f1 ≤ i ∧ q.f2 ≠ 0) →
    Ev (fun k => impl_runsOf.l0 k x l (l.length : Int) (i : Int)) (closing x i (l.drop i)) := by
  induction d with
  | zero =>
    intro i x hi h3 hq
    refine Ev.succ ?_
    simp only [impl_runsOf.l0]
    refine Ev.neg (by omega) (Ev.const ?_)
    rw [List.drop_of_length_le (by omega)]
    unfold closing
    cases hx : x.getLast? with
    | none => simp [runsF]
    | some q =>
      have hd : x.dropLast ++ [q] = x := by
        have hne : x ≠ [] := by rintro rfl; simp at hx
        rw [List.getLast?_eq_some_getLast hne] at hx
        injection hx with hx
        rw [← hx]; exact List.dropLast_concat_getLast hne
      simp only [runsF, eqlen, List.append_nil]
      split
      · simp [hd]
      · rfl
  | succ d ih =>
    intro i x hi h3 hq
    have hdl : ∀ q, x.getLast? = some q → x.dropLast ++ [q] = x := by
      intro q hx
      have hne : x ≠ [] := by rintro rfl; simp at hx
      rw [List.getLast?_eq_some_getLast hne] at hx
      injection hx with hx
      rw [← hx]; exact List.dropLast_concat_getLast hne
    refine Ev.succ ?_
    simp only [impl_runsOf.l0, wr1 i (by omega)]
    refine Ev.pos (by omega) (Ev.pos (by omega) (Ev.pos (by omega) ?_))
    rw [dropc l i (by omega)]
    by_cases h0 : rd l (i : Int) = 0
    · refine Ev.pos h0 ?_
      have := ih (i + 1) x (by omega) (by omega) (fun q hx => by have := hq q hx; omega)
      have e : closing x i (rd l (i : Int) :: l.drop (i + 1)) = closing x (i + 1) (l.drop (i + 1)) := by
        unfold closing
        cases hx : x.getLast? with
        | none => simp [runsF, h0]
        | some q =>
          obtain ⟨_, _, hq2, hq3⟩ := hq q hx
          simp only []
          rw [if_neg (show ¬ q.f0 + q.f1 = ((i + 1 : Nat) : Int) by omega)]
          split
          · rw [eqlen, if_neg (by rw [h0]; exact Ne.symm hq3), runsF, if_pos h0]
            have := hdl q hx
            calc x.dropLast ++ (⟨q.f0, q.f1 + ((0 : Nat) : Int), q.f2⟩ :: runsF 0 (i + 1) (l.drop (i + 1))) = (x.dropLast ++ [q]) ++ runsF 0 (i + 1) (l.drop (i + 1)) := by simp
              _ = _ := by rw [this]
          · rw [runsF, if_pos h0]
      rw [e]; exact this
    · refine Ev.neg h0 ?_
      have e : wrap64 ((x.length : Int) - 1) = (x.length : Int) - 1 := wr (by omega) (by omega)
      simp only [e]
      have happ : (∀ q, x.getLast? = some q → q.f0 + q.f1 = (i : Int) → q.f2 ≠ rd l (i : Int)) → Ev (fun k => impl_runsOf.l0 k (x ++ [(⟨(i : Int), 1, rd l (i : Int)⟩ : Rn)]) l (l.length : Int) ((i + 1 : Nat) : Int)) (closing x i (rd l (i : Int) :: l.drop (i + 1))) := by
        intro hno
        have := ih (i + 1) (x ++ [(⟨(i : Int), 1, rd l (i : Int)⟩ : Rn)]) (by omega) (by simp; omega) (fun q hx => by
          simp at hx; subst hx; exact ⟨by show (0 : Int) ≤ (i : Int); omega, by show (0 : Int) ≤ 1; omega, by show (i : Int) + 1 ≤ ((i + 1 : Nat) : Int); omega, h0⟩)
        have e2 : closing (x ++ [(⟨(i : Int), 1, rd l (i : Int)⟩ : Rn)]) (i + 1) (l.drop (i + 1)) = x ++ ⟨(i : Int), ((eqlen (rd l (i : Int)) (l.drop (i + 1)) + 1 : Nat) : Int), rd l (i : Int)⟩ :: runsF (rd l (i : Int)) (i + 1) (l.drop (i + 1)) := by
          unfold closing
          simp only [List.getLast?_append, List.getLast?_singleton, Option.some_or, List.dropLast_concat]
          rw [if_pos (by omega)]
          congr 2
          congr 1
          omega
        have e3 : closing x i (rd l (i : Int) :: l.drop (i + 1)) = x ++ ⟨(i : Int), ((eqlen (rd l (i : Int)) (l.drop (i + 1)) + 1 : Nat) : Int), rd l (i : Int)⟩ :: runsF (rd l (i : Int)) (i + 1) (l.drop (i + 1)) := by
          unfold closing
          cases hx : x.getLast? with
          | none => simp only []; rw [runsF, if_neg h0, if_neg h0]
          | some q =>
            simp only []
            split
            · rename_i ho
              have hne := hno q hx ho
              rw [eqlen, if_neg (Ne.symm hne), runsF, if_neg h0, if_neg (Ne.symm hne)]
              have := hdl q hx
              generalize (⟨(i : Int), ((eqlen (rd l (i : Int)) (l.drop (i + 1)) + 1 : Nat) : Int), rd l (i : Int)⟩ :: runsF (rd l (i : Int)) (i + 1) (l.drop (i + 1)) : List Rn) = rest
              calc x.dropLast ++ (⟨q.f0, q.f1 + ((0 : Nat) : Int), q.f2⟩ :: rest) = (x.dropLast ++ [q]) ++ rest := by simp
                _ = _ := by rw [this]
            · rw [runsF, if_neg h0, if_neg h0]
        rw [e3, ← e2]; exact this
      by_cases hx0 : x.length = 0
      · refine Ev.neg (by omega) (Ev.pos (by omega) (happ ?_))
        intro q hx
        have : x = [] := List.length_eq_zero_iff.1 hx0
        rw [this] at hx; simp at hx
      · have hlast := rd_last x (by omega)
        obtain ⟨q0, q1, q2, q3⟩ := hq _ hlast
        refine Ev.pos (by omega) (Ev.pos (by omega) (Ev.pos (by omega) ?_))
        generalize hQ : rd_T89 x ((x.length : Int) - 1) = q at *
        have e4 : wrap64 (q.f0 + q.f1) = q.f0 + q.f1 := wr (by omega) (by omega)
        have e5 : wrap64 (q.f1 + 1) = q.f1 + 1 := wr (by omega) (by omega)
        simp only [e4, e5]
        by_cases ho : q.f0 + q.f1 = (i : Int)
        · refine Ev.pos ho ?_
          by_cases hc : q.f2 = rd l (i : Int)
          · refine Ev.pos hc ?_
            have hset : x.set ((x.length : Int) - 1).toNat (⟨q.f0, q.f1 + 1, q.f2⟩ : Rn) = x.dropLast ++ [⟨q.f0, q.f1 + 1, q.f2⟩] := by
              have := hdl q hlast
              have hn : ((x.length : Int) - 1).toNat = x.dropLast.length := by rw [List.length_dropLast]; omega
              rw [hn]
              conv => lhs; rw [← this]
              simp
            rw [hset]
            have := ih (i + 1) (x.dropLast ++ [⟨q.f0, q.f1 + 1, q.f2⟩]) (by omega) (by simp; omega) (fun q' hx' => by
              simp at hx'; subst hx'; exact ⟨q0, by show (0 : Int) ≤ q.f1 + 1; omega, by show q.f0 + (q.f1 + 1) ≤ ((i + 1 : Nat) : Int); omega, q3⟩)
            have e2 : closing (x.dropLast ++ [⟨q.f0, q.f1 + 1, q.f2⟩]) (i + 1) (l.drop (i + 1)) = closing x i (rd l (i : Int) :: l.drop (i + 1)) := by
              unfold closing
              rw [hlast]
              simp only [List.getLast?_append, List.getLast?_singleton, Option.some_or, List.dropLast_concat]
              rw [if_pos (by omega), if_pos ho]
              rw [eqlen, if_pos hc.symm, runsF, if_neg h0, if_pos hc.symm]
              congr 2
              · congr 1
                omega
              · rw [hc]
            rw [← e2]; exact this
          · exact Ev.neg hc (Ev.pos (by omega) (happ (fun q' hx' _ => by rw [hlast] at hx'; injection hx' with hx'; rw [← hx']; exact hc)))
        · exact Ev.neg ho (Ev.pos (by omega) (happ (fun q' hx' ho' => by rw [hlast] at hx'; injection hx' with hx'; rw [← hx'] at ho'; exact absurd ho' ho)))
theorem impl_runs_ev (l : List Int) (hl : l.length ≤ 512) : Ev (fun k => impl_runsOf.f k l) (runs l) := by
  have := impl_outer l hl l.length 0 [] (by omega) (by simp) (by simp)
  unfold impl_runsOf.f
  simpa [runs, closing] using this
/-- The plan over what is left of the free blocks: the marked counts, the blocks that are taken. -/
def impl_plan.g : List Int → List Int → List Int → List Int × List (S89) × Int
  | _, _, [] => ([], [], 7)
  | m, t, b :: rest => if ((runs (m.set b.toNat 1)).length : Int) ≤ 20 * ((t ++ [b]).length : Int) then (t ++ [b], runs (m.set b.toNat 1), 0) else impl_plan.g (m.set b.toNat 1) (t ++ [b]) rest
def impl_plan.f (l0 : List Int) (l1 : List Int) : Option (List Int × List (S89) × Int) := if 0 < l0.length ∧ l0.length ≤ l1.length ∧ l0.length ≤ 512 then some (impl_plan.g l0 [] (Iter.frees l0 l1)) else none
def markAll (l : List Int) (bs : List Int) : List Int := bs.foldl (fun m b => m.set b.toNat 1) l
theorem markAll_length (bs : List Int) : ∀ l, (markAll l bs).length = l.length := by
  induction bs with
  | nil => intro l; rfl
  | cons b bs ih => intro l; unfold markAll; rw [List.foldl_cons]; have := ih (l.set b.toNat 1); unfold markAll at this; rw [this, List.length_set]
theorem markAll_snoc (l bs : List Int) (b : Int) : markAll l (bs ++ [b]) = (markAll l bs).set b.toNat 1 := by simp [markAll]
/-- Between two rounds: the boxes, the marked counts, what is taken; no plan has been found. -/
def PlanI (n₀ s g cap : Nat) (l0 : List Int) (pre : List (Iter.Ix l0)) (W : World) : Prop :=
  (Boxed W n₀ 24 (.slice none 0 0) ∧ Boxed W (n₀ + 1) 27 (.slice none 0 0) ∧ Boxed W (n₀ + 1 + 1) 2 (.int .i64 0)) ∧
  (Boxed W s 24 (.slice (some ⟨g, 0, none⟩) l0.length cap) ∧ (Kd.int .i64).R 2 W n₀ (fun k => n₀ + 3 ≤ k ∧ k < s) (.slice (some ⟨g, 0, none⟩) l0.length cap) (markAll l0 (Iter.vals pre))) ∧
  (s + 4 ≤ W.heap.size ∧ ∃ vt, Boxed W (s + 1) 24 vt ∧ (Kd.int .i64).R 2 W n₀ (fun k => s + 4 ≤ k) vt (Iter.vals pre)) ∧
  ∀ rest, impl_plan.g l0 [] (Iter.vals pre ++ rest) = impl_plan.g (markAll l0 (Iter.vals pre)) (Iter.vals pre) rest
/-- A round has found the plan: it lies in the results' boxes. -/
def PlanX (n₀ : Nat) (l0 : List Int) (pre : List (Iter.Ix l0)) (W : World) : Prop :=
  ∃ v0 v1 rs, Boxed W n₀ 24 v0 ∧ Boxed W (n₀ + 1) 27 v1 ∧ Boxed W (n₀ + 1 + 1) 2 (.int .i64 0) ∧ (Kd.int .i64).R 2 W n₀ (fun _ => True) v0 (Iter.vals pre) ∧ k89.R 89 W n₀ (fun _ => True) v1 rs ∧
  ∀ rest, impl_plan.g l0 [] (Iter.vals pre ++ rest) = (Iter.vals pre, rs, 0)
theorem boxed_turn {A B : World} {row : Option Nat} {b t : Nat} {v : Value} (h : Boxed A b t v) (hg : A.grownBy B row) (hr : ∀ r, row = some r → ∃ o : Obj, A.heap[r]? = some o ∧ o.isCells = false) : Boxed B b t v := by
  refine h.kept hg ?_
  intro e
  obtain ⟨o, ho, hc⟩ := hr b e.symm
  have := show A.heap[b]? = _ from h
  rw [this] at ho
  cases ho
  simp [Obj.isCells] at hc
theorem R_turn {α : Type} {d : Kd α} {e base : Nat} {ok : Nat → Prop} {A B : World} {row : Option Nat} {v : Value} {xs : List α} (h : d.R e A base ok v xs) (hg : A.grownBy B row) (hr : ∀ r, row = some r → ∃ o : Obj, A.heap[r]? = some o ∧ o.isCells = false) : d.R e B base ok v xs := by
  refine Kd.R_mono (ok := fun k => ok k ∧ base ≤ k ∧ k < A.heap.size ∧ ∃ q, q ∈ e :: d.E ∧ ∃ cells, A.heap[k]? = some (.cells cells q (0, 0))) (Kd.R_grown (Kd.R_bound h) hg ?_) (fun _ hk => hk.1)
  rintro k ⟨_, _, _, q, _, cells, hc⟩ e
  obtain ⟨o, ho, hcc⟩ := hr k e.symm
  rw [hc] at ho
  cases ho
  simp [Obj.isCells] at hcc
theorem planI_own (n₀ s g cap : Nat) (l0 : List Int) : Own (PlanI n₀ s g cap l0) := by
  rintro pre A B row ⟨⟨h0, h1, h2⟩, ⟨h3, h4⟩, ⟨h8, vt, h5, h6⟩, h7⟩ hg hr
  exact ⟨⟨boxed_turn h0 hg hr, boxed_turn h1 hg hr, boxed_turn h2 hg hr⟩, ⟨boxed_turn h3 hg hr, R_turn h4 hg hr⟩, ⟨Nat.le_trans h8 hg.size, vt, boxed_turn h5 hg hr, R_turn h6 hg hr⟩, h7⟩
theorem planX_own (n₀ : Nat) (l0 : List Int) : Own (PlanX n₀ l0) := by
  rintro pre A B row ⟨v0, v1, rs, h0, h1, h2, h3, h4, h5⟩ hg hr
  exact ⟨v0, v1, rs, boxed_turn h0 hg hr, boxed_turn h1 hg hr, boxed_turn h2 hg hr, R_turn h3 hg hr, R_turn h4 hg hr, h5⟩
theorem infoI : (Try.prog.info? 2).map (fun i => (i.zero, i.size, i.bytes)) = some (some (.int .i64 0), 1, 8) := by kernel_rfl
/-- The program's runs, of whatever list of counts. -/
theorem runs_call (A : Option Addr) (n c : Nat) (l : List Int) (hn : l.length = n) (hl : l.length ≤ 512) (w : World) (hr : Kd.C (Kd.int .i64) w A l.length l) (hc : l.length ≤ c) :
    Calls Try.prog 67 #[.slice A n c] w fun e w' => ∃ v0_ : Value, e = .returned (v0_) ∧ Kd.R k89 89 w' w.heap.size (fun _ => True) v0_ (runs l) ∧ Below w.heap.size w w' := by
  subst hn
  obtain ⟨k, hk⟩ := Ev.rounds (impl_runs_ev l hl)
  exact impl_runsOf.calls k A c l (runs l) w hr hc hk
theorem frozen_of {w : World} {g : Nat} {cells : Array Value} {e j : Nat} (h : w.heap[g]? = some (.cells cells e (0, 0))) : w.frozen? ⟨g, j, none⟩ = false := by
  unfold World.frozen?; simp only [h]; simp
set_option maxHeartbeats 8000000 in
set_option maxRecDepth 100000 in
theorem impl_plan.calls (A0 : Option Addr) (c0 : Nat) (l0 : List Int) (A1 : Option Addr) (c1 : Nat) (l1 : List Int) (r1 : List Int) (r2 : List (S89)) (r3 : Int) (w : World) (hr0 : Kd.C (Kd.int .i64) w A0 l0.length l0) (hc0 : l0.length ≤ c0) (hr1 : Kd.C (Kd.int .i64) w A1 l1.length l1) (hc1 : l1.length ≤ c1) (h : impl_plan.f l0 l1 = some (r1, r2, r3)) :
    Calls Try.prog 79 #[.slice A0 l0.length c0, .slice A1 l1.length c1] w fun e w' => ∃ v0_ v1_ : Value, e = .returned (.tuple #[v0_, v1_, .int .i64 r3]) ∧ Kd.R (Kd.int .i64) 2 w' w.heap.size (fun _ => True) v0_ r1 ∧ Kd.R k89 89 w' w.heap.size (fun _ => True) v1_ r2 ∧ Below w.heap.size w w' := by
  refine callsIn_wide (n := 3) |>.1 ?_
  obtain ⟨hpos, hlen, hsm⟩ : 0 < l0.length ∧ l0.length ≤ l1.length ∧ l0.length ≤ 512 := by
    unfold impl_plan.f at h
    by_cases hh : 0 < l0.length ∧ l0.length ≤ l1.length ∧ l0.length ≤ 512
    · exact hh
    · rw [if_neg hh] at h; simp at h
  have hG : impl_plan.g l0 [] (Iter.frees l0 l1) = (r1, r2, r3) := by
    unfold impl_plan.f at h
    rw [if_pos ⟨hpos, hlen, hsm⟩] at h
    exact Option.some.inj h
  have HG := Lib.hid hG
  clear h hG
  obtain ⟨i0, hi, hz0, hz1, hz2⟩ := info_parts infoI
  refine callsIn_of_wp_marks Try.func79 rfl trivial ?_ rfl
  simp only [Try.ntmps79, List.size_toArray, List.length_cons, List.length_nil, Nat.reduceAdd, Nat.reduceSub, Array.replicate_succ, Array.replicate_zero, List.push_toArray, List.append_toArray, List.nil_append, List.cons_append]
  have b4 := Boxed.new w 24 (.slice none 0 0)
  have b5 := Boxed.new (w.alloc (.cells #[.slice none 0 0] 24)) 27 (.slice none 0 0)
  have b6 := Boxed.new ((w.alloc (.cells #[.slice none 0 0] 24)).alloc (.cells #[.slice none 0 0] 27)) 2 (.int .i64 0)
  simp only [World.size_alloc] at b5 b6
  have b4' := (b4.alloc (.cells #[.slice none 0 0] 27)).alloc (.cells #[.int .i64 0] 2)
  have b5' := b5.alloc (.cells #[.int .i64 0] 2)
  have hb3 : Below w.heap.size w (((w.alloc (.cells #[.slice none 0 0] 24)).alloc (.cells #[.slice none 0 0] 27)).alloc (.cells #[.int .i64 0] 2)) := (((Below.refl _ w).alloc (Nat.le_refl _) _).alloc (by simp) _).alloc (by simp; omega) _
  have hs3 : (((w.alloc (.cells #[.slice none 0 0] 24)).alloc (.cells #[.slice none 0 0] 27)).alloc (.cells #[.int .i64 0] 2)).heap.size = w.heap.size + 3 := by simp
  clear b4 b5
  obtain ⟨ad, hA, hcell⟩ := (Kd.reads_of_C (d := (0 : Int)) hr0).2.2 hpos
  subst hA
  have hsrc : ∀ W : World, Below w.heap.size w W → ∀ (j : Nat) (u : Value), (encs (Value.int .i64) l0)[j]? = some u → W.cell? (ad.add j) = some u := by
    intro W hW j u hu
    have hj : j < l0.length := by
      have := (List.getElem?_eq_some_iff.1 hu).1
      rwa [encs_length] at this
    have := hcell j hj
    have e : Value.int .i64 (l0.getD j 0) = u := by simpa [encs, hj] using hu
    rw [← e]
    exact pw_cell_below hW this
  gi_wp2_with (gi_at_builtin; (refine wpListIn_append_own_at _ rfl (.const (.slice none 0 0)) (.tmp 11) 24 rfl w.heap.size 2 i0 (.int .i64 0) 1 8 Try.underlying24 hi hz0 hz1 hz2 rfl (by decide) (.slice none 0 0) 0 [] rfl (World.ownsRow_nil _ _ _ _) ad l0.length c0 (encs (Value.int .i64) l0) rfl (by rw [encs_length, Nat.mul_one]) (hsrc _ hb3) (by intro u hu; simp only [encs, List.mem_map] at hu; obtain ⟨x, _, rfl⟩ := hu; rfl) (by unfold maxLen; omega) (by omega) (by simp; omega) ?_); intro v1 w1 hown hgrow hnil hat; obtain ⟨g, cap, hv, hg1, hg2⟩ := Iter.own_form hown (by simp [encs_length]; omega); clear hnil; subst hv)
  refine ⟨trivial, ?_⟩
  have hB1 : Below w.heap.size w w1 := hb3.trans ((Iter.grown_none hgrow).mono (by simp; omega))
  have hg3 : w.heap.size + 3 ≤ g := by
    rcases hat with hat | hat
    · simp [Value.ownBlock] at hat
    · simp [Value.ownBlock] at hat; omega
  have x4 := b4'.kept hgrow (by simp [Value.ownBlock])
  have x5 := b5'.kept hgrow (by simp [Value.ownBlock])
  have x6 := b6.kept hgrow (by simp [Value.ownBlock])
  have hRm : (Kd.int .i64).R 2 w1 w.heap.size (fun k => w.heap.size + 3 ≤ k ∧ k < w1.heap.size) (.slice (some ⟨g, 0, none⟩) l0.length cap) l0 :=
    Kd.R_of_own (by simpa using hown) (fun k hk => by simp [Value.ownBlock] at hk; omega)
  rw [Nat.zero_add] at *
  clear hown hgrow hat b4' b5' b6 hsrc hcell
  have y7 := Boxed.new w1 24 (.slice (some ⟨g, 0, none⟩) l0.length cap)
  have y8 := Boxed.new (w1.alloc (.cells #[.slice (some ⟨g, 0, none⟩) l0.length cap] 24)) 24 (.slice none 0 0)
  rw [World.size_alloc] at y8
  have hB7 : Below w1.heap.size w1 ((w1.alloc (.cells #[.slice (some ⟨g, 0, none⟩) l0.length cap] 24)).alloc (.cells #[.slice none 0 0] 24)) := ((Below.refl _ w1).alloc (Nat.le_refl _) _).alloc (by simp) _
  have hs7 : ((w1.alloc (.cells #[.slice (some ⟨g, 0, none⟩) l0.length cap] 24)).alloc (.cells #[.slice none 0 0] 24)).heap.size = w1.heap.size + 2 := by simp
  refine (Iter.free_in Fence.wide 2 trivial rfl (.bool true) (.bool true) _ _ _ _ _ _ _).mono ?_
  rintro e w' ⟨rfl, rfl⟩
  gi_wp2_with fail
  have b9 := (Iter.cell_new_l ((w1.alloc (.cells #[.slice (some ⟨g, 0, none⟩) l0.length cap] 24)).alloc (.cells #[.slice none 0 0] 24)) (.slice (some ad) l0.length c0) 24).1
  have b10 := (Iter.cell_new_l (((w1.alloc (.cells #[.slice (some ⟨g, 0, none⟩) l0.length cap] 24)).alloc (.cells #[.slice none 0 0] 24)).alloc (.cells #[.slice (some ad) l0.length c0] 24)) (.slice A1 l1.length c1) 24).1
  simp only [World.size_alloc] at b9 b10
  have z4 := (((x4.alloc (.cells #[.slice (some ⟨g, 0, none⟩) l0.length cap] 24)).alloc (.cells #[.slice none 0 0] 24)).alloc (.cells #[.slice (some ad) l0.length c0] 24)).alloc (.cells #[.slice A1 l1.length c1] 24)
  have z5 := (((x5.alloc (.cells #[.slice (some ⟨g, 0, none⟩) l0.length cap] 24)).alloc (.cells #[.slice none 0 0] 24)).alloc (.cells #[.slice (some ad) l0.length c0] 24)).alloc (.cells #[.slice A1 l1.length c1] 24)
  have z6 := (((x6.alloc (.cells #[.slice (some ⟨g, 0, none⟩) l0.length cap] 24)).alloc (.cells #[.slice none 0 0] 24)).alloc (.cells #[.slice (some ad) l0.length c0] 24)).alloc (.cells #[.slice A1 l1.length c1] 24)
  have z7 := ((y7.alloc (.cells #[.slice none 0 0] 24)).alloc (.cells #[.slice (some ad) l0.length c0] 24)).alloc (.cells #[.slice A1 l1.length c1] 24)
  have z8 := (y8.alloc (.cells #[.slice (some ad) l0.length c0] 24)).alloc (.cells #[.slice A1 l1.length c1] 24)
  have hB9 : Below w1.heap.size w1 ((((w1.alloc (.cells #[.slice (some ⟨g, 0, none⟩) l0.length cap] 24)).alloc (.cells #[.slice none 0 0] 24)).alloc (.cells #[.slice (some ad) l0.length c0] 24)).alloc (.cells #[.slice A1 l1.length c1] 24)) := ((((Below.refl _ w1).alloc (Nat.le_refl _) _).alloc (by simp) _).alloc (by simp; omega) _).alloc (by simp; omega) _
  have hs9 : ((((w1.alloc (.cells #[.slice (some ⟨g, 0, none⟩) l0.length cap] 24)).alloc (.cells #[.slice none 0 0] 24)).alloc (.cells #[.slice (some ad) l0.length c0] 24)).alloc (.cells #[.slice A1 l1.length c1] 24)).heap.size = w1.heap.size + 4 := by simp
  have hm9 := Kd.R_below hRm hB9
  have q9 := Iter.cell_alloc_l (.cells #[.slice A1 l1.length c1] 24) b9
  have hw1 : w.heap.size + 3 < w1.heap.size := by omega
  clear x4 x5 x6 y7 y8 hB7 hs7 b9 hRm
  generalize ((((w1.alloc (.cells #[.slice (some ⟨g, 0, none⟩) l0.length cap] 24)).alloc (.cells #[.slice none 0 0] 24)).alloc (.cells #[.slice (some ad) l0.length c0] 24)).alloc (.cells #[.slice A1 l1.length c1] 24)) = W9 at *
  have hBw := hB1.trans (hB9.mono (by omega))
  have hs9' : w1.heap.size + 4 ≤ W9.heap.size := by omega
  clear hs9
  have hk : ∀ N : Nat, W9.heap.size ≤ N → w.heap.size ≤ N ∧ w1.heap.size + 1 + 1 < N ∧ w1.heap.size + 1 + 1 + 1 < N := by omega
  clear hb3 hs3
  refine wpIn_rangeFunc_ownF rfl (by omega) (gf := 108) (lb := #[.pointer (some ⟨w1.heap.size + 1 + 1, 0, none⟩), .pointer (some ⟨w1.heap.size + 1 + 1 + 1, 0, none⟩)]) rfl trivial (enters_of Try.func108 (by kernel_rfl) rfl)
    (Iter.free_stops Fence.wide _ trivial rfl (by omega) (w1.heap.size + 1 + 1) (w1.heap.size + 1 + 1 + 1) w.heap.size (some ad) A1 c0 c1 l0 l1 hlen (by omega) _ (Iter.C_blocks hr0) (Iter.C_blocks hr1) q9 b10 (Kd.C_below hr0 hBw) (Kd.C_below hr1 hBw))
    Iter.keep_t (Iter.keep_b (hk _ (Nat.le_refl _)).1 (hk _ (Nat.le_refl _)).2.1 (hk _ (Nat.le_refl _)).2.2) (Below.refl _ _) (fun _ => rfl)
    (fun pre W => PlanI w.heap.size w1.heap.size g cap l0 pre W ∧ Below w.heap.size w W)
    (fun c pre W => (c = .ret ∧ PlanX w.heap.size l0 pre W) ∧ Below w.heap.size w W)
    (OwnFrom.and ((planI_own _ _ _ _ _).from _) (ownFrom_below (Nat.le_refl _) (by omega)))
    (fun c => OwnFrom.and (Own.from (fun s A B row hs hg hr => ⟨hs.1, planX_own _ _ s A B row hs.2 hg hr⟩) _) (ownFrom_below (Nat.le_refl _) (by omega)))
    ⟨⟨⟨z4, z5, z6⟩, ⟨z7, hm9⟩, ⟨hs9', _, z8, Kd.R_nil _ _ _ _ _⟩, fun _ => rfl⟩, hBw⟩
    (fun x => { tmps := #[.slice (some ad) l0.length c0, .slice A1 l1.length c1, undef, undef, .pointer (some ⟨w.heap.size, 0, none⟩), .pointer (some ⟨w.heap.size + 1, 0, none⟩), .pointer (some ⟨w.heap.size + 1 + 1, 0, none⟩), .pointer (some ⟨w1.heap.size, 0, none⟩), .pointer (some ⟨w1.heap.size + 1, 0, none⟩), .int .i64 x.1, undef, .slice (some ad) l0.length c0, .slice (some ⟨g, 0, none⟩) l0.length cap, .slice (some ad) l0.length c0, .slice A1 l1.length c1, .func (.func 108) #[] #[.pointer (some ⟨w1.heap.size + 1 + 1, 0, none⟩), .pointer (some ⟨w1.heap.size + 1 + 1 + 1, 0, none⟩)], .int .i64 x.1, undef, undef, undef, undef, undef, undef, undef, undef, undef, undef, undef, undef, undef, undef, undef, undef, undef], defers := [] }) ?assign ?body ?done ?stop
  case assign =>
    intro l x W K hK
    gi_wp2
    exact hK
  case body =>
    rintro l pre ⟨x, hx0, hx1⟩ W ⟨⟨⟨y4, y5, y6⟩, ⟨y7, hm⟩, ⟨hWs, vt, y8, ht⟩, hrest⟩, hB⟩ hpl
    clear z4 z5 z6 z7 z8 hm9 q9 b10 hk HG hBw hs9' hB9 hr1 hc1 hlen hr0 hc0
    obtain ⟨hln, hcap, hC⟩ := Kd.R_reads' hm
    obtain ⟨ag, hag, hcx⟩ := Kd.at_int hC x hx0 (by rw [markAll_length]; exact hx1)
    cases hag
    have eg : (⟨g, 0, none⟩ : Addr).add x.toNat = ⟨g, x.toNat, none⟩ := by unfold Addr.add; split <;> simp_all
    rw [eg] at hcx
    obtain ⟨gcells, hgc⟩ := Kd.R_typed hm g (by simp [Value.ownBlock])
    have hfx : W.frozen? ⟨g, x.toNat, none⟩ = false := frozen_of hgc
    have HP := Kd.R_putg hm x 1
    obtain ⟨m2, hm2⟩ : ∃ m2, m2 = (markAll l0 (Iter.vals pre)).set x.toNat 1 := ⟨_, rfl⟩
    rw [← hm2] at HP
    have hm2l : m2.length ≤ 512 := by rw [hm2, List.length_set, markAll_length]; exact hsm
    have hm2e := Lib.hid (show m2.length = l0.length by rw [hm2, List.length_set, markAll_length])
    have hm2h := Lib.hid hm2
    clear hm2 hC hln
    have hvt : ∀ k, vt.ownBlock = some k → w1.heap.size + 4 ≤ k := ht.1
    have a8 := y8.kept HP.2 (by simp; omega)
    have a7 := y7.kept HP.2 (by simp; omega)
    have a4 := y4.kept HP.2 (by simp; omega)
    have a5 := y5.kept HP.2 (by simp; omega)
    have a6 := y6.kept HP.2 (by simp; omega)
    have ht1 := Kd.R_grown ht HP.2 (fun k hk e => by injection e with e; omega)
    have ht2 := Kd.R_below ht1 ((Below.refl _ (W.setCell ⟨g, x.toNat, none⟩ (.int .i64 1))).alloc (Nat.le_refl _) (.cells #[.int .i64 x] 2))
    have hown2 := Kd.own_of_R ht2
    rw [Iter.vals_length] at hown2
    have e8 := a8.cell
    have f8 := a8.frozen
    have e7 := y7.cell
    have hw8 : w.heap.size ≤ ((W.setCell ⟨g, x.toNat, none⟩ (.int .i64 1)).alloc (.cells #[.int .i64 x] 2)).heap.size := by have := hB.size; simp; omega
    gi_wp2_with (gi_at_builtin; refine wpListIn_append_own_at _ rfl (.tmp 20) (.tmp 22) 24 rfl w.heap.size 2 i0 (.int .i64 0) 1 8 Try.underlying24 hi hz0 hz1 hz2 rfl (by decide) vt pre.length (encs (Value.int .i64) (Iter.vals pre)) rfl hown2 ⟨W.heap.size, 0, none⟩ 1 1 [.int .i64 x] rfl rfl (fun j u hu => Iter.cell_at _ _ _ (by simp) j u (by simpa using hu)) (by intro u hu; simp at hu; subst hu; rfl) (by unfold maxLen; omega) (by omega) hw8 ?_; intro v3 w3 hown3 hgr3 hnil3 hat3; clear hnil3; obtain ⟨g', cap', hv', _, hg4⟩ := Iter.own_form hown3 (by simp); subst hv'; have c8 := (a8.alloc (.cells #[.int .i64 x] 2)).kept hgr3 (fun e => by have := hvt _ e.symm; omega); have c7 := (a7.alloc (.cells #[.int .i64 x] 2)).kept hgr3 (fun e => by have := hvt _ e.symm; omega); have k8 := c8.cell; have q8 := c8.frozen; have d7 : Boxed (w3.setCell ⟨w1.heap.size + 1, 0, none⟩ (.slice (some ⟨g', 0, none⟩) (pre.length + 1) cap')) w1.heap.size 24 (.slice (some ⟨g, 0, none⟩) l0.length cap) := (Below.heap_setCell w3 ⟨w1.heap.size + 1, 0, none⟩ _ w1.heap.size (by simp)).trans c7; have k7 := d7.cell)
    refine ⟨trivial, ?_⟩
    have hn3 : ∀ k, (Value.slice (some ⟨g', 0, none⟩) (pre.length + 1) cap').ownBlock = some k → w1.heap.size + 4 ≤ k := by
      intro k hk
      rcases hat3 with h | h
      · exact hvt k (by rw [← h]; exact hk)
      · rw [hk] at h
        injection h with h
        simp at h
        omega
    have hRt : (Kd.int .i64).R 2 w3 w.heap.size (fun k => w1.heap.size + 4 ≤ k) (.slice (some ⟨g', 0, none⟩) (pre.length + 1) cap') (Iter.vals pre ++ [x]) :=
      Kd.R_of_own (by have := hown3; simpa [encs, Iter.vals_length] using this) hn3
    have hRm3 := Kd.R_grown (Kd.R_below HP.1 ((Below.refl _ (W.setCell ⟨g, x.toNat, none⟩ (.int .i64 1))).alloc (Nat.le_refl _) (.cells #[.int .i64 x] 2))) hgr3 (fun k hk e => by have := hvt k e.symm; omega)
    have hRm4 := Kd.R_far hRm3 (p := ⟨w1.heap.size + 1, 0, none⟩) (fun k hk => by simp only []; omega) (.slice (some ⟨g', 0, none⟩) (pre.length + 1) cap')
    have hRt4 := Kd.R_far hRt (p := ⟨w1.heap.size + 1, 0, none⟩) (fun k hk => by simp only []; omega) (.slice (some ⟨g', 0, none⟩) (pre.length + 1) cap')
    have c4 := (a4.alloc (.cells #[.int .i64 x] 2)).kept hgr3 (fun e => by have := hvt _ e.symm; omega)
    have c5 := (a5.alloc (.cells #[.int .i64 x] 2)).kept hgr3 (fun e => by have := hvt _ e.symm; omega)
    have c6 := (a6.alloc (.cells #[.int .i64 x] 2)).kept hgr3 (fun e => by have := hvt _ e.symm; omega)
    have d8 := c8.set (.slice (some ⟨g', 0, none⟩) (pre.length + 1) cap')
    have d4 : Boxed (w3.setCell ⟨w1.heap.size + 1, 0, none⟩ (.slice (some ⟨g', 0, none⟩) (pre.length + 1) cap')) w.heap.size 24 (.slice none 0 0) := (Below.heap_setCell w3 ⟨w1.heap.size + 1, 0, none⟩ _ _ (by simp only []; omega)).trans c4
    have d5 : Boxed (w3.setCell ⟨w1.heap.size + 1, 0, none⟩ (.slice (some ⟨g', 0, none⟩) (pre.length + 1) cap')) (w.heap.size + 1) 27 (.slice none 0 0) := (Below.heap_setCell w3 ⟨w1.heap.size + 1, 0, none⟩ _ _ (by simp only []; omega)).trans c5
    have d6 : Boxed (w3.setCell ⟨w1.heap.size + 1, 0, none⟩ (.slice (some ⟨g', 0, none⟩) (pre.length + 1) cap')) (w.heap.size + 1 + 1) 2 (.int .i64 0) := (Below.heap_setCell w3 ⟨w1.heap.size + 1, 0, none⟩ _ _ (by simp only []; omega)).trans c6
    have hS : Iter.Same (fun k => k = g ∨ vt.ownBlock = some k ∨ k = w1.heap.size + 1) W (w3.setCell ⟨w1.heap.size + 1, 0, none⟩ (.slice (some ⟨g', 0, none⟩) (pre.length + 1) cap')) :=
      ((((Iter.Same.refl _ W).set ⟨g, x.toNat, none⟩ (.int .i64 1) (.inl rfl)).alloc _).grown hgr3 (fun k e => .inr (.inl e))).set _ _ (.inr (.inr rfl))
    have hB4 : Below w.heap.size w (w3.setCell ⟨w1.heap.size + 1, 0, none⟩ (.slice (some ⟨g', 0, none⟩) (pre.length + 1) cap')) :=
      (((hB.setCell (p := ⟨g, x.toNat, none⟩) hg1 _).alloc (by have := hB.size; simpa using this) _).grown hgr3 hw8 (fun k hk => by have := hvt k hk; omega)).setCell (p := ⟨w1.heap.size + 1, 0, none⟩) (by simp only []; omega) _
    clear k8 q8 k7 c4 c5 c6 c7 c8 a4 a5 a6 a7 a8 e8 f8 hown2 hown3 ht1 ht2 hgr3 hat3 hRm3 hRt HP hw8
    generalize (w3.setCell ⟨w1.heap.size + 1, 0, none⟩ (.slice (some ⟨g', 0, none⟩) (pre.length + 1) cap')) = W4 at *
    have hR4 := (Kd.R_reads' hRm4).2.2
    refine (CallsIn.inRound l (callsIn_wide.2 (runs_call (some ⟨g, 0, none⟩) l0.length cap m2 hm2e.out hm2l W4 hR4 (by rw [hm2e.out]; exact hcap)))).mono ?_
    rintro e w5 ⟨v5, rfl, hR5, hB5⟩
    obtain ⟨A5, c5, hv5⟩ := Kd.R_slice hR5
    subst hv5
    have hrl : (runs m2).length ≤ 512 := Nat.le_trans (runs_length m2) hm2l
    have p8 : Boxed w5 (w1.heap.size + 1) 24 (.slice (some ⟨g', 0, none⟩) (pre.length + 1) cap') := (hB5.block _ d8.lt).trans d8
    have p7 : Boxed w5 w1.heap.size 24 (.slice (some ⟨g, 0, none⟩) l0.length cap) := (hB5.block _ d7.lt).trans d7
    have p4 : Boxed w5 w.heap.size 24 (.slice none 0 0) := (hB5.block _ d4.lt).trans d4
    have p5 : Boxed w5 (w.heap.size + 1) 27 (.slice none 0 0) := (hB5.block _ d5.lt).trans d5
    have p6 : Boxed w5 (w.heap.size + 1 + 1) 2 (.int .i64 0) := (hB5.block _ d6.lt).trans d6
    have hS5 := hS.below hB5
    have hRm5 := Kd.R_below hRm4 hB5
    have hRt5 := Kd.R_below hRt4 hB5
    have hsz5 : W4.heap.size ≤ w5.heap.size := hB5.size
    have hR5b : k89.R 89 w5 w.heap.size (fun k => W4.heap.size ≤ k) (.slice A5 (runs m2).length c5) (runs m2) := Kd.R_lower (Kd.R_mono (Kd.R_bound hR5) (fun k hk => hk.2.1)) (by have := hB.size; have := hS.1; omega)
    have hSc : ∀ k, (k = g ∨ vt.ownBlock = some k ∨ k = w1.heap.size + 1) → w.heap.size ≤ k := by
      rintro k (rfl | h | rfl)
      · omega
      · have := hvt k h; omega
      · omega
    have hB5w : Below w.heap.size w w5 := hB4.trans (hB5.mono hB4.size)
    have hoth : ∀ k, (k = g ∨ vt.ownBlock = some k ∨ k = w1.heap.size + 1) → ∀ o, W.heap[k]? = some o → o.isCells = true := by
      rintro k (rfl | h | rfl)
      · exact Iter.cells_of hgc
      · obtain ⟨cs, hcs⟩ := Kd.R_typed ht k h
        exact Iter.cells_of hcs
      · exact Iter.cells_of y8
    have hgx : ∀ rest, impl_plan.g (markAll l0 (Iter.vals pre)) (Iter.vals pre) (x :: rest) = if ((runs m2).length : Int) ≤ 20 * ((pre.length : Int) + 1) then (Iter.vals pre ++ [x], runs m2, 0) else impl_plan.g m2 (Iter.vals pre ++ [x]) rest := by
      intro rest
      have e2 : ((Iter.vals pre ++ [x]).length : Int) = (pre.length : Int) + 1 := by rw [List.length_append, Iter.vals_length]; simp
      rw [impl_plan.g, ← hm2h.out, e2]
    have hgh := Lib.hid hgx
    have hrh := Lib.hid hrest
    clear hgx hrest
    by_cases hc : ((runs m2).length : Int) ≤ 20 * ((pre.length : Int) + 1)
    · have hcb : decide (((runs m2).length : Int) ≤ 20 * ((pre.length : Int) + 1)) = true := decide_eq_true hc
      have hch := Lib.hid hc
      have u8 := p8.cell
      have u4 := p4.cell
      have u5 := p5.cell
      have u6 := p6.cell
      have v4 := p4.frozen
      have v5 := p5.frozen
      have v6 := p6.frozen
      clear hc
      gi_wp2
      refine ⟨((((hS5.others hoth).trans (KeepsOthers.setCell _ _ _)).trans (KeepsOthers.setCell _ _ _)).trans (KeepsOthers.setCell _ _ _)), ⟨rfl, ?_⟩, ((hB5w.setCell (p := ⟨w.heap.size, 0, none⟩) (by simp) _).setCell (p := ⟨w.heap.size + 1, 0, none⟩) (by simp) _).setCell (p := ⟨w.heap.size + 1 + 1, 0, none⟩) (by simp only []; omega) _⟩
      refine ⟨.slice (some ⟨g', 0, none⟩) (pre.length + 1) cap', .slice A5 (runs m2).length c5, runs m2, ?_, ?_, ?_, ?_, ?_, ?_⟩
      · exact (Below.heap_setCell _ ⟨w.heap.size + 1 + 1, 0, none⟩ _ _ (by simp only []; omega)).trans ((Below.heap_setCell _ ⟨w.heap.size + 1, 0, none⟩ _ _ (by simp)).trans (p4.set _))
      · exact (Below.heap_setCell _ ⟨w.heap.size + 1 + 1, 0, none⟩ _ _ (by simp)).trans (Boxed.set _ ((Below.heap_setCell _ ⟨w.heap.size, 0, none⟩ _ _ (by simp)).trans p5))
      · exact Boxed.set _ ((Below.heap_setCell _ ⟨w.heap.size + 1, 0, none⟩ _ _ (by simp)).trans ((Below.heap_setCell _ ⟨w.heap.size, 0, none⟩ _ _ (by simp only []; omega)).trans p6))
      · rw [Iter.vals_append]
        exact Kd.R_mono (Kd.R_far (p := ⟨w.heap.size + 1 + 1, 0, none⟩) (Kd.R_far (p := ⟨w.heap.size + 1, 0, none⟩) (Kd.R_far (p := ⟨w.heap.size, 0, none⟩) hRt5 (fun k hk => by simp only []; omega) _) (fun k hk => by simp only []; omega) _) (fun k hk => by simp only []; omega) _) (fun _ _ => trivial)
      · exact Kd.R_mono (Kd.R_far (p := ⟨w.heap.size + 1 + 1, 0, none⟩) (Kd.R_far (p := ⟨w.heap.size + 1, 0, none⟩) (Kd.R_far (p := ⟨w.heap.size, 0, none⟩) hR5b (fun k hk => by have := hS.1; simp only []; omega) _) (fun k hk => by have := hS.1; simp only []; omega) _) (fun k hk => by have := hS.1; simp only []; omega) _) (fun _ _ => trivial)
      · intro rest
        rw [Iter.vals_append, List.append_assoc]
        exact ((hrh.out ([x] ++ rest)).trans (hgh.out rest)).trans (if_pos hch.out)
    · have hcb : decide (((runs m2).length : Int) ≤ 20 * ((pre.length : Int) + 1)) = false := decide_eq_false hc
      have hch := Lib.hid hc
      have u8 := p8.cell
      clear hc
      gi_wp2
      refine ⟨hS5.others hoth, hS5.keep (fun k hk => ?_), ⟨⟨p4, p5, p6⟩, ⟨p7, ?_⟩, ⟨by have := hS.1; omega, _, p8, ?_⟩, ?_⟩, hB5w⟩
      · refine ⟨hSc k hk, ?_, ?_⟩
        · rcases hk with rfl | h | rfl
          · omega
          · have := hvt k h; omega
          · omega
        · rcases hk with rfl | h | rfl
          · omega
          · have := hvt k h; omega
          · omega
      · rw [Iter.vals_append, markAll_snoc, ← hm2h.out]
        exact hRm5
      · rw [Iter.vals_append]
        exact hRt5
      · intro rest
        rw [Iter.vals_append, List.append_assoc, markAll_snoc, ← hm2h.out]
        exact ((hrh.out ([x] ++ rest)).trans (hgh.out rest)).trans (if_neg (by have := hch.out; omega))
  case done =>
    rintro D ys W hD hys ⟨⟨⟨y4, y5, y6⟩, _, _, hrest⟩, hB⟩ hK
    have hres : (r1, r2, r3) = (([] : List Int), ([] : List (S89)), (7 : Int)) := by
      rw [← HG.out, ← hys]
      have := hrest []
      rw [List.append_nil] at this
      rw [this]
      rfl
    simp only [Prod.mk.injEq] at hres
    obtain ⟨h1, h2, h3⟩ := hres
    subst h1 h2 h3
    clear HG hrest hys
    have u4 := y4.cell
    have u5 := y5.cell
    have u6 := y6.cell
    have v4 := y4.frozen
    have v5 := y5.frozen
    have v6 := y6.frozen
    gi_wp2
    have hK' := (((KeepsOthers.setCell W ⟨w.heap.size, 0, none⟩ (.slice none 0 0)).trans (KeepsOthers.setCell _ ⟨w.heap.size + 1, 0, none⟩ (.slice none 0 0))).trans (KeepsOthers.setCell _ ⟨w.heap.size + 1 + 1, 0, none⟩ (.int .i64 7))).same D _ hK rfl
    refine ⟨by simp, .inl ⟨_, _, rfl, run_takeDeferred hK', ?_⟩⟩
    have hrow : ∀ r, some D = some r → ∃ o : Obj, (((W.setCell ⟨w.heap.size, 0, none⟩ (.slice none 0 0)).setCell ⟨w.heap.size + 1, 0, none⟩ (.slice none 0 0)).setCell ⟨w.heap.size + 1 + 1, 0, none⟩ (.int .i64 7)).heap[r]? = some o ∧ o.isCells = false := fun r e => by cases e; exact ⟨_, hK', rfl⟩
    have k4 := (boxed_turn ((Below.heap_setCell _ ⟨w.heap.size + 1 + 1, 0, none⟩ (.int .i64 7) _ (by simp only []; omega)).trans ((Below.heap_setCell _ ⟨w.heap.size + 1, 0, none⟩ (.slice none 0 0) _ (by simp)).trans (y4.set (.slice none 0 0)))) (grownBy_putObj' _ D (.deferred none)) hrow).cell
    have k5 := (boxed_turn ((Below.heap_setCell _ ⟨w.heap.size + 1 + 1, 0, none⟩ (.int .i64 7) _ (by simp)).trans (Boxed.set (.slice none 0 0) ((Below.heap_setCell _ ⟨w.heap.size, 0, none⟩ (.slice none 0 0) _ (by simp)).trans y5))) (grownBy_putObj' _ D (.deferred none)) hrow).cell
    have k6 := (boxed_turn (Boxed.set (.int .i64 7) ((Below.heap_setCell _ ⟨w.heap.size + 1, 0, none⟩ (.slice none 0 0) _ (by simp)).trans ((Below.heap_setCell _ ⟨w.heap.size, 0, none⟩ (.slice none 0 0) _ (by simp only []; omega)).trans y6))) (grownBy_putObj' _ D (.deferred none)) hrow).cell
    refine ⟨.tuple #[.slice none 0 0, .slice none 0 0, .int .i64 7], ?_, .slice none 0 0, .slice none 0 0, rfl, Kd.R_nil _ _ _ _ _, Kd.R_nil _ _ _ _ _, (((hB.setCell (p := ⟨w.heap.size, 0, none⟩) (by simp) _).setCell (p := ⟨w.heap.size + 1, 0, none⟩) (by simp) _).setCell (p := ⟨w.heap.size + 1 + 1, 0, none⟩) (by simp only []; omega) _).trans (belowK_b (w := w) (Nat.le_refl _) _ D _ _ (by omega) hK' rfl rfl)⟩
    simp [results, Try.f79, go_sem, k4, k5, k6]
  case stop =>
    rintro D c pre W hD ⟨⟨rest, hrest0⟩, _⟩ ⟨⟨rfl, v0, v1, rs, y4, y5, y6, hR0, hR1, hrest⟩, hB⟩ hK
    have hres : (r1, r2, r3) = (Iter.vals pre, rs, (0 : Int)) := by
      rw [← HG.out, ← hrest0]
      exact hrest rest
    simp only [Prod.mk.injEq] at hres
    obtain ⟨h1, h2, h3⟩ := hres
    subst h1 h2 h3
    clear HG hrest hrest0
    gi_wp2
    refine ⟨by simp, .inl ⟨_, _, rfl, run_takeDeferred hK, ?_⟩⟩
    have hgp := grownBy_putObj' W D (.deferred none)
    have hrow : ∀ r, some D = some r → ∃ o : Obj, W.heap[r]? = some o ∧ o.isCells = false := fun r e => by cases e; exact ⟨_, hK, rfl⟩
    have k4 := (boxed_turn y4 hgp hrow).cell
    have k5 := (boxed_turn y5 hgp hrow).cell
    have k6 := (boxed_turn y6 hgp hrow).cell
    have hf0 := R_turn hR0 hgp hrow
    have hf1 := R_turn hR1 hgp hrow
    refine ⟨.tuple #[v0, v1, .int .i64 0], ?_, v0, v1, rfl, hf0, hf1, hB.trans (belowK_b (w := w) (Nat.le_refl _) W D _ _ (by omega) hK rfl rfl)⟩
    simp [results, Try.f79, go_sem, k4, k5, k6]
end GivenPlan

/-! ### impl_PlanTable: function 36 -/
def impl_PlanTable.f (k : Nat) (l0 : List Int) (l1 : List Int) : Option (List Int × (List (S89)) × Int) := (impl_badCounts.f k (([l0, l1] : List (List Int)))).bind fun t202 => (if t202 = 0 then ((impl_plan.f l0 l1).bind fun bt203 => (some (bt203.1, bt203.2.1, bt203.2.2))) else (some (([] : List Int), ([] : List (S89)), t202)))
set_option maxHeartbeats 8000000 in
set_option maxRecDepth 100000 in
theorem impl_PlanTable.calls (k : Nat) (P0_ : Nat → Prop) (A0 : Option Addr) (c0 : Nat) (l0 : List Int) (P1_ : Nat → Prop) (A1 : Option Addr) (c1 : Nat) (l1 : List Int) (r1 : List Int) (r2 : List (S89)) (r3 : Int) (w : World) (hs0 : Kd.V (Kd.int .i64) 2 w w.heap.size (fun k_ => P0_ k_) (.slice A0 l0.length c0) l0) (hs1 : Kd.V (Kd.int .i64) 2 w w.heap.size (fun k_ => P1_ k_) (.slice A1 l1.length c1) l1) (h : impl_PlanTable.f k l0 l1 = some (r1, r2, r3)) :
  Calls Try.prog 36 #[.slice A0 l0.length c0, .slice A1 l1.length c1] w fun e w' => ∃ v0_ v1_ : Value, e = .returned (.tuple #[v0_, v1_, .int .i64 r3]) ∧ Kd.R (Kd.int .i64) 2 w' w.heap.size (fun k_ => (w.heap.size ≤ k_)) v0_ r1 ∧ Kd.R k89 89 w' w.heap.size (fun k_ => (w.heap.size ≤ k_)) v1_ r2 ∧ Below w.heap.size w w' := by
 have HO0 := Aside0.mk (show Kd.V (Kd.int .i64) 2 w w.heap.size (fun k_ => ((P0_ k_ ∨ P1_ k_) ∨ w.heap.size ≤ k_)) (.slice A0 l0.length c0) l0 from Kd.V_mono hs0 (fun k_ hk => .inl (.inl hk)))
 have HO1 := Aside0.mk (show Kd.V (Kd.int .i64) 2 w w.heap.size (fun k_ => ((P0_ k_ ∨ P1_ k_) ∨ w.heap.size ≤ k_)) (.slice A1 l1.length c1) l1 from Kd.V_mono hs1 (fun k_ hk => .inl (.inr hk)))
 have HB := Aside0.mk (Below.refl w.heap.size w)
 have H : ((impl_badCounts.f k (([l0, l1] : List (List Int)))).bind fun t202 => (if t202 = 0 then ((impl_plan.f l0 l1).bind fun bt203 => (some (bt203.1, bt203.2.1, bt203.2.2))) else (some (([] : List Int), ([] : List (S89)), t202)))) = some (r1, r2, r3) := h
 clear h
 obtain ⟨y199, hy199⟩ : ∃ y_ : List (List Int), y_ = (([l0, l1] : List (List Int))) := ⟨_, rfl⟩
 replace H : ((impl_badCounts.f k y199).bind fun t202 => (if t202 = 0 then ((impl_plan.f l0 l1).bind fun bt203 => (some (bt203.1, bt203.2.1, bt203.2.2))) else (some (([] : List Int), ([] : List (S89)), t202)))) = some (r1, r2, r3) := by first | (rw [hy199]; with_reducible exact H) | (have H2_ := (Option.bind_some _ _).symm.trans H; rw [hy199]; with_reducible exact H2_) | (have H2_ := (Option.bind_some _ _).symm.trans H; with_reducible exact H2_) | with_reducible exact H | (rw [hy199]; exact H) | exact H
 have Ny199 := Aside0.mk hy199
 clear hy199
 replace H := Option.bind_eq_some_iff.mp H
 obtain ⟨t202, A30, H⟩ := H
 replace H : (if t202 = 0 then ((impl_plan.f l0 l1).bind fun bt203 => (some (bt203.1, bt203.2.1, bt203.2.2))) else (some (([] : List Int), ([] : List (S89)), t202))) = some (r1, r2, r3) := H
 have A3 := Aside0.mk A30
 clear A30
 by_cases c4 : t202 = 0
 ·rw [if_pos c4] at H
  have c4b0 : (t202 == 0) = true := beq_iff_eq.mpr c4
  have c4b1 : (t202 != 0) = false := bne_eq_false_iff_eq.mpr c4
  clear c4
  replace H := Option.bind_eq_some_iff.mp H
  obtain ⟨⟨t203, t204, t205⟩, A50, H⟩ := H
  replace H : (some (t203, t204, t205)) = some (r1, r2, r3) := H
  have A5 := Aside0.mk A50
  clear A50
  simp only [Option.some.injEq, Prod.mk.injEq] at H
  obtain ⟨rfl, rfl, rfl⟩ := H
  go_enter Try.func36, Try.ntmps36
  go_wp2_with (first | ((with_reducible refine gate_dst (N := 10) rfl ?_); refine Kd.N_lit (Kd.slice 2 (Kd.int .i64)) _ 24 ?hg (N' := 10) ?hd (xs := ([l0, l1] : List (List Int))) (inner := [.slice A0 l0.length c0, .slice A1 l1.length c1]) (ok := (fun k_ => ((P0_ k_ ∨ P1_ k_) ∨ w.heap.size ≤ k_))) (okp := (fun k_ => ((P0_ k_ ∨ P1_ k_) ∨ w.heap.size ≤ k_))) ?hr ?hp (fun _ hk => hk) ((show ∀ k_, w.heap.size ≤ k_ → (fun k_ => ((P0_ k_ ∨ P1_ k_) ∨ w.heap.size ≤ k_)) k_ from fun k_ hk => (.inr (Nat.le_trans (below_size (Law.bg HB.out)) hk))) _ (Nat.le_refl _)) (Below.refl _ _) (Nat.le_refl _) (by simp) ?_; (case hd => rfl); (case hg => rfl); (case hr => first | (go_simp; done) | (go_simp; rfl)); (case hp => exact (Reps.one (show Kd.FK (Kd.slice 2 (Kd.int .i64)) _ _ l0 [.slice A0 l0.length c0] from (Kd.FK_slice_mk (Kd.V_reads' (Kd.V_mono (ok' := (fun k_ => ((P0_ k_ ∨ P1_ k_) ∨ w.heap.size ≤ k_))) (HO0.out) (fun k_ hk => hk))).2.1 (Kd.V_F (Kd.V_mono (ok' := (fun k_ => ((P0_ k_ ∨ P1_ k_) ∨ w.heap.size ≤ k_))) (HO0.out) (fun k_ hk => hk))))) (Reps.one (show Kd.FK (Kd.slice 2 (Kd.int .i64)) _ _ l1 [.slice A1 l1.length c1] from (Kd.FK_slice_mk (Kd.V_reads' (Kd.V_mono (ok' := (fun k_ => ((P0_ k_ ∨ P1_ k_) ∨ w.heap.size ≤ k_))) (HO1.out) (fun k_ hk => hk))).2.1 (Kd.V_F (Kd.V_mono (ok' := (fun k_ => ((P0_ k_ ∨ P1_ k_) ∨ w.heap.size ≤ k_))) (HO1.out) (fun k_ hk => hk))))) (Reps.none _ _)))); intro v200 w6 ho7 hb hg_ hnew_; clear hg_ hnew_; (first | rw [← Ny199.out] at ho7 | (simp only [Int.reduceToNat] at ho7; rw [← Ny199.out] at ho7)); have HO201 := Aside0.mk (Kd.N_lower ho7 (below_size (Law.bg HB.out))); replace HO0 := Aside0.mk (Kd.V_elder' (by (with_reducible repeat (first | apply Kd.V_alloc | apply Kd.V_drewN | apply Kd.V_drew)); exact HO0.out) (Kd.N_base ho7) hb); replace HO1 := Aside0.mk (Kd.V_elder' (by (with_reducible repeat (first | apply Kd.V_alloc | apply Kd.V_drewN | apply Kd.V_drew)); exact HO1.out) (Kd.N_base ho7) hb); replace HB := Law.bS HB hb; clear hb ho7; obtain ⟨Ao8, co8, eo8⟩ := Kd.N_slice HO201.out; subst eo8) | ((with_reducible refine gate_callee (f := 66) rfl ?_); refine goesL_ (some 11) rfl rfl Try.func66 (by kernel_rfl) rfl #[.slice Ao8 y199.length co8] rfl (by (try simp only [List.map_toArray, List.map_cons, List.map_nil]); first | done | rfl | (simp only [List.length_drop, List.length_take]; rfl)) ?_; (with_reducible refine (impl_badCounts.calls k _ _ y199 t202 _ ?side1 ?side2 A3.out).mono ?_); (case side1 => exact Law.cg ((Kd.N_reads' HO201.out).2.2)); (case side2 => exact (Kd.N_reads' HO201.out).2.1); rintro e w' ⟨rfl, ⟨nd, rfl⟩⟩; refine ⟨_, rfl, ?_⟩) | ((with_reducible refine gate_callee (f := 79) rfl ?_); refine goesL_ (some 17) rfl rfl Try.func79 (by kernel_rfl) rfl #[.slice A0 l0.length c0, .slice A1 l1.length c1] rfl (by (try simp only [List.map_toArray, List.map_cons, List.map_nil]); first | done | rfl | (simp only [List.length_drop, List.length_take]; rfl)) ?_; (with_reducible refine (impl_plan.calls _ _ l0 _ _ l1 t203 t204 t205 _ ?side1 ?side2 ?side3 ?side4 A5.out).mono ?_); (case side1 => exact Law.cg ((Kd.V_reads' HO0.out).2.2)); (case side2 => exact (Kd.V_reads' HO0.out).2.1); (case side3 => exact Law.cg ((Kd.V_reads' HO1.out).2.2)); (case side4 => exact (Kd.V_reads' HO1.out).2.1); rintro e w9 ⟨v206, v208, rfl, ho0, ho1, hb⟩; refine ⟨_, rfl, ?_⟩; have HO207 := Law.rL (Kd.R_newM (M := fun k_ => (w.heap.size ≤ k_)) ho0 (below_size (Law.bg HB.out)) (fun k_ h_ => h_)) HB; have HO209 := Law.rL (Kd.R_newM (M := fun k_ => (w.heap.size ≤ k_)) ho1 (below_size (Law.bg HB.out)) (fun k_ h_ => h_)) HB; replace HO0 := Aside0.mk (Kd.V_mono (Kd.V_told (Kd.V_told (Kd.V_old (by (with_reducible repeat (first | apply Kd.V_alloc | apply Kd.V_drewN | apply Kd.V_drew)); exact HO0.out) hb) (Kd.R_base ho0)) (Kd.R_base ho1)) (fun _ h_ => h_.1)); replace HO1 := Aside0.mk (Kd.V_mono (Kd.V_told (Kd.V_told (Kd.V_old (by (with_reducible repeat (first | apply Kd.V_alloc | apply Kd.V_drewN | apply Kd.V_drew)); exact HO1.out) hb) (Kd.R_base ho0)) (Kd.R_base ho1)) (fun _ h_ => h_.1)); replace HO201 := Aside0.mk (Kd.N_mono (Kd.N_told (Kd.N_told (Kd.N_old (by (with_reducible repeat (first | apply Kd.N_alloc | apply Kd.N_drewN | apply Kd.N_drew)); exact HO201.out) hb) (Kd.R_base ho0)) (Kd.R_base ho1)) (fun _ h_ => h_.1)); replace HB := Law.bS HB hb; (try clear hb); (try clear ho0); (try clear ho1)))
  go_ret3
  exact ⟨_, _, by first | rfl | (simp [errW_none, errW_some] <;> rfl) | (simp [*, errW_none, errW_some] <;> rfl), by (with_reducible repeat (first | apply Kd.R_alloc | apply Kd.R_drewN | apply Kd.R_drew)); exact Kd.R_mono HO207.out (fun _ hk => hk.1), by (with_reducible repeat (first | apply Kd.R_alloc | apply Kd.R_drewN | apply Kd.R_drew)); exact Kd.R_mono HO209.out (fun _ hk => hk.1), by repeat (first | (with_reducible first | exact HB.out | apply below_alloc | apply pw_below_drewN | apply below_drew1) | exact HB.out)⟩
 ·rw [if_neg c4] at H
  have c4b0 : (t202 == 0) = false := beq_eq_false_iff_ne.mpr c4
  have c4b1 : (t202 != 0) = true := bne_iff_ne.mpr c4
  simp only [Option.some.injEq, Prod.mk.injEq] at H
  obtain ⟨rfl, rfl, rfl⟩ := H
  go_enter Try.func36, Try.ntmps36
  go_wp2_with (first | ((with_reducible refine gate_dst (N := 10) rfl ?_); refine Kd.N_lit (Kd.slice 2 (Kd.int .i64)) _ 24 ?hg (N' := 10) ?hd (xs := ([l0, l1] : List (List Int))) (inner := [.slice A0 l0.length c0, .slice A1 l1.length c1]) (ok := (fun k_ => ((P0_ k_ ∨ P1_ k_) ∨ w.heap.size ≤ k_))) (okp := (fun k_ => ((P0_ k_ ∨ P1_ k_) ∨ w.heap.size ≤ k_))) ?hr ?hp (fun _ hk => hk) ((show ∀ k_, w.heap.size ≤ k_ → (fun k_ => ((P0_ k_ ∨ P1_ k_) ∨ w.heap.size ≤ k_)) k_ from fun k_ hk => (.inr (Nat.le_trans (below_size (Law.bg HB.out)) hk))) _ (Nat.le_refl _)) (Below.refl _ _) (Nat.le_refl _) (by simp) ?_; (case hd => rfl); (case hg => rfl); (case hr => first | (go_simp; done) | (go_simp; rfl)); (case hp => exact (Reps.one (show Kd.FK (Kd.slice 2 (Kd.int .i64)) _ _ l0 [.slice A0 l0.length c0] from (Kd.FK_slice_mk (Kd.V_reads' (Kd.V_mono (ok' := (fun k_ => ((P0_ k_ ∨ P1_ k_) ∨ w.heap.size ≤ k_))) (HO0.out) (fun k_ hk => hk))).2.1 (Kd.V_F (Kd.V_mono (ok' := (fun k_ => ((P0_ k_ ∨ P1_ k_) ∨ w.heap.size ≤ k_))) (HO0.out) (fun k_ hk => hk))))) (Reps.one (show Kd.FK (Kd.slice 2 (Kd.int .i64)) _ _ l1 [.slice A1 l1.length c1] from (Kd.FK_slice_mk (Kd.V_reads' (Kd.V_mono (ok' := (fun k_ => ((P0_ k_ ∨ P1_ k_) ∨ w.heap.size ≤ k_))) (HO1.out) (fun k_ hk => hk))).2.1 (Kd.V_F (Kd.V_mono (ok' := (fun k_ => ((P0_ k_ ∨ P1_ k_) ∨ w.heap.size ≤ k_))) (HO1.out) (fun k_ hk => hk))))) (Reps.none _ _)))); intro v200 w10 ho11 hb hg_ hnew_; clear hg_ hnew_; (first | rw [← Ny199.out] at ho11 | (simp only [Int.reduceToNat] at ho11; rw [← Ny199.out] at ho11)); have HO201 := Aside0.mk (Kd.N_lower ho11 (below_size (Law.bg HB.out))); replace HO0 := Aside0.mk (Kd.V_elder' (by (with_reducible repeat (first | apply Kd.V_alloc | apply Kd.V_drewN | apply Kd.V_drew)); exact HO0.out) (Kd.N_base ho11) hb); replace HO1 := Aside0.mk (Kd.V_elder' (by (with_reducible repeat (first | apply Kd.V_alloc | apply Kd.V_drewN | apply Kd.V_drew)); exact HO1.out) (Kd.N_base ho11) hb); replace HB := Law.bS HB hb; clear hb ho11; obtain ⟨Ao12, co12, eo12⟩ := Kd.N_slice HO201.out; subst eo12) | ((with_reducible refine gate_callee (f := 66) rfl ?_); refine goesL_ (some 11) rfl rfl Try.func66 (by kernel_rfl) rfl #[.slice Ao12 y199.length co12] rfl (by (try simp only [List.map_toArray, List.map_cons, List.map_nil]); first | done | rfl | (simp only [List.length_drop, List.length_take]; rfl)) ?_; (with_reducible refine (impl_badCounts.calls k _ _ y199 t202 _ ?side1 ?side2 A3.out).mono ?_); (case side1 => exact Law.cg ((Kd.N_reads' HO201.out).2.2)); (case side2 => exact (Kd.N_reads' HO201.out).2.1); rintro e w' ⟨rfl, ⟨nd, rfl⟩⟩; refine ⟨_, rfl, ?_⟩))
  go_ret3
  exact ⟨_, _, by first | rfl | (simp [errW_none, errW_some] <;> rfl) | (simp [*, errW_none, errW_some] <;> rfl), by first | exact Kd.R_nil _ _ _ _ _ | exact Kd.N_nil _ _ _ _ _ | exact Kd.V_nil _ _ _ _ _ | exact Kd.Q_nil _ _ _ _ _ | exact Kd.S_nil _ _ _ _ _, by first | exact Kd.R_nil _ _ _ _ _ | exact Kd.N_nil _ _ _ _ _ | exact Kd.V_nil _ _ _ _ _ | exact Kd.Q_nil _ _ _ _ _ | exact Kd.S_nil _ _ _ _ _, by repeat (first | (with_reducible first | exact HB.out | apply below_alloc | apply pw_below_drewN | apply below_drew1) | exact HB.out)⟩

/-- A state of type 111 at block g of W; what its slices lead to came in by w0. -/
def IsS111 (w0 W : World) (g : Nat) (f0 : List Int) (f1 : Int) (f2 : Int) : Prop := ∃ A0 c0, W.heap[g]? = some (.cells #[.slice A0 f0.length c0, .int .i64 f1, .int .u64 f2] 111 (0, 0)) ∧ w0.heap.size ≤ g ∧ Kd.C (Kd.int .u8) w0 A0 f0.length f0
theorem IsS111.grown {w0 W : World} {g : Nat} {f0 : List Int} {f1 : Int} {f2 : Int} {W1 : World} {row : Option Nat} (h : IsS111 w0 W g f0 f1 f2) (hw : W.grownBy W1 row) (hne : some g ≠ row) : IsS111 w0 W1 g f0 f1 f2 := by
 obtain ⟨A0, c0, hb, hg, hr0⟩ := h
 exact ⟨A0, c0, blk_grown hb hw hne, hg, hr0⟩
theorem IsS111.own_neN {w0 W : World} {g : Nat} {f0 : List Int} {f1 : Int} {f2 : Int} {α : Type} {d : Kd α} {e : Nat} {base : Nat} {ok : Nat → Prop} {v : Value} {xs : List α} (h : IsS111 w0 W g f0 f1 f2) (ho : Kd.N d e W base ok v xs) (ht : e ≠ 111) : some g ≠ v.ownBlock := by
 obtain ⟨A0, c0, hb, hg, hr0⟩ := h
 exact Kd.N_ne ho hb ht
theorem IsS111.fresh {w0 W : World} {g : Nat} {f0 : List Int} {f1 : Int} {f2 : Int} (h : IsS111 w0 W g f0 f1 f2) : ∀ k, W.heap.size ≤ k → k ≠ g := by
 obtain ⟨A0, c0, hb, hg, hr0⟩ := h
 exact Kd.freshB hb
theorem IsS111.kept {w0 W : World} {g : Nat} {f0 : List Int} {f1 : Int} {f2 : Int} {W1 : World} {S : Nat → Prop} (h : IsS111 w0 W g f0 f1 f2) (hk : Kept W W1 S) (hne : ¬ S g) : IsS111 w0 W1 g f0 f1 f2 := by
 obtain ⟨A0, c0, hb, hg, hr0⟩ := h
 exact ⟨A0, c0, blk_kept hb hk hne, hg, hr0⟩
theorem IsS111.below {w0 W : World} {g : Nat} {f0 : List Int} {f1 : Int} {f2 : Int} {W1 : World} (h : IsS111 w0 W g f0 f1 f2) (hw : Below W.heap.size W W1) : IsS111 w0 W1 g f0 f1 f2 := h.grown (grown_of_below hw none) (by simp)
theorem IsS111.alloc {w0 W : World} {g : Nat} {f0 : List Int} {f1 : Int} {f2 : Int} (h : IsS111 w0 W g f0 f1 f2) (o : Obj) : IsS111 w0 (W.alloc o) g f0 f1 f2 := h.below (below_alloc (Below.refl _ _) o)
theorem IsS111.drewN {w0 W : World} {g : Nat} {f0 : List Int} {f1 : Int} {f2 : Int} (h : IsS111 w0 W g f0 f1 f2) (m : Nat) : IsS111 w0 (W.drewN m) g f0 f1 f2 := h
theorem IsS111.drew {w0 W : World} {g : Nat} {f0 : List Int} {f1 : Int} {f2 : Int} (h : IsS111 w0 W g f0 f1 f2) : IsS111 w0 W.drew g f0 f1 f2 := h
theorem IsS111.at_ {w0 W : World} {g : Nat} {f0 : List Int} {f1 : Int} {f2 : Int} {w' : World} {m : Nat} (hq : W.drewN m = w') (h : IsS111 w0 W g f0 f1 f2) : IsS111 w0 w' g f0 f1 f2 := by subst hq; exact IsS111.drewN h m
theorem IsS111.apart {w0 W : World} {g : Nat} {f0 : List Int} {f1 : Int} {f2 : Int} {α : Type} {d : Kd α} {e : Nat} {base : Nat} {ok : Nat → Prop} {v : Value} {xs : List α} (h : IsS111 w0 W g f0 f1 f2) (ho : d.R e W base ok v xs) (ht : ∀ q, q ∈ e :: d.E → q ≠ 111) : d.R e W base (fun k => ok k ∧ k ≠ g) v xs := by
 obtain ⟨A0, c0, hb, hg, hr0⟩ := h
 exact Kd.R_types ho hb ht
theorem IsS111.own_ne {w0 W : World} {g : Nat} {f0 : List Int} {f1 : Int} {f2 : Int} {α : Type} {d : Kd α} {e : Nat} {base : Nat} {ok : Nat → Prop} {v : Value} {xs : List α} (h : IsS111 w0 W g f0 f1 f2) (ho : d.R e W base ok v xs) (ht : e ≠ 111) : some g ≠ v.ownBlock := by
 obtain ⟨A0, c0, hb, hg, hr0⟩ := h
 exact Kd.R_ne ho hb ht
theorem IsS111.apartQ {w0 W : World} {g : Nat} {f0 : List Int} {f1 : Int} {f2 : Int} {α : Type} {d : Kd α} {e : Nat} {base : Nat} {ok : Nat → Prop} {v : Value} {xs : List α} (h : IsS111 w0 W g f0 f1 f2) (ho : d.Q e W base ok v xs) (ht : ∀ q, q ∈ e :: d.E → q ≠ 111) : d.Q e W base (fun k => ok k ∧ k ≠ g) v xs := by
 obtain ⟨A0, c0, hb, hg, hr0⟩ := h
 exact Kd.Q_types ho hb ht
theorem IsS111.own_neQ {w0 W : World} {g : Nat} {f0 : List Int} {f1 : Int} {f2 : Int} {α : Type} {d : Kd α} {e : Nat} {base : Nat} {ok : Nat → Prop} {v : Value} {xs : List α} (h : IsS111 w0 W g f0 f1 f2) (ho : d.Q e W base ok v xs) (ht : e ≠ 111) : some g ≠ v.ownBlock := by
 obtain ⟨A0, c0, hb, hg, hr0⟩ := h
 exact Kd.Q_ne ho hb ht
theorem IsS111.apartS {w0 W : World} {g : Nat} {f0 : List Int} {f1 : Int} {f2 : Int} {α : Type} {d : Kd α} {e : Nat} {base : Nat} {ok : Nat → Prop} {v : Value} {xs : List α} (h : IsS111 w0 W g f0 f1 f2) (ho : d.S e W base ok v xs) (ht : ∀ q, q ∈ e :: d.E → q ≠ 111) : d.S e W base (fun k => ok k ∧ k ≠ g) v xs := by
 obtain ⟨A0, c0, hb, hg, hr0⟩ := h
 exact Kd.S_types ho hb ht
theorem IsS111.own_neS {w0 W : World} {g : Nat} {f0 : List Int} {f1 : Int} {f2 : Int} {α : Type} {d : Kd α} {e : Nat} {base : Nat} {ok : Nat → Prop} {v : Value} {xs : List α} (h : IsS111 w0 W g f0 f1 f2) (ho : d.S e W base ok v xs) (ht : e ≠ 111) : some g ≠ v.ownBlock := by
 obtain ⟨A0, c0, hb, hg, hr0⟩ := h
 exact Kd.S_ne ho hb ht
theorem IsS111.lt {w0 W : World} {g : Nat} {f0 : List Int} {f1 : Int} {f2 : Int} (h : IsS111 w0 W g f0 f1 f2) : g < W.heap.size := by
 obtain ⟨A0, c0, hb, hg, hr0⟩ := h
 exact blk_lt hb
theorem IsS111.ge {w0 W : World} {g : Nat} {f0 : List Int} {f1 : Int} {f2 : Int} (h : IsS111 w0 W g f0 f1 f2) : w0.heap.size ≤ g := by
 obtain ⟨A0, c0, hb, hg, hr0⟩ := h
 exact hg
theorem IsS111.ne_blk {w0 W : World} {g : Nat} {f0 : List Int} {f1 : Int} {f2 : Int} {a : Nat} {cs : Array Value} {t : TypeId} {fr : Nat × Nat} (h : IsS111 w0 W g f0 f1 f2) (hb2 : W.heap[a]? = some (.cells cs t fr)) (ht : t ≠ 111) : g ≠ a := by
 obtain ⟨A0, c0, hb, hg, hr0⟩ := h
 rintro rfl
 rw [hb] at hb2
 injection hb2 with hb2
 injection hb2 with _ ht2
 exact ht ht2.symm
theorem IsS111.far {w0 W : World} {g : Nat} {f0 : List Int} {f1 : Int} {f2 : Int} {p : Addr} (h : IsS111 w0 W g f0 f1 f2) (hne : g ≠ p.block) (u : Value) : IsS111 w0 (W.setCell p u) g f0 f1 f2 := by
 obtain ⟨A0, c0, hb, hg, hr0⟩ := h
 exact ⟨A0, c0, blk_far hb hne u, hg, hr0⟩
theorem cellS111_0 {W : World} {g : Nat} {A0 : Option Addr} {c0 : Nat} {f0 : List Int} {f1 : Int} {f2 : Int} (h : W.heap[g]? = some (.cells #[.slice A0 f0.length c0, .int .i64 f1, .int .u64 f2] 111 (0, 0))) : W.cell? ⟨g, 0, none⟩ = some (.slice A0 f0.length c0) := (blk_cell h 0).trans rfl
theorem cellS111_1 {W : World} {g : Nat} {A0 : Option Addr} {c0 : Nat} {f0 : List Int} {f1 : Int} {f2 : Int} (h : W.heap[g]? = some (.cells #[.slice A0 f0.length c0, .int .i64 f1, .int .u64 f2] 111 (0, 0))) : W.cell? ⟨g, 1, none⟩ = some (.int .i64 f1) := (blk_cell h 1).trans rfl
theorem IsS111.set_1 {w0 W : World} {g : Nat} {f0 : List Int} {f1 : Int} {f2 : Int} (h : IsS111 w0 W g f0 f1 f2) (x : Int) : IsS111 w0 (W.setCell ⟨g, 1, none⟩ (.int .i64 x)) g f0 x f2 := by
 obtain ⟨A0, c0, hb, hg, hr0⟩ := h
 exact ⟨A0, c0, by simpa using blk_set hb 1 (.int .i64 x), hg, hr0⟩
theorem cellS111_2 {W : World} {g : Nat} {A0 : Option Addr} {c0 : Nat} {f0 : List Int} {f1 : Int} {f2 : Int} (h : W.heap[g]? = some (.cells #[.slice A0 f0.length c0, .int .i64 f1, .int .u64 f2] 111 (0, 0))) : W.cell? ⟨g, 2, none⟩ = some (.int .u64 f2) := (blk_cell h 2).trans rfl
theorem IsS111.set_2 {w0 W : World} {g : Nat} {f0 : List Int} {f1 : Int} {f2 : Int} (h : IsS111 w0 W g f0 f1 f2) (x : Int) : IsS111 w0 (W.setCell ⟨g, 2, none⟩ (.int .u64 x)) g f0 f1 x := by
 obtain ⟨A0, c0, hb, hg, hr0⟩ := h
 exact ⟨A0, c0, by simpa using blk_set hb 2 (.int .u64 x), hg, hr0⟩
theorem IsS111.new (w0 W : World) (A0 : Option Addr) (c0 : Nat) (f0 : List Int) (f1 : Int) (f2 : Int) (hB : Below w0.heap.size w0 W) (hr0 : Kd.C (Kd.int .u8) w0 A0 f0.length f0) : IsS111 w0 (W.alloc (.cells #[.slice A0 f0.length c0, .int .i64 f1, .int .u64 f2] 111)) W.heap.size f0 f1 f2 := ⟨A0, c0, by simpa using heap_alloc_new W _, hB.size, hr0⟩

class IsS111.Mv (w0 W W1 : World) (g : Nat) (f0 : List Int) (a1 : Int) (a2 : Int) (b1 : outParam Int) (b2 : outParam Int) : Prop where
 go : IsS111 w0 W g f0 a1 a2 → IsS111 w0 W1 g f0 b1 b2
instance {w0 W : World} {g : Nat} {f0 : List Int} {a1 : Int} {a2 : Int} : IsS111.Mv w0 W W g f0 a1 a2 a1 a2 := ⟨id⟩
instance {w0 W W1 : World} {g : Nat} {f0 : List Int} {a1 b1 : Int} {a2 b2 : Int} (o : Obj) [h : IsS111.Mv w0 W W1 g f0 a1 a2 b1 b2] : IsS111.Mv w0 W (W1.alloc o) g f0 a1 a2 b1 b2 := ⟨fun x => (h.go x).alloc o⟩
instance {w0 W W1 : World} {g : Nat} {f0 : List Int} {a1 b1 : Int} {a2 b2 : Int} (m : Nat) [h : IsS111.Mv w0 W W1 g f0 a1 a2 b1 b2] : IsS111.Mv w0 W (W1.drewN m) g f0 a1 a2 b1 b2 := ⟨fun x => (h.go x).drewN m⟩
instance {w0 W W1 : World} {g : Nat} {f0 : List Int} {a1 b1 : Int} {a2 b2 : Int} [h : IsS111.Mv w0 W W1 g f0 a1 a2 b1 b2] : IsS111.Mv w0 W W1.drew g f0 a1 a2 b1 b2 := ⟨fun x => (h.go x).drew⟩
instance {w0 W W1 : World} {g : Nat} {f0 : List Int} {a1 b1 : Int} {a2 b2 : Int} (x : Int) [h : IsS111.Mv w0 W W1 g f0 a1 a2 b1 b2] : IsS111.Mv w0 W (W1.setCell ⟨g, 1, none⟩ (.int .i64 x)) g f0 a1 a2 x b2 := ⟨fun y => (h.go y).set_1 x⟩
instance {w0 W W1 : World} {g : Nat} {f0 : List Int} {a1 b1 : Int} {a2 b2 : Int} (x : Int) [h : IsS111.Mv w0 W W1 g f0 a1 a2 b1 b2] : IsS111.Mv w0 W (W1.setCell ⟨g, 2, none⟩ (.int .u64 x)) g f0 a1 a2 b1 x := ⟨fun y => (h.go y).set_2 x⟩
theorem IsS111.ig {w0 W W1 : World} {g : Nat} {f0 : List Int} {a1 b1 : Int} {a2 b2 : Int} (h : Aside0 (IsS111 w0 W g f0 a1 a2)) [m : IsS111.Mv w0 W W1 g f0 a1 a2 b1 b2] : IsS111 w0 W1 g f0 b1 b2 := m.go h.out
/-! ### spec_l1Next: function 91 -/
def spec_l1Next.f (s0_0 : List Int) (s0_1 : Int) (s0_2 : Int) (a1 : Int) : Option (Int × Int × Int) := if a1 ≤ 0 then (some (0, s0_1, s0_2)) else (if s0_1 < (s0_0.length : Int) then (if 0 ≤ s0_1 then (if (IntKind.u64.wrap (a1)) = 0 then (none) else (some (wrap64 (Int.tmod (Go.bits .xor .u64 ((IntKind.u64.wrap ((IntKind.u64.wrap (s0_2 * 6364136223846793005)) + 1442695040888963407)) / 8589934592) (IntKind.u64.wrap (rd s0_0 s0_1))) (IntKind.u64.wrap (a1))), wrap64 (s0_1 + 1), IntKind.u64.wrap ((IntKind.u64.wrap (s0_2 * 6364136223846793005)) + 1442695040888963407)))) else (none)) else (if (IntKind.u64.wrap (a1)) = 0 then (none) else (some (wrap64 (Int.tmod ((IntKind.u64.wrap ((IntKind.u64.wrap (s0_2 * 6364136223846793005)) + 1442695040888963407)) / 8589934592) (IntKind.u64.wrap (a1))), s0_1, IntKind.u64.wrap ((IntKind.u64.wrap (s0_2 * 6364136223846793005)) + 1442695040888963407)))))
set_option maxHeartbeats 8000000 in
set_option maxRecDepth 100000 in
theorem spec_l1Next.calls (g : Nat) (s0_0 : List Int) (s0_1 : Int) (s0_2 : Int) (a1 : Int) (r1 : Int) (r2 : Int) (r3 : Int) (w0 w : World) (hI : IsS111 w0 w g s0_0 s0_1 s0_2) (hB : Below w0.heap.size w0 w) (h : spec_l1Next.f s0_0 s0_1 s0_2 a1 = some (r1, r2, r3)) :
  Calls Try.prog 91 #[.pointer (some ⟨g, 0, none⟩), .int .i64 a1] w fun e w' => e = .returned (.int .i64 r1) ∧ IsS111 w0 w' g s0_0 r2 r3 ∧ Below w0.heap.size w0 w' ∧ KeepBut w w' g none := by
 have HI0 := Aside0.mk hI
 have HK := Aside0.mk (KeepBut.refl w g none)
 have HL := Aside0.mk hB.size
 clear hI
 have HW0 := Aside0.mk hB.size
 have HB := Aside0.mk hB
 clear hB
 have H : (if a1 ≤ 0 then (some (0, s0_1, s0_2)) else (if s0_1 < (s0_0.length : Int) then (if 0 ≤ s0_1 then (if (IntKind.u64.wrap (a1)) = 0 then (none) else (some (wrap64 (Int.tmod (Go.bits .xor .u64 ((IntKind.u64.wrap ((IntKind.u64.wrap (s0_2 * 6364136223846793005)) + 1442695040888963407)) / 8589934592) (IntKind.u64.wrap (rd s0_0 s0_1))) (IntKind.u64.wrap (a1))), wrap64 (s0_1 + 1), IntKind.u64.wrap ((IntKind.u64.wrap (s0_2 * 6364136223846793005)) + 1442695040888963407)))) else (none)) else (if (IntKind.u64.wrap (a1)) = 0 then (none) else (some (wrap64 (Int.tmod ((IntKind.u64.wrap ((IntKind.u64.wrap (s0_2 * 6364136223846793005)) + 1442695040888963407)) / 8589934592) (IntKind.u64.wrap (a1))), s0_1, IntKind.u64.wrap ((IntKind.u64.wrap (s0_2 * 6364136223846793005)) + 1442695040888963407)))))) = some (r1, r2, r3) := h
 clear h
 by_cases c3 : a1 ≤ 0
 ·rw [if_pos c3] at H
  have c3b0 : decide (a1 ≤ 0) = true := decide_eq_true c3
  clear c3
  simp only [Option.some.injEq, Prod.mk.injEq] at H
  obtain ⟨rfl, rfl, rfl⟩ := H
  go_enter Try.func91, Try.ntmps91
  go_wp2
  repeat (go_quiet (fail); try go_wp2)
  go_ret
  exact ⟨by first | rfl | (simp [errW_none, errW_some] <;> rfl) | (simp [*, errW_none, errW_some] <;> rfl), by exact IsS111.ig HI0, by exact Law.bi HB (IsS111.ge HI0.out), by exact Law.kg HK⟩
 ·rw [if_neg c3] at H
  have c3b0 : decide (a1 ≤ 0) = false := decide_eq_false c3
  clear c3
  by_cases c4 : s0_1 < (s0_0.length : Int)
  ·rw [if_pos c4] at H
   have c4b0 : decide (s0_1 < (s0_0.length : Int)) = true := decide_eq_true c4
   clear c4
   by_cases c5 : 0 ≤ s0_1
   ·rw [if_pos c5] at H
    have c5b0 : decide (0 ≤ s0_1) = true := decide_eq_true c5
    clear c5
    by_cases c6 : (IntKind.u64.wrap (a1)) = 0
    ·rw [if_pos c6] at H
     exact absurd H (by simp)
    ·rw [if_neg c6] at H
     have c6b0 : ((IntKind.u64.wrap (a1)) == 0) = false := beq_eq_false_iff_ne.mpr c6
     have c6b1 : ((IntKind.u64.wrap (a1)) != 0) = true := bne_iff_ne.mpr c6
     simp only [Option.some.injEq, Prod.mk.injEq] at H
     obtain ⟨rfl, rfl, rfl⟩ := H
     obtain ⟨ASz7_0, cSz7_0, HGz7, hgz7, HSz7_0⟩ := HI0.out
     have hcz7_0 := cellS111_0 HGz7
     have hcz7_1 := cellS111_1 HGz7
     have hcz7_2 := cellS111_2 HGz7
     have hfz7_1 := blk_frozen HGz7 1
     have hfz7_2 := blk_frozen HGz7 2
     clear HGz7 hgz7
     have p210 : 0 ≤ (s0_1 : Int) := of_decide_eq_true (by first | (with_reducible assumption) | assumption)
     have q210 : s0_1 < (s0_0.length : Int) := of_decide_eq_true (by first | (with_reducible assumption) | assumption)
     obtain ⟨ad210, e210, hx210_0⟩ := Kd.at_int HSz7_0 s0_1 p210 q210
     cases e210
     have hn210_0 : ad210.block ≠ g := Nat.ne_of_lt (Nat.lt_of_lt_of_le (by have := World.block_lt_of_cell? _ _ hx210_0; first | rwa [add_block] at this | exact this) (IsS111.ge HI0.out))
     replace hx210_0 := pw_cell_below HB.out hx210_0
     replace hx210_0 := (cell_far (p := ⟨g, 2, none⟩) (by first | (rw [add_block]; exact hn210_0) | (show (Addr.add _ _).block ≠ _; rw [add_block]; exact hn210_0) | exact hn210_0) (.int .u64 (IntKind.u64.wrap ((IntKind.u64.wrap (s0_2 * 6364136223846793005)) + 1442695040888963407)))).trans hx210_0
     (try have hy210_0 := fun (n_ : Nat) => (show (((w.drewN n_).setCell ⟨g, 2, none⟩ (.int .u64 (IntKind.u64.wrap ((IntKind.u64.wrap (s0_2 * 6364136223846793005)) + 1442695040888963407))))).cell? _ = some _ from hx210_0))
     clear hn210_0
     replace p210 := eq_true p210
     replace q210 := eq_true q210
     go_enter Try.func91, Try.ntmps91
     go_wp2
     repeat (go_quiet (fail); try go_wp2)
     go_ret
     exact ⟨by first | rfl | (simp [errW_none, errW_some] <;> rfl) | (simp [*, errW_none, errW_some] <;> rfl), by exact IsS111.ig HI0, by exact Law.bi HB (IsS111.ge HI0.out), by exact Law.kg HK⟩
   ·rw [if_neg c5] at H
    exact absurd H (by simp)
  ·rw [if_neg c4] at H
   have c4b0 : decide (s0_1 < (s0_0.length : Int)) = false := decide_eq_false c4
   clear c4
   by_cases c8 : (IntKind.u64.wrap (a1)) = 0
   ·rw [if_pos c8] at H
    exact absurd H (by simp)
   ·rw [if_neg c8] at H
    have c8b0 : ((IntKind.u64.wrap (a1)) == 0) = false := beq_eq_false_iff_ne.mpr c8
    have c8b1 : ((IntKind.u64.wrap (a1)) != 0) = true := bne_iff_ne.mpr c8
    simp only [Option.some.injEq, Prod.mk.injEq] at H
    obtain ⟨rfl, rfl, rfl⟩ := H
    obtain ⟨ASz9_0, cSz9_0, HGz9, hgz9, HSz9_0⟩ := HI0.out
    have hcz9_0 := cellS111_0 HGz9
    have hcz9_1 := cellS111_1 HGz9
    have hcz9_2 := cellS111_2 HGz9
    have hfz9_1 := blk_frozen HGz9 1
    have hfz9_2 := blk_frozen HGz9 2
    clear HGz9 hgz9
    go_enter Try.func91, Try.ntmps91
    go_wp2
    repeat (go_quiet (fail); try go_wp2)
    go_ret
    exact ⟨by first | rfl | (simp [errW_none, errW_some] <;> rfl) | (simp [*, errW_none, errW_some] <;> rfl), by exact IsS111.ig HI0, by exact Law.bi HB (IsS111.ge HI0.out), by exact Law.kg HK⟩

/-! ### spec_l1DrawBlocks: function 104 -/
def spec_l1DrawBlocks.f (s0_0 : List Int) (s0_1 : Int) (s0_2 : Int) : Option (Int × Int × Int) := (spec_l1Next.f s0_0 s0_1 s0_2 20).bind fun bt211 => (if bt211.1 = 0 then (some (512, bt211.2.1, bt211.2.2)) else (if bt211.1 = 1 then (some (8, bt211.2.1, bt211.2.2)) else (if bt211.1 < 5 then ((spec_l1Next.f s0_0 bt211.2.1 bt211.2.2 200).bind fun bt214 => (some (wrap64 (60 + bt214.1), bt214.2.1, bt214.2.2))) else ((spec_l1Next.f s0_0 bt211.2.1 bt211.2.2 40).bind fun bt217 => (some (wrap64 (10 + bt217.1), bt217.2.1, bt217.2.2))))))
set_option maxHeartbeats 8000000 in
set_option maxRecDepth 100000 in
theorem spec_l1DrawBlocks.calls (g : Nat) (s0_0 : List Int) (s0_1 : Int) (s0_2 : Int) (r1 : Int) (r2 : Int) (r3 : Int) (w0 w : World) (hI : IsS111 w0 w g s0_0 s0_1 s0_2) (hB : Below w0.heap.size w0 w) (h : spec_l1DrawBlocks.f s0_0 s0_1 s0_2 = some (r1, r2, r3)) :
  Calls Try.prog 104 #[.pointer (some ⟨g, 0, none⟩)] w fun e w' => e = .returned (.int .i64 r1) ∧ IsS111 w0 w' g s0_0 r2 r3 ∧ Below w0.heap.size w0 w' ∧ KeepBut w w' g none := by
 have HI0 := Aside0.mk hI
 have HK := Aside0.mk (KeepBut.refl w g none)
 have HL := Aside0.mk hB.size
 clear hI
 have HW0 := Aside0.mk hB.size
 have HB := Aside0.mk hB
 clear hB
 have H : ((spec_l1Next.f s0_0 s0_1 s0_2 20).bind fun bt211 => (if bt211.1 = 0 then (some (512, bt211.2.1, bt211.2.2)) else (if bt211.1 = 1 then (some (8, bt211.2.1, bt211.2.2)) else (if bt211.1 < 5 then ((spec_l1Next.f s0_0 bt211.2.1 bt211.2.2 200).bind fun bt214 => (some (wrap64 (60 + bt214.1), bt214.2.1, bt214.2.2))) else ((spec_l1Next.f s0_0 bt211.2.1 bt211.2.2 40).bind fun bt217 => (some (wrap64 (10 + bt217.1), bt217.2.1, bt217.2.2))))))) = some (r1, r2, r3) := h
 clear h
 replace H := Option.bind_eq_some_iff.mp H
 obtain ⟨⟨t211, t212, t213⟩, A20, H⟩ := H
 replace H : (if t211 = 0 then (some (512, t212, t213)) else (if t211 = 1 then (some (8, t212, t213)) else (if t211 < 5 then ((spec_l1Next.f s0_0 t212 t213 200).bind fun bt214 => (some (wrap64 (60 + bt214.1), bt214.2.1, bt214.2.2))) else ((spec_l1Next.f s0_0 t212 t213 40).bind fun bt217 => (some (wrap64 (10 + bt217.1), bt217.2.1, bt217.2.2)))))) = some (r1, r2, r3) := H
 have A2 := Aside0.mk A20
 clear A20
 by_cases c3 : t211 = 0
 ·rw [if_pos c3] at H
  have c3b0 : (t211 == 0) = true := beq_iff_eq.mpr c3
  have c3b1 : (t211 != 0) = false := bne_eq_false_iff_eq.mpr c3
  clear c3
  simp only [Option.some.injEq, Prod.mk.injEq] at H
  obtain ⟨rfl, rfl, rfl⟩ := H
  go_enter Try.func104, Try.ntmps104
  go_wp2_with (first | ((with_reducible refine gate_callee (f := 91) rfl ?_); refine goesL_ (some 5) rfl rfl Try.func91 (by kernel_rfl) rfl #[.pointer (some ⟨g, 0, none⟩), .int .i64 20] rfl (by (try simp only [List.map_toArray, List.map_cons, List.map_nil]); first | done | rfl | (simp only [List.length_drop, List.length_take]; rfl)) ?_; (with_reducible refine (spec_l1Next.calls g s0_0 s0_1 s0_2 20 t211 t212 t213 w0 _ ?side1 ?side2 A2.out).mono ?_); (case side1 => exact IsS111.ig HI0); (case side2 => exact Law.bi HB (IsS111.ge HI0.out)); rintro e w4 ⟨rfl, hi, hb, hk⟩; refine ⟨_, rfl, ?_⟩; replace HK := Aside0.mk (KeepBut.trans (Law.kg HK) hk (.inl rfl)); replace HB := Aside0.mk (hb); replace HI0 := Aside0.mk (hi); (try clear hb); (try clear hk); (try clear hi)))
  go_ret
  exact ⟨by first | rfl | (simp [errW_none, errW_some] <;> rfl) | (simp [*, errW_none, errW_some] <;> rfl), by exact IsS111.ig HI0, by exact Law.bi HB (IsS111.ge HI0.out), by exact Law.kg HK⟩
 ·rw [if_neg c3] at H
  have c3b0 : (t211 == 0) = false := beq_eq_false_iff_ne.mpr c3
  have c3b1 : (t211 != 0) = true := bne_iff_ne.mpr c3
  by_cases c5 : t211 = 1
  ·rw [if_pos c5] at H
   have c5b0 : (t211 == 1) = true := beq_iff_eq.mpr c5
   have c5b1 : (t211 != 1) = false := bne_eq_false_iff_eq.mpr c5
   clear c5
   simp only [Option.some.injEq, Prod.mk.injEq] at H
   obtain ⟨rfl, rfl, rfl⟩ := H
   go_enter Try.func104, Try.ntmps104
   go_wp2_with (first | ((with_reducible refine gate_callee (f := 91) rfl ?_); refine goesL_ (some 5) rfl rfl Try.func91 (by kernel_rfl) rfl #[.pointer (some ⟨g, 0, none⟩), .int .i64 20] rfl (by (try simp only [List.map_toArray, List.map_cons, List.map_nil]); first | done | rfl | (simp only [List.length_drop, List.length_take]; rfl)) ?_; (with_reducible refine (spec_l1Next.calls g s0_0 s0_1 s0_2 20 t211 t212 t213 w0 _ ?side1 ?side2 A2.out).mono ?_); (case side1 => exact IsS111.ig HI0); (case side2 => exact Law.bi HB (IsS111.ge HI0.out)); rintro e w6 ⟨rfl, hi, hb, hk⟩; refine ⟨_, rfl, ?_⟩; replace HK := Aside0.mk (KeepBut.trans (Law.kg HK) hk (.inl rfl)); replace HB := Aside0.mk (hb); replace HI0 := Aside0.mk (hi); (try clear hb); (try clear hk); (try clear hi)))
   go_ret
   exact ⟨by first | rfl | (simp [errW_none, errW_some] <;> rfl) | (simp [*, errW_none, errW_some] <;> rfl), by exact IsS111.ig HI0, by exact Law.bi HB (IsS111.ge HI0.out), by exact Law.kg HK⟩
  ·rw [if_neg c5] at H
   have c5b0 : (t211 == 1) = false := beq_eq_false_iff_ne.mpr c5
   have c5b1 : (t211 != 1) = true := bne_iff_ne.mpr c5
   by_cases c7 : t211 < 5
   ·rw [if_pos c7] at H
    have c7b0 : decide (t211 < 5) = true := decide_eq_true c7
    clear c7
    replace H := Option.bind_eq_some_iff.mp H
    obtain ⟨⟨t214, t215, t216⟩, A80, H⟩ := H
    replace H : (some (wrap64 (60 + t214), t215, t216)) = some (r1, r2, r3) := H
    have A8 := Aside0.mk A80
    clear A80
    simp only [Option.some.injEq, Prod.mk.injEq] at H
    obtain ⟨rfl, rfl, rfl⟩ := H
    go_enter Try.func104, Try.ntmps104
    go_wp2_with (first | ((with_reducible refine gate_callee (f := 91) rfl ?_); refine goesL_ (some 5) rfl rfl Try.func91 (by kernel_rfl) rfl #[.pointer (some ⟨g, 0, none⟩), .int .i64 20] rfl (by (try simp only [List.map_toArray, List.map_cons, List.map_nil]); first | done | rfl | (simp only [List.length_drop, List.length_take]; rfl)) ?_; (with_reducible refine (spec_l1Next.calls g s0_0 s0_1 s0_2 20 t211 t212 t213 w0 _ ?side1 ?side2 A2.out).mono ?_); (case side1 => exact IsS111.ig HI0); (case side2 => exact Law.bi HB (IsS111.ge HI0.out)); rintro e w9 ⟨rfl, hi, hb, hk⟩; refine ⟨_, rfl, ?_⟩; replace HK := Aside0.mk (KeepBut.trans (Law.kg HK) hk (.inl rfl)); replace HB := Aside0.mk (hb); replace HI0 := Aside0.mk (hi); (try clear hb); (try clear hk); (try clear hi)) | ((with_reducible refine gate_callee (f := 91) rfl ?_); refine goesL_ (some 13) rfl rfl Try.func91 (by kernel_rfl) rfl #[.pointer (some ⟨g, 0, none⟩), .int .i64 200] rfl (by (try simp only [List.map_toArray, List.map_cons, List.map_nil]); first | done | rfl | (simp only [List.length_drop, List.length_take]; rfl)) ?_; (with_reducible refine (spec_l1Next.calls g s0_0 t212 t213 200 t214 t215 t216 w0 _ ?side1 ?side2 A8.out).mono ?_); (case side1 => exact IsS111.ig HI0); (case side2 => exact Law.bi HB (IsS111.ge HI0.out)); rintro e w10 ⟨rfl, hi, hb, hk⟩; refine ⟨_, rfl, ?_⟩; replace HK := Aside0.mk (KeepBut.trans (Law.kg HK) hk (.inl rfl)); replace HB := Aside0.mk (hb); replace HI0 := Aside0.mk (hi); (try clear hb); (try clear hk); (try clear hi)))
    go_ret
    exact ⟨by first | rfl | (simp [errW_none, errW_some] <;> rfl) | (simp [*, errW_none, errW_some] <;> rfl), by exact IsS111.ig HI0, by exact Law.bi HB (IsS111.ge HI0.out), by exact Law.kg HK⟩
   ·rw [if_neg c7] at H
    have c7b0 : decide (t211 < 5) = false := decide_eq_false c7
    clear c7
    replace H := Option.bind_eq_some_iff.mp H
    obtain ⟨⟨t217, t218, t219⟩, A110, H⟩ := H
    replace H : (some (wrap64 (10 + t217), t218, t219)) = some (r1, r2, r3) := H
    have A11 := Aside0.mk A110
    clear A110
    simp only [Option.some.injEq, Prod.mk.injEq] at H
    obtain ⟨rfl, rfl, rfl⟩ := H
    go_enter Try.func104, Try.ntmps104
    go_wp2_with (first | ((with_reducible refine gate_callee (f := 91) rfl ?_); refine goesL_ (some 5) rfl rfl Try.func91 (by kernel_rfl) rfl #[.pointer (some ⟨g, 0, none⟩), .int .i64 20] rfl (by (try simp only [List.map_toArray, List.map_cons, List.map_nil]); first | done | rfl | (simp only [List.length_drop, List.length_take]; rfl)) ?_; (with_reducible refine (spec_l1Next.calls g s0_0 s0_1 s0_2 20 t211 t212 t213 w0 _ ?side1 ?side2 A2.out).mono ?_); (case side1 => exact IsS111.ig HI0); (case side2 => exact Law.bi HB (IsS111.ge HI0.out)); rintro e w12 ⟨rfl, hi, hb, hk⟩; refine ⟨_, rfl, ?_⟩; replace HK := Aside0.mk (KeepBut.trans (Law.kg HK) hk (.inl rfl)); replace HB := Aside0.mk (hb); replace HI0 := Aside0.mk (hi); (try clear hb); (try clear hk); (try clear hi)) | ((with_reducible refine gate_callee (f := 91) rfl ?_); refine goesL_ (some 16) rfl rfl Try.func91 (by kernel_rfl) rfl #[.pointer (some ⟨g, 0, none⟩), .int .i64 40] rfl (by (try simp only [List.map_toArray, List.map_cons, List.map_nil]); first | done | rfl | (simp only [List.length_drop, List.length_take]; rfl)) ?_; (with_reducible refine (spec_l1Next.calls g s0_0 t212 t213 40 t217 t218 t219 w0 _ ?side1 ?side2 A11.out).mono ?_); (case side1 => exact IsS111.ig HI0); (case side2 => exact Law.bi HB (IsS111.ge HI0.out)); rintro e w13 ⟨rfl, hi, hb, hk⟩; refine ⟨_, rfl, ?_⟩; replace HK := Aside0.mk (KeepBut.trans (Law.kg HK) hk (.inl rfl)); replace HB := Aside0.mk (hb); replace HI0 := Aside0.mk (hi); (try clear hb); (try clear hk); (try clear hi)))
    go_ret
    exact ⟨by first | rfl | (simp [errW_none, errW_some] <;> rfl) | (simp [*, errW_none, errW_some] <;> rfl), by exact IsS111.ig HI0, by exact Law.bi HB (IsS111.ge HI0.out), by exact Law.kg HK⟩

end Go.Proofs.Ytbimmmmjdimebaa.PFnPlan
