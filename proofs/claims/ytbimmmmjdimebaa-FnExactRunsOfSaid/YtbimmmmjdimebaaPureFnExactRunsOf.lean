/- The law FnExactRunsOf: of every list of int64 the program's RunsOf answers what the reference answers. No condition. -/
import Derived.Test.YtbimmmmjdimebaaPFnExactRunsOfx5
import Derived.Test.YtbimmmmjdimebaaPlain
import Derived.Test.YtbimmmmjdimebaaCounts
namespace Go.Proofs.Ytbimmmmjdimebaa.Pure
open Go.RowKit Go.Proofs.Ytbimmmmjdimebaa.PFnExactRunsOf Go.Proofs.YtbimmmmjdimebaaW.PrintWords Go.Proofs.YtbimmmmjdimebaaW.PrintLast Go.Proofs.Ytbimmmmjdimebaa.Plain
set_option linter.unusedVariables false

theorem to_ev (x : List Int) (hb : x.length ≤ 1048576) : Ev (fun k => laws_toInt64S.f k x) x := copy_ev (F := laws_toInt64S.l0) (fun _ _ _ _ => rfl) _ (by decide) x hb
theorem eq_refl_ev (x : List Int) (hb : x.length ≤ 1048576) : Ev (fun k => laws_eqInt64S.f k x x) true := eq_ev (F := laws_eqInt64S.l0) (fun _ _ _ _ => rfl) x hb

theorem mk_ev (x : List Int) (m : Nat) (hm : m ≤ 1099511627776) (hb : x.length ≤ 1048576) : Ev (fun k => laws_markInt64S.f k x (m : Int)) (((m + x.length : Nat) : Int), marks id m x.length) := mark_ev (F := laws_markInt64S.l0) (c := id) (fun _ _ _ _ => rfl) m x hm hb

theorem one_ev (l : List Int) : Ev (fun k => spec_l3Check.f k l) (check1 l) := l3Check_ev (B := spec_l1BlocksOK.f) (fun _ => rfl) (F := spec_l3Check.l0) (fun _ _ _ => rfl) l

theorem bad_one_ev (a : List Int) : Ev (fun k => impl_badCounts.f k [a]) (check1 a) := by
  rw [← badL_one]
  exact bad_ev (F0 := impl_badCounts.l0) (F1 := impl_badCounts.l1) (F2 := impl_badCounts.l2) (F3 := impl_badCounts.l3) (fun _ _ _ _ _ => rfl) (fun _ _ _ _ _ => rfl) (fun _ _ _ _ _ _ _ _ => rfl) (fun _ _ _ _ => rfl) [a] (by simp)

/-! Runs. -/
abbrev Rn := S89
def eqlen (c : Int) : List Int → Nat
  | [] => 0
  | x :: t => if x = c then eqlen c t + 1 else 0
/-- The runs of what is left, behind a value prev at block b - 1. -/
def runsF (prev : Int) (b : Nat) : List Int → List Rn
  | [] => []
  | c :: t => if c = 0 then runsF 0 (b + 1) t else if c = prev then runsF c (b + 1) t else ⟨(b : Int), ((eqlen c t + 1 : Nat) : Int), c⟩ :: runsF c (b + 1) t
def runs (l : List Int) : List Rn := runsF 0 0 l
theorem runsF_length (l : List Int) : ∀ (p : Int) (b : Nat), (runsF p b l).length ≤ l.length := by
  induction l with
  | nil => intro p b; simp [runsF]
  | cons c t ih =>
    intro p b
    unfold runsF
    split
    · have := ih 0 (b + 1); simp only [List.length_cons]; omega
    · split
      · have := ih c (b + 1); simp only [List.length_cons]; omega
      · have := ih c (b + 1); simp only [List.length_cons]; omega
theorem runs_length (l : List Int) : (runs l).length ≤ l.length := runsF_length l 0 0
theorem eqlen_le (c : Int) (l : List Int) : eqlen c l ≤ l.length := by
  induction l with
  | nil => simp [eqlen]
  | cons x t ih => unfold eqlen; split <;> simp only [List.length_cons] <;> omega
theorem dropc (l : List Int) (i : Nat) (h : i < l.length) : l.drop i = rd l (i : Int) :: l.drop (i + 1) := by rw [List.drop_eq_getElem_cons h, rd_eq l i h]

/-! The reference's runs. -/
theorem spec_inner (l : List Int) (hl : l.length ≤ 1048576) (x3 : List Rn) (h3 : x3.length ≤ 1048576) (i : Nat) (hi : i < l.length) (r : List Rn)
    (hr : ∀ n : Nat, n = eqlen (rd l (i : Int)) (l.drop i) → Ev (fun k => spec_l3Runs.l0 k l (x3 ++ [⟨(i : Int), (n : Int), rd l (i : Int)⟩]) ((i + 1 : Nat) : Int)) r) (d : Nat) :
    ∀ (j n : Nat), j + d = l.length → n + eqlen (rd l (i : Int)) (l.drop j) = eqlen (rd l (i : Int)) (l.drop i) → Ev (fun k => spec_l3Runs.l1 k l x3 (i : Int) (n : Int) (j : Int)) r := by
  induction d with
  | zero =>
    intro j n hj hn
    refine Ev.succ ?_
    simp only [spec_l3Runs.l1, wr1 i (by omega)]
    refine Ev.neg (by omega) (Ev.pos (by omega) (Ev.pos (by omega) (Ev.pos (by omega) ?_)))
    rw [List.drop_of_length_le (i := j) (by omega)] at hn
    exact hr n (by simpa [eqlen] using hn)
  | succ d ih =>
    intro j n hj hn
    have hnl : n ≤ l.length := by
      have := eqlen_le (rd l (i : Int)) (l.drop i)
      rw [List.length_drop] at this
      omega
    refine Ev.succ ?_
    simp only [spec_l3Runs.l1, wr1 i (by omega), wr1 j (by omega), wr1 n (by omega)]
    refine Ev.pos (by omega) (Ev.pos (by omega) (Ev.pos (by omega) (Ev.pos (by omega) ?_)))
    rw [dropc l j (by omega)] at hn
    by_cases h : rd l (j : Int) = rd l (i : Int)
    · refine Ev.pos h ?_
      rw [eqlen, if_pos h] at hn
      exact ih (j + 1) (n + 1) (by omega) (by omega)
    · refine Ev.neg h (Ev.pos (by omega) ?_)
      rw [eqlen, if_neg h] at hn
      exact hr n (by omega)

theorem spec_outer (l : List Int) (hl : l.length ≤ 1048576) (d : Nat) : ∀ (i : Nat) (x3 : List Rn) (p : Int), i + d = l.length → x3.length ≤ i → p = (if i = 0 then 0 else rd l ((i : Int) - 1)) →
    Ev (fun k => spec_l3Runs.l0 k l x3 (i : Int)) (x3 ++ runsF p i (l.drop i)) := by
  induction d with
  | zero =>
    intro i x3 p hi h3 hp
    refine Ev.succ ?_
    simp only [spec_l3Runs.l0]
    refine Ev.neg (by omega) (Ev.const ?_)
    rw [List.drop_of_length_le (by omega)]; simp [runsF]
  | succ d ih =>
    intro i x3 p hi h3 hp
    have hnext : ∀ y : List Rn, y.length ≤ i + 1 → Ev (fun k => spec_l3Runs.l0 k l y ((i + 1 : Nat) : Int)) (y ++ runsF (rd l (i : Int)) (i + 1) (l.drop (i + 1))) := by
      intro y hy
      refine ih (i + 1) y _ (by omega) hy ?_
      rw [if_neg (by omega)]; congr 1; omega
    rw [dropc l i (by omega)]
    have hT : Ev (fun k => spec_l3Runs.j1 k l x3 (i : Int) true) (x3 ++ runsF (rd l (i : Int)) (i + 1) (l.drop (i + 1))) := by
      refine Ev.succ ?_
      simp only [spec_l3Runs.j1, wr1 i (by omega)]
      exact Ev.pos trivial (hnext x3 (by omega))
    have hF : Ev (fun k => spec_l3Runs.j1 k l x3 (i : Int) false) (x3 ++ ⟨(i : Int), ((eqlen (rd l (i : Int)) (l.drop (i + 1)) + 1 : Nat) : Int), rd l (i : Int)⟩ :: runsF (rd l (i : Int)) (i + 1) (l.drop (i + 1))) := by
      refine Ev.succ ?_
      simp only [spec_l3Runs.j1]
      refine Ev.neg (by simp) ?_
      refine spec_inner l hl x3 (by omega) i (by omega) _ ?_ (d + 1) i 0 (by omega) (by omega)
      intro n hn
      have := hnext (x3 ++ [⟨(i : Int), (n : Int), rd l (i : Int)⟩]) (by simp; omega)
      rw [dropc l i (by omega), eqlen, if_pos rfl] at hn
      rw [hn] at this ⊢
      simpa using this
    refine Ev.succ ?_
    simp only [spec_l3Runs.l0]
    refine Ev.pos (by omega) (Ev.pos (by omega) ?_)
    by_cases h0 : rd l (i : Int) = 0
    · refine Ev.pos h0 ?_
      rw [runsF, if_pos h0]
      rw [h0] at hT
      exact hT
    · refine Ev.neg h0 ?_
      rw [runsF, if_neg h0]
      by_cases hi0 : i = 0
      · refine Ev.neg (by omega) ?_
        rw [if_neg (by rw [hp, if_pos hi0]; exact h0)]
        exact hF
      · have e : wrap64 ((i : Int) - 1) = (i : Int) - 1 := wr (by omega) (by omega)
        simp only [e]
        refine Ev.pos (by omega) (Ev.pos (by omega) (Ev.pos (by omega) ?_))
        rw [if_neg hi0] at hp
        by_cases h1 : rd l ((i : Int) - 1) = rd l (i : Int)
        · rw [if_pos (by rw [hp, h1])]
          have : (rd l ((i : Int) - 1) == rd l (i : Int)) = true := by simp [h1]
          rw [this]; exact hT
        · rw [if_neg (by rw [hp]; exact Ne.symm h1)]
          have : (rd l ((i : Int) - 1) == rd l (i : Int)) = false := by simp [h1]
          rw [this]; exact hF
theorem spec_runs_ev (l : List Int) (hl : l.length ≤ 1048576) : Ev (fun k => spec_l3Runs.f k l) (runs l) := by
  have := spec_outer l hl l.length 0 [] 0 (by omega) (by simp) (by simp)
  unfold spec_l3Runs.f
  simpa [runs] using this

/-! The program's runs. -/
/-- What the program's loop comes to from a list of runs on. -/
def closing (out : List Rn) (b : Nat) (l : List Int) : List Rn :=
  match out.getLast? with
  | some q => if q.f0 + q.f1 = (b : Int) then out.dropLast ++ ⟨q.f0, q.f1 + (eqlen q.f2 l : Int), q.f2⟩ :: runsF q.f2 b l else out ++ runsF 0 b l
  | none => out ++ runsF 0 b l
theorem rd_last (x : List Rn) (h : 0 < x.length) : x.getLast? = some (rd_T89 x ((x.length : Int) - 1)) := by
  unfold rd_T89
  have e : ((x.length : Int) - 1).toNat = x.length - 1 := by omega
  rw [e, List.getLast?_eq_getElem?]
  have : x.length - 1 < x.length := by omega
  simp [this]
theorem impl_outer (l : List Int) (hl : l.length ≤ 512) (d : Nat) : ∀ (i : Nat) (x : List Rn), i + d = l.length → x.length ≤ i → (∀ q, x.getLast? = some q → 0 ≤ q.f0 ∧ 0 ≤ q.f1 ∧ q.f0 + q.f1 ≤ i ∧ q.f2 ≠ 0) →
    Ev (fun k => impl_runsOf.l0 k x l (l.length : Int) (i : Int)) (closing x i (l.drop i)) := by
  induction d with
  | zero =>
    intro i x hi h3 hq
    refine Ev.succ ?_
    simp only [impl_runsOf.l0]
    refine Ev.neg (by omega) (Ev.const ?_)
    rw [List.drop_of_length_le (by omega)]
    unfold closing
    cases hx : x.getLast? with
    | none => simp [runsF]
    | some q =>
      have hd : x.dropLast ++ [q] = x := by
        have hne : x ≠ [] := by rintro rfl; simp at hx
        rw [List.getLast?_eq_some_getLast hne] at hx
        injection hx with hx
        rw [← hx]; exact List.dropLast_concat_getLast hne
      simp only [runsF, eqlen, List.append_nil]
      split
      · simp [hd]
      · rfl
  | succ d ih =>
    intro i x hi h3 hq
    have hdl : ∀ q, x.getLast? = some q → x.dropLast ++ [q] = x := by
      intro q hx
      have hne : x ≠ [] := by rintro rfl; simp at hx
      rw [List.getLast?_eq_some_getLast hne] at hx
      injection hx with hx
      rw [← hx]; exact List.dropLast_concat_getLast hne
    refine Ev.succ ?_
    simp only [impl_runsOf.l0, wr1 i (by omega)]
    refine Ev.pos (by omega) (Ev.pos (by omega) (Ev.pos (by omega) ?_))
    rw [dropc l i (by omega)]
    by_cases h0 : rd l (i : Int) = 0
    · refine Ev.pos h0 ?_
      have := ih (i + 1) x (by omega) (by omega) (fun q hx => by have := hq q hx; omega)
      have e : closing x i (rd l (i : Int) :: l.drop (i + 1)) = closing x (i + 1) (l.drop (i + 1)) := by
        unfold closing
        cases hx : x.getLast? with
        | none => simp [runsF, h0]
        | some q =>
          obtain ⟨_, _, hq2, hq3⟩ := hq q hx
          simp only []
          rw [if_neg (show ¬ q.f0 + q.f1 = ((i + 1 : Nat) : Int) by omega)]
          split
          · rw [eqlen, if_neg (by rw [h0]; exact Ne.symm hq3), runsF, if_pos h0]
            have := hdl q hx
            calc x.dropLast ++ (⟨q.f0, q.f1 + ((0 : Nat) : Int), q.f2⟩ :: runsF 0 (i + 1) (l.drop (i + 1))) = (x.dropLast ++ [q]) ++ runsF 0 (i + 1) (l.drop (i + 1)) := by simp
              _ = _ := by rw [this]
          · rw [runsF, if_pos h0]
      rw [e]; exact this
    · refine Ev.neg h0 ?_
      have e : wrap64 ((x.length : Int) - 1) = (x.length : Int) - 1 := wr (by omega) (by omega)
      simp only [e]
      have happ : (∀ q, x.getLast? = some q → q.f0 + q.f1 = (i : Int) → q.f2 ≠ rd l (i : Int)) → Ev (fun k => impl_runsOf.l0 k (x ++ [(⟨(i : Int), 1, rd l (i : Int)⟩ : Rn)]) l (l.length : Int) ((i + 1 : Nat) : Int)) (closing x i (rd l (i : Int) :: l.drop (i + 1))) := by
        intro hno
        have := ih (i + 1) (x ++ [(⟨(i : Int), 1, rd l (i : Int)⟩ : Rn)]) (by omega) (by simp; omega) (fun q hx => by
          simp at hx; subst hx; exact ⟨by show (0 : Int) ≤ (i : Int); omega, by show (0 : Int) ≤ 1; omega, by show (i : Int) + 1 ≤ ((i + 1 : Nat) : Int); omega, h0⟩)
        have e2 : closing (x ++ [(⟨(i : Int), 1, rd l (i : Int)⟩ : Rn)]) (i + 1) (l.drop (i + 1)) = x ++ ⟨(i : Int), ((eqlen (rd l (i : Int)) (l.drop (i + 1)) + 1 : Nat) : Int), rd l (i : Int)⟩ :: runsF (rd l (i : Int)) (i + 1) (l.drop (i + 1)) := by
          unfold closing
          simp only [List.getLast?_append, List.getLast?_singleton, Option.some_or, List.dropLast_concat]
          rw [if_pos (by omega)]
          congr 2
          congr 1
          omega
        have e3 : closing x i (rd l (i : Int) :: l.drop (i + 1)) = x ++ ⟨(i : Int), ((eqlen (rd l (i : Int)) (l.drop (i + 1)) + 1 : Nat) : Int), rd l (i : Int)⟩ :: runsF (rd l (i : Int)) (i + 1) (l.drop (i + 1)) := by
          unfold closing
          cases hx : x.getLast? with
          | none => simp only []; rw [runsF, if_neg h0, if_neg h0]
          | some q =>
            simp only []
            split
            · rename_i ho
              have hne := hno q hx ho
              rw [eqlen, if_neg (Ne.symm hne), runsF, if_neg h0, if_neg (Ne.symm hne)]
              have := hdl q hx
              generalize (⟨(i : Int), ((eqlen (rd l (i : Int)) (l.drop (i + 1)) + 1 : Nat) : Int), rd l (i : Int)⟩ :: runsF (rd l (i : Int)) (i + 1) (l.drop (i + 1)) : List Rn) = rest
              calc x.dropLast ++ (⟨q.f0, q.f1 + ((0 : Nat) : Int), q.f2⟩ :: rest) = (x.dropLast ++ [q]) ++ rest := by simp
                _ = _ := by rw [this]
            · rw [runsF, if_neg h0, if_neg h0]
        rw [e3, ← e2]; exact this
      by_cases hx0 : x.length = 0
      · refine Ev.neg (by omega) (Ev.pos (by omega) (happ ?_))
        intro q hx
        have : x = [] := List.length_eq_zero_iff.1 hx0
        rw [this] at hx; simp at hx
      · have hlast := rd_last x (by omega)
        obtain ⟨q0, q1, q2, q3⟩ := hq _ hlast
        refine Ev.pos (by omega) (Ev.pos (by omega) (Ev.pos (by omega) ?_))
        generalize hQ : rd_T89 x ((x.length : Int) - 1) = q at *
        have e4 : wrap64 (q.f0 + q.f1) = q.f0 + q.f1 := wr (by omega) (by omega)
        have e5 : wrap64 (q.f1 + 1) = q.f1 + 1 := wr (by omega) (by omega)
        simp only [e4, e5]
        by_cases ho : q.f0 + q.f1 = (i : Int)
        · refine Ev.pos ho ?_
          by_cases hc : q.f2 = rd l (i : Int)
          · refine Ev.pos hc ?_
            have hset : x.set ((x.length : Int) - 1).toNat (⟨q.f0, q.f1 + 1, q.f2⟩ : Rn) = x.dropLast ++ [⟨q.f0, q.f1 + 1, q.f2⟩] := by
              have := hdl q hlast
              have hn : ((x.length : Int) - 1).toNat = x.dropLast.length := by rw [List.length_dropLast]; omega
              rw [hn]
              conv => lhs; rw [← this]
              simp
            rw [hset]
            have := ih (i + 1) (x.dropLast ++ [⟨q.f0, q.f1 + 1, q.f2⟩]) (by omega) (by simp; omega) (fun q' hx' => by
              simp at hx'; subst hx'; exact ⟨q0, by show (0 : Int) ≤ q.f1 + 1; omega, by show q.f0 + (q.f1 + 1) ≤ ((i + 1 : Nat) : Int); omega, q3⟩)
            have e2 : closing (x.dropLast ++ [⟨q.f0, q.f1 + 1, q.f2⟩]) (i + 1) (l.drop (i + 1)) = closing x i (rd l (i : Int) :: l.drop (i + 1)) := by
              unfold closing
              rw [hlast]
              simp only [List.getLast?_append, List.getLast?_singleton, Option.some_or, List.dropLast_concat]
              rw [if_pos (by omega), if_pos ho]
              rw [eqlen, if_pos hc.symm, runsF, if_neg h0, if_pos hc.symm]
              congr 2
              · congr 1
                omega
              · rw [hc]
            rw [← e2]; exact this
          · exact Ev.neg hc (Ev.pos (by omega) (happ (fun q' hx' _ => by rw [hlast] at hx'; injection hx' with hx'; rw [← hx']; exact hc)))
        · exact Ev.neg ho (Ev.pos (by omega) (happ (fun q' hx' ho' => by rw [hlast] at hx'; injection hx' with hx'; rw [← hx'] at ho'; exact absurd ho' ho)))
theorem impl_runs_ev (l : List Int) (hl : l.length ≤ 512) : Ev (fun k => impl_runsOf.f k l) (runs l) := by
  have := impl_outer l hl l.length 0 [] (by omega) (by simp) (by simp)
  unfold impl_runsOf.f
  simpa [runs, closing] using this

/-! Marks on runs. -/
def rmarks (m n : Nat) : List Rn := (List.range n).map fun i => ⟨((m + 3 * i : Nat) : Int), ((m + 3 * i + 1 : Nat) : Int), ((m + 3 * i + 2 : Nat) : Int)⟩
theorem rmarks_length (m n : Nat) : (rmarks m n).length = n := by simp [rmarks]
theorem rdR_eq (x : List Rn) (i : Nat) (h : i < x.length) : rd_T89 x (i : Int) = x[i] := by unfold rd_T89; simp [h]
theorem rmarks_get (m n i : Nat) (h : i < n) : rd_T89 (rmarks m n) (i : Int) = ⟨((m + 3 * i : Nat) : Int), ((m + 3 * i + 1 : Nat) : Int), ((m + 3 * i + 2 : Nat) : Int)⟩ := by
  rw [rdR_eq _ _ (by simpa [rmarks] using h)]; simp [rmarks]
theorem rset_get (x : List Rn) (i : Nat) (h : i < x.length) (v : Rn) : rd_T89 (x.set i v) (i : Int) = v := by
  rw [rdR_eq _ _ (by simpa using h)]; simp
theorem rset_take (x y : List Rn) (i : Nat) (hi : i < y.length) (hl : x.length = y.length) (hp : x.take i = y.take i) (v : Rn) (hv : v = rd_T89 y (i : Int)) : (x.set i v).take (i + 1) = y.take (i + 1) := by
  have hi3 : i < x.length := by omega
  rw [List.take_succ_eq_append_getElem (by simpa using hi3), List.take_succ_eq_append_getElem hi, List.take_set_of_le (Nat.le_refl _), hp, hv, rdR_eq _ _ hi]
  simp
theorem rmark_from (m n : Nat) (hm : m ≤ 1099511627776) (hn : n ≤ 1048576) (d : Nat) : ∀ (i : Nat) (x : List Rn), i + d = n → x.length = n → x.take i = (rmarks m n).take i → Ev (fun k => laws_markRunS.l0 k x ((m + 3 * i : Nat) : Int) (i : Int)) (((m + 3 * n : Nat) : Int), rmarks m n) := by
  induction d with
  | zero =>
    intro i x hi hl hp
    refine Ev.succ ?_
    simp only [laws_markRunS.l0]
    refine Ev.neg (by omega) (Ev.const ?_)
    obtain rfl : i = n := by omega
    rw [List.take_of_length_le (by omega), List.take_of_length_le (by rw [rmarks_length]; omega)] at hp
    rw [hp]
  | succ d ih =>
    intro i x hi hl hp
    refine Ev.succ ?_
    have e1 : wrap64 (((m + 3 * i : Nat) : Int) + 1) = ((m + 3 * i + 1 : Nat) : Int) := by rw [wr (by omega) (by omega)]; omega
    have e2 : wrap64 (((m + 3 * i + 1 : Nat) : Int) + 1) = ((m + 3 * i + 2 : Nat) : Int) := by rw [wr (by omega) (by omega)]; omega
    have e3 : wrap64 (((m + 3 * i + 2 : Nat) : Int) + 1) = ((m + 3 * (i + 1) : Nat) : Int) := by rw [wr (by omega) (by omega)]; omega
    simp only [laws_markRunS.l0, Int.toNat_natCast, Option.bind_some, e1, e2, e3, wr1 i (by omega)]
    refine Ev.pos (by omega) (Ev.pos (by omega) ?_)
    simp only [rset_get x i (by omega), List.set_set]
    refine ih (i + 1) _ (by omega) (by simpa using hl) ?_
    exact rset_take x (rmarks m n) i (by rw [rmarks_length]; omega) (by rw [rmarks_length]; omega) hp _ (rmarks_get m n i (by omega)).symm
theorem rmark_ev (x : List Rn) (m : Nat) (hm : m ≤ 1099511627776) (hb : x.length ≤ 1048576) : Ev (fun k => laws_markRunS.f k x (m : Int)) (((m + 3 * x.length : Nat) : Int), rmarks m x.length) :=
  rmark_from m x.length hm hb x.length 0 x (by omega) rfl (by simp)
theorem rheld_from (m n : Nat) (hm : m ≤ 1099511627776) (hn : n ≤ 1048576) (d : Nat) : ∀ (i : Nat), i + d = n → Ev (fun k => laws_heldRunS.l0 k (rmarks m n) ((m + 3 * i : Nat) : Int) (i : Int)) ((m + 3 * n : Nat) : Int) := by
  induction d with
  | zero =>
    intro i hi
    refine Ev.succ ?_
    simp only [laws_heldRunS.l0]
    refine Ev.neg (by rw [rmarks_length]; omega) (Ev.const ?_)
    congr 1; omega
  | succ d ih =>
    intro i hi
    refine Ev.succ ?_
    have e1 : wrap64 (((m + 3 * i : Nat) : Int) + 1) = ((m + 3 * i + 1 : Nat) : Int) := by rw [wr (by omega) (by omega)]; omega
    have e2 : wrap64 (((m + 3 * i + 1 : Nat) : Int) + 1) = ((m + 3 * i + 2 : Nat) : Int) := by rw [wr (by omega) (by omega)]; omega
    have e3 : wrap64 (((m + 3 * i + 2 : Nat) : Int) + 1) = ((m + 3 * (i + 1) : Nat) : Int) := by rw [wr (by omega) (by omega)]; omega
    simp only [laws_heldRunS.l0, e1, e2, e3, wr1 i (by omega), rmarks_get m n i (by omega)]
    exact Ev.pos (by rw [rmarks_length]; omega) (Ev.pos (by omega) (Ev.pos trivial (Ev.pos trivial (Ev.pos trivial (ih (i + 1) (by omega))))))
theorem rheld_ev (m n : Nat) (hm : m ≤ 1099511627776) (hb : n ≤ 1048576) : Ev (fun k => laws_heldRunS.f k (rmarks m n) (m : Int)) ((m + 3 * n : Nat) : Int) := rheld_from m n hm hb n 0 (by omega)

theorem req_from (x : List Rn) (hb : x.length ≤ 1048576) (d : Nat) : ∀ (i : Nat), i + d = x.length → Ev (fun k => laws_eqRunS.l0 k x x (i : Int)) true := by
  induction d with
  | zero =>
    intro i hi
    refine Ev.succ ?_
    simp only [laws_eqRunS.l0]
    exact Ev.neg (by omega) (Ev.const rfl)
  | succ d ih =>
    intro i hi
    refine Ev.succ ?_
    simp only [laws_eqRunS.l0, wr1 i (by omega)]
    refine Ev.pos (by omega) (Ev.pos (by omega) (Ev.pos (by omega) ?_))
    refine Ev.bind0 (a := true) (by simp [laws_eqRun.f]) (Ev.pos rfl (ih (i + 1) (by omega)))
theorem req_ev (x : List Rn) (hb : x.length ≤ 1048576) : Ev (fun k => laws_eqRunS.f k x x) true := by
  unfold laws_eqRunS.f
  exact Ev.pos rfl (req_from x hb x.length 0 (by omega))

/-- What both answer. -/
def told (a : List Int) : List Rn × Int := if check1 a = 0 then (runs a, 0) else ([], check1 a)
theorem check1_ok {a : List Int} (h : check1 a = 0) : 8 ≤ a.length ∧ a.length ≤ 512 := by
  unfold check1 at h
  split at h
  · simp at h
  · omega
theorem told_length (a : List Int) : (told a).1.length ≤ 512 := by
  unfold told
  split
  · rename_i h; have := runs_length a; have := check1_ok h; simp only []; omega
  · simp
theorem spec_ev (a : List Int) : Ev (fun k => spec_RunsOf.f k a) (told a) := by
  unfold spec_RunsOf.f told
  refine Ev.bind (one_ev a) ?_
  by_cases h : check1 a = 0
  · rw [if_pos h]
    exact Ev.pos h (Ev.bind (spec_runs_ev a (by have := check1_ok h; omega)) (Ev.const rfl))
  · rw [if_neg h]
    exact Ev.neg h (Ev.const rfl)
theorem impl_ev (a : List Int) : Ev (fun k => impl_RunsOf.f k a) (told a) := by
  unfold impl_RunsOf.f told
  refine Ev.bind (bad_one_ev a) ?_
  by_cases h : check1 a = 0
  · rw [if_pos h]
    exact Ev.pos h (Ev.bind (impl_runs_ev a (check1_ok h).2) (Ev.const rfl))
  · rw [if_neg h]
    exact Ev.neg h (Ev.const rfl)
theorem FnExactRunsOf : laws_FnExactRunsOf.Pure := by
  intro a _ _ _
  refine Ev.rounds (r := true) ?_
  unfold laws_FnExactRunsOf.f
  by_cases ha : (a.length : Int) > 1048576
  · exact Ev.pos ha (Ev.const rfl)
  have ta := to_ev a (by omega)
  have hl := told_length a
  have hq := req_ev (told a).1 (by omega)
  refine Ev.neg ha (Ev.bind ta (Ev.bind (spec_ev a) (Ev.bind ta (Ev.bind (impl_ev a) (Ev.bind hq (Ev.pos rfl ?_))))))
  refine Ev.succ ?_
  simp only [laws_FnExactRunsOf.j0]
  refine Ev.neg (by simp) (Ev.bind ta (Ev.bind (eq_refl_ev a (by omega)) (Ev.pos rfl ?_)))
  refine Ev.bind (mk_ev a 1 (by omega) (by omega)) (Ev.neg (by simp only []; omega) (Ev.bind hq (Ev.pos rfl ?_)))
  refine Ev.succ ?_
  simp only [laws_FnExactRunsOf.j1]
  refine Ev.neg (by simp) (Ev.bind (rmark_ev _ 1 (by omega) (by omega)) (Ev.bind (rheld_ev 1 _ (by omega) (by omega)) (Ev.neg (by omega) (Ev.pos rfl ?_))))
  exact Ev.bind ta (Ev.bind (impl_ev a) (Ev.bind hq (Ev.pos rfl (Ev.pos rfl (Ev.const rfl)))))

end Go.Proofs.Ytbimmmmjdimebaa.Pure
