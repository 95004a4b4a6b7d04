/- Plain lemmas of this session on count lists: what the checks of the program and of the reference come to. No condition. -/
import Derived.Test.YtbimmmmjdimebaaPlain
namespace Go.Proofs.Ytbimmmmjdimebaa.Plain
open Go.RowKit Go.Proofs.YtbimmmmjdimebaaW.PrintWords
set_option linter.unusedVariables false

def badNum (x : Int) : Bool := decide (x < 0) || decide (x > 65535)
/-- The code of one count list. -/
def check1 (l : List Int) : Int :=
  if (l.length : Int) < 8 ∨ 512 < (l.length : Int) then 1 else if l.any badNum then 2 else if rd l 0 ≠ 0 ∨ rd l 1 ≠ 0 then 5 else 0
/-- The code of two that go together. -/
def check2 (a b : List Int) : Int :=
  if (a.length : Int) < 8 ∨ 512 < (a.length : Int) ∨ a.length ≠ b.length then 1 else if a.any badNum ∨ b.any badNum then 2 else if rd a 0 ≠ 0 ∨ rd a 1 ≠ 0 ∨ rd b 0 ≠ 0 ∨ rd b 1 ≠ 0 then 5 else 0

theorem any_drop (l : List Int) (i : Nat) (h : i < l.length) : (l.drop i).any badNum = (badNum (rd l (i : Int)) || (l.drop (i + 1)).any badNum) := by
  rw [List.drop_eq_getElem_cons h, List.any_cons, rd_eq l i h]

/-- The reference's check from index i on. -/
theorem l3Check_from {F : Nat → List Int → Int → Option Int}
    (hF : ∀ k x0 x3, F (k + 1) x0 x3 = if x3 < (x0.length : Int) then (if 0 ≤ x3 then (if (rd x0 x3) < 0 then (some 2) else (if (rd x0 x3) > 65535 then (some 2) else (F k x0 (wrap64 (x3 + 1))))) else (none)) else (if 0 < (x0.length : Int) then (if (rd x0 0) = 0 then (if 1 < (x0.length : Int) then (if (rd x0 1) = 0 then (some 0) else (some 5)) else (none)) else (some 5)) else (none)))
    (l : List Int) (h8 : 8 ≤ l.length) (h9 : l.length ≤ 512) (d : Nat) : ∀ i : Nat, i + d = l.length →
      Ev (fun k => F k l (i : Int)) (if (l.drop i).any badNum then 2 else if rd l 0 ≠ 0 ∨ rd l 1 ≠ 0 then 5 else 0) := by
  induction d with
  | zero =>
    intro i hi
    refine Ev.succ ?_
    simp only [hF]
    refine Ev.neg (by omega) (Ev.pos (by omega) ?_)
    rw [List.drop_of_length_le (by omega), List.any_nil]
    by_cases h0 : rd l 0 = 0
    · refine Ev.pos h0 (Ev.pos (by omega) ?_)
      by_cases h1 : rd l 1 = 0
      · exact Ev.pos h1 (Ev.const (by simp [h0, h1]))
      · exact Ev.neg h1 (Ev.const (by simp [h0, h1]))
    · exact Ev.neg h0 (Ev.const (by simp [h0]))
  | succ d ih =>
    intro i hi
    refine Ev.succ ?_
    simp only [hF]
    refine Ev.pos (by omega) (Ev.pos (by omega) ?_)
    rw [any_drop l i (by omega)]
    by_cases h0 : rd l (i : Int) < 0
    · exact Ev.pos h0 (Ev.const (by simp [badNum, h0]))
    · refine Ev.neg h0 ?_
      by_cases h1 : rd l (i : Int) > 65535
      · exact Ev.pos h1 (Ev.const (by simp [badNum, h1]))
      · refine Ev.neg h1 ?_
        simp only [wr1 i (by omega)]
        have e : badNum (rd l (i : Int)) = false := by simp [badNum]; omega
        rw [e, Bool.false_or]
        exact ih (i + 1) (by omega)

theorem l3Check_ev {B : Int → Option Bool} (hB : ∀ n, B n = if n ≥ 8 then (some (decide (n ≤ 512))) else (some false)) {F : Nat → List Int → Int → Option Int}
    (hF : ∀ k x0 x3, F (k + 1) x0 x3 = if x3 < (x0.length : Int) then (if 0 ≤ x3 then (if (rd x0 x3) < 0 then (some 2) else (if (rd x0 x3) > 65535 then (some 2) else (F k x0 (wrap64 (x3 + 1))))) else (none)) else (if 0 < (x0.length : Int) then (if (rd x0 0) = 0 then (if 1 < (x0.length : Int) then (if (rd x0 1) = 0 then (some 0) else (some 5)) else (none)) else (some 5)) else (none)))
    (l : List Int) : Ev (fun k => (B (l.length : Int)).bind fun t => (if t = true then (F k l 0) else (some 1))) (check1 l) := by
  by_cases h8 : (l.length : Int) < 8
  · refine Ev.bind0 (a := false) (by rw [hB, if_neg (by omega)]) (Ev.neg (by simp) (Ev.const ?_))
    simp [check1, h8]
  · by_cases h9 : (l.length : Int) ≤ 512
    · refine Ev.bind0 (a := true) (by rw [hB, if_pos (by omega), decide_eq_true h9]) (Ev.pos rfl ?_)
      have := l3Check_from hF l (by omega) (by omega) l.length 0 (by omega)
      rw [List.drop_zero] at this
      unfold check1
      rw [if_neg (by omega)]
      exact this
    · refine Ev.bind0 (a := false) (by rw [hB, if_pos (by omega), decide_eq_false h9]) (Ev.neg (by simp) (Ev.const ?_))
      simp only [check1]; rw [if_pos (by omega)]

/-- The two codes of the reference make the one code. -/
theorem check2_of (a b : List Int) (h : a.length = b.length) :
    check2 a b = (if check1 a = 1 ∨ check1 b = 1 then 1 else if check1 a = 2 ∨ check1 b = 2 then 2 else if check1 a = 0 then check1 b else check1 a) := by
  unfold check2 check1
  rw [← h]
  by_cases h1 : (a.length : Int) < 8 ∨ 512 < (a.length : Int)
  · rw [if_pos (by omega), if_pos h1]; simp
  · rw [if_neg (by omega), if_neg h1, if_neg h1]
    cases ha : a.any badNum <;> cases hb : b.any badNum <;> simp
    by_cases h0 : rd a 0 = 0 <;> by_cases h2 : rd a 1 = 0 <;> by_cases h3 : rd b 0 = 0 <;> by_cases h4 : rd b 1 = 0 <;> simp [h0, h2, h3, h4]
    all_goals (repeat' split) <;> simp_all
theorem check1_cases (l : List Int) : check1 l = 0 ∨ check1 l = 1 ∨ check1 l = 2 ∨ check1 l = 5 := by
  unfold check1; repeat' split
  all_goals simp
theorem check2_ok {a b : List Int} (h : check2 a b = 0) : 8 ≤ a.length ∧ a.length ≤ 512 ∧ a.length = b.length ∧ a.any badNum = false ∧ b.any badNum = false ∧ rd a 0 = 0 ∧ rd a 1 = 0 ∧ rd b 0 = 0 ∧ rd b 1 = 0 := by
  unfold check2 at h
  split at h
  · simp at h
  · rename_i h1
    split at h
    · simp at h
    · rename_i h2
      split at h
      · simp at h
      · rename_i h3
        simp only [not_or, Decidable.not_not] at h1 h2 h3
        simp only [Bool.not_eq_true] at h2
        exact ⟨by omega, by omega, h1.2.2, h2.1, h2.2, h3.1, h3.2.1, h3.2.2.1, h3.2.2.2⟩
/-! The program's look at lists of counts. -/
def lenBad (n0 : Nat) (c : List Int) : Bool := decide ((c.length : Int) < 8) || decide ((c.length : Int) > 512) || decide (c.length ≠ n0)
theorem lenBad_iff {n0 : Nat} {c : List Int} : lenBad n0 c = true ↔ (c.length : Int) < 8 ∨ 512 < (c.length : Int) ∨ c.length ≠ n0 := by
  simp [lenBad, or_assoc]
def formBad (c : List Int) : Bool := decide (rd c 0 ≠ 0) || decide (rd c 1 ≠ 0)
def badF (ls : List (List Int)) : Int := if ls.any formBad then 5 else 0
def badR (ls : List (List Int)) : Int := if ls.any (fun c => c.any badNum) then 2 else badF ls
def badL (ls : List (List Int)) : Int := if ls.any (lenBad (ls.getD 0 []).length) then 1 else badR ls
theorem getD_nat (ls : List (List Int)) (i : Nat) : ls.getD ((i : Int).toNat) [] = ls.getD i [] := by rw [Int.toNat_natCast]
theorem getD_lt (ls : List (List Int)) (i : Nat) (h : i < ls.length) : ls.getD i [] = ls[i] := by simp [h]
theorem any_drop' {α : Type} (p : List Int → Bool) (ls : List (List Int)) (i : Nat) (h : i < ls.length) : (ls.drop i).any p = (p (ls.getD i []) || (ls.drop (i + 1)).any p) := by
  rw [List.drop_eq_getElem_cons h, List.any_cons, getD_lt ls i h]
section
variable {F0 F1 : Nat → List (List Int) → List (List Int) → Int → Int → Option Int} {F2 : Nat → List (List Int) → List (List Int) → Int → Int → List Int → Int → Int → Option Int} {F3 : Nat → List (List Int) → Int → Int → Option Int}
theorem bad3_from (hF : ∀ k x55 x56 x57, F3 (k + 1) x55 x56 x57 = if x57 < x56 then (if 0 ≤ x57 then (if x57 < (x55.length : Int) then (if 0 < ((x55.getD x57.toNat []).length : Int) then (if (rd (x55.getD x57.toNat []) 0) = 0 then (if 1 < ((x55.getD x57.toNat []).length : Int) then (if (rd (x55.getD x57.toNat []) 1) = 0 then (F3 k x55 x56 (wrap64 (x57 + 1))) else (some 5)) else (none)) else (some 5)) else (none)) else (none)) else (none)) else (some 0))
    (ls : List (List Int)) (hb : ls.length ≤ 1048576) (hl : ∀ c ∈ ls, 8 ≤ c.length) (d : Nat) : ∀ i : Nat, i + d = ls.length → Ev (fun k => F3 k ls (ls.length : Int) (i : Int)) (badF (ls.drop i)) := by
  induction d with
  | zero =>
    intro i hi
    refine Ev.succ ?_
    simp only [hF]
    refine Ev.neg (by omega) (Ev.const ?_)
    rw [List.drop_of_length_le (by omega)]; rfl
  | succ d ih =>
    intro i hi
    have h8 : 8 ≤ (ls.getD i []).length := hl _ (by rw [getD_lt ls i (by omega)]; exact List.getElem_mem _)
    refine Ev.succ ?_
    simp only [hF, Int.toNat_natCast]
    refine Ev.pos (by omega) (Ev.pos (by omega) (Ev.pos (by omega) (Ev.pos (by omega) ?_)))
    unfold badF
    rw [any_drop' (α := Nat) formBad ls i (by omega)]
    by_cases h0 : rd (ls.getD i []) 0 = 0
    · refine Ev.pos h0 (Ev.pos (by omega) ?_)
      by_cases h1 : rd (ls.getD i []) 1 = 0
      · refine Ev.pos h1 ?_
        have e : formBad (ls.getD i []) = false := by unfold formBad; rw [h0, h1]; rfl
        simp only [wr1 i (by omega)]
        rw [e, Bool.false_or]
        exact ih (i + 1) (by omega)
      · refine Ev.neg h1 (Ev.const ?_)
        have e : formBad (ls.getD i []) = true := by unfold formBad; simp only [ne_eq, h1, not_false_eq_true, decide_true, Bool.or_true]
        rw [e]; rfl
    · refine Ev.neg h0 (Ev.const ?_)
      have e : formBad (ls.getD i []) = true := by unfold formBad; simp only [ne_eq, h0, not_false_eq_true, decide_true, Bool.true_or]
      rw [e]; rfl

theorem bad2_from (hF : ∀ k x0 x35 x36 x37 x41 x42 x43, F2 (k + 1) x0 x35 x36 x37 x41 x42 x43 = if x43 < x42 then (if 0 ≤ x43 then (if x43 < (x41.length : Int) then (if (rd x41 x43) < 0 then (some 2) else (if (rd x41 x43) > 65535 then (some 2) else (F2 k x0 x35 x36 x37 x41 x42 (wrap64 (x43 + 1))))) else (none)) else (none)) else (F1 k x0 x35 x36 (wrap64 (x37 + 1))))
    (ls : List (List Int)) (j : Nat) (hj : j ≤ 1048576) (c : List Int) (hb : c.length ≤ 512) (r : Int) (hr : Ev (fun k => F1 k ls ls (ls.length : Int) ((j + 1 : Nat) : Int)) r) (d : Nat) :
    ∀ i : Nat, i + d = c.length → Ev (fun k => F2 k ls ls (ls.length : Int) (j : Int) c (c.length : Int) (i : Int)) (if (c.drop i).any badNum then 2 else r) := by
  induction d with
  | zero =>
    intro i hi
    refine Ev.succ ?_
    simp only [hF]
    refine Ev.neg (by omega) ?_
    rw [List.drop_of_length_le (by omega)]
    simp only [wr1 j (by omega)]
    exact hr
  | succ d ih =>
    intro i hi
    refine Ev.succ ?_
    simp only [hF]
    refine Ev.pos (by omega) (Ev.pos (by omega) (Ev.pos (by omega) ?_))
    rw [any_drop c i (by omega)]
    by_cases h0 : rd c (i : Int) < 0
    · exact Ev.pos h0 (Ev.const (by simp [badNum, h0]))
    · refine Ev.neg h0 ?_
      by_cases h1 : rd c (i : Int) > 65535
      · exact Ev.pos h1 (Ev.const (by simp [badNum, h1]))
      · refine Ev.neg h1 ?_
        simp only [wr1 i (by omega)]
        have e : badNum (rd c (i : Int)) = false := by simp [badNum]; omega
        rw [e, Bool.false_or]
        exact ih (i + 1) (by omega)

theorem bad1_from (hF1 : ∀ k x0 x35 x36 x37, F1 (k + 1) x0 x35 x36 x37 = if x37 < x36 then (if 0 ≤ x37 then (if x37 < (x35.length : Int) then (F2 k x0 x35 x36 x37 (x35.getD x37.toNat []) ((x35.getD x37.toNat []).length : Int) 0) else (none)) else (none)) else (F3 k x0 (x0.length : Int) 0))
    (hF2 : ∀ k x0 x35 x36 x37 x41 x42 x43, F2 (k + 1) x0 x35 x36 x37 x41 x42 x43 = if x43 < x42 then (if 0 ≤ x43 then (if x43 < (x41.length : Int) then (if (rd x41 x43) < 0 then (some 2) else (if (rd x41 x43) > 65535 then (some 2) else (F2 k x0 x35 x36 x37 x41 x42 (wrap64 (x43 + 1))))) else (none)) else (none)) else (F1 k x0 x35 x36 (wrap64 (x37 + 1))))
    (ls : List (List Int)) (hb : ls.length ≤ 1048576) (hl : ∀ c ∈ ls, c.length ≤ 512) (r : Int) (hr : Ev (fun k => F3 k ls (ls.length : Int) 0) r) (d : Nat) : ∀ i : Nat, i + d = ls.length →
      Ev (fun k => F1 k ls ls (ls.length : Int) (i : Int)) (if (ls.drop i).any (fun c => c.any badNum) then 2 else r) := by
  induction d with
  | zero =>
    intro i hi
    refine Ev.succ ?_
    simp only [hF1]
    refine Ev.neg (by omega) ?_
    rw [List.drop_of_length_le (by omega)]
    exact hr
  | succ d ih =>
    intro i hi
    have h8 : (ls.getD i []).length ≤ 512 := hl _ (by rw [getD_lt ls i (by omega)]; exact List.getElem_mem _)
    refine Ev.succ ?_
    simp only [hF1, Int.toNat_natCast]
    refine Ev.pos (by omega) (Ev.pos (by omega) (Ev.pos (by omega) ?_))
    have := bad2_from hF2 ls i (by omega) (ls.getD i []) h8 _ (ih (i + 1) (by omega)) (ls.getD i []).length 0 (by omega)
    rw [List.drop_zero] at this
    rw [any_drop' (α := Nat) _ ls i (by omega)]
    have e : (if (((ls.getD i []).any badNum || (ls.drop (i + 1)).any fun c => c.any badNum) : Bool) = true then (2 : Int) else r) = (if (ls.getD i []).any badNum = true then 2 else if ((ls.drop (i + 1)).any fun c => c.any badNum) = true then 2 else r) := by
      cases (ls.getD i []).any badNum <;> rfl
    rw [e]
    exact this

theorem bad_ev (hF0 : ∀ k x0 x11 x12 x13, F0 (k + 1) x0 x11 x12 x13 = if x13 < x12 then (if 0 ≤ x13 then (if x13 < (x11.length : Int) then (if ((x11.getD x13.toNat []).length : Int) < 8 then (some 1) else (if ((x11.getD x13.toNat []).length : Int) > 512 then (some 1) else (if 0 < (x0.length : Int) then (if ((x11.getD x13.toNat []).length : Int) = ((x0.getD 0 []).length : Int) then (F0 k x0 x11 x12 (wrap64 (x13 + 1))) else (some 1)) else (none)))) else (none)) else (none)) else (F1 k x0 x0 (x0.length : Int) 0))
    (hF1 : ∀ k x0 x35 x36 x37, F1 (k + 1) x0 x35 x36 x37 = if x37 < x36 then (if 0 ≤ x37 then (if x37 < (x35.length : Int) then (F2 k x0 x35 x36 x37 (x35.getD x37.toNat []) ((x35.getD x37.toNat []).length : Int) 0) else (none)) else (none)) else (F3 k x0 (x0.length : Int) 0))
    (hF2 : ∀ k x0 x35 x36 x37 x41 x42 x43, F2 (k + 1) x0 x35 x36 x37 x41 x42 x43 = if x43 < x42 then (if 0 ≤ x43 then (if x43 < (x41.length : Int) then (if (rd x41 x43) < 0 then (some 2) else (if (rd x41 x43) > 65535 then (some 2) else (F2 k x0 x35 x36 x37 x41 x42 (wrap64 (x43 + 1))))) else (none)) else (none)) else (F1 k x0 x35 x36 (wrap64 (x37 + 1))))
    (hF3 : ∀ k x55 x56 x57, F3 (k + 1) x55 x56 x57 = if x57 < x56 then (if 0 ≤ x57 then (if x57 < (x55.length : Int) then (if 0 < ((x55.getD x57.toNat []).length : Int) then (if (rd (x55.getD x57.toNat []) 0) = 0 then (if 1 < ((x55.getD x57.toNat []).length : Int) then (if (rd (x55.getD x57.toNat []) 1) = 0 then (F3 k x55 x56 (wrap64 (x57 + 1))) else (some 5)) else (none)) else (some 5)) else (none)) else (none)) else (none)) else (some 0))
    (ls : List (List Int)) (hb : ls.length ≤ 1048576) : Ev (fun k => F0 k ls ls (ls.length : Int) 0) (badL ls) := by
  have key : ∀ (d i : Nat), i + d = ls.length → (ls.take i).any (lenBad (ls.getD 0 []).length) = false → Ev (fun k => F0 k ls ls (ls.length : Int) (i : Int)) (badL ls) := by
    intro d
    induction d with
    | zero =>
      intro i hi hall
      rw [List.take_of_length_le (by omega)] at hall
      have hall' : ∀ c ∈ ls, 8 ≤ c.length ∧ c.length ≤ 512 := by
        intro c hc
        have := List.any_eq_false.1 hall c hc
        simp [lenBad] at this
        omega
      refine Ev.succ ?_
      simp only [hF0]
      refine Ev.neg (by omega) ?_
      have h3 := bad3_from hF3 ls hb (fun c hc => (hall' c hc).1) ls.length 0 (by omega)
      have := bad1_from hF1 hF2 ls hb (fun c hc => (hall' c hc).2) _ h3 ls.length 0 (by omega)
      unfold badL
      rw [hall]
      simpa [badR] using this
    | succ d ih =>
      intro i hi hall
      refine Ev.succ ?_
      simp only [hF0, Int.toNat_natCast]
      refine Ev.pos (by omega) (Ev.pos (by omega) (Ev.pos (by omega) ?_))
      have hone : lenBad (ls.getD 0 []).length (ls.getD i []) = true → badL ls = 1 := by
        intro h
        unfold badL
        rw [if_pos]
        exact List.any_eq_true.2 ⟨_, by rw [getD_lt ls i (by omega)]; exact List.getElem_mem _, h⟩
      by_cases h1 : ((ls.getD i []).length : Int) < 8
      · exact Ev.pos h1 (Ev.const (by rw [hone (lenBad_iff.2 (by omega))]))
      · refine Ev.neg h1 ?_
        by_cases h2 : ((ls.getD i []).length : Int) > 512
        · exact Ev.pos h2 (Ev.const (by rw [hone (lenBad_iff.2 (by omega))]))
        · refine Ev.neg h2 (Ev.pos (by omega) ?_)
          by_cases h3 : ((ls.getD i []).length : Int) = ((ls.getD 0 []).length : Int)
          · refine Ev.pos h3 ?_
            simp only [wr1 i (by omega)]
            refine ih (i + 1) (by omega) ?_
            rw [List.take_succ_eq_append_getElem (by omega), List.any_append, hall, Bool.false_or, ← getD_lt ls i (by omega)]
            simp [lenBad] at *
            omega
          · exact Ev.neg h3 (Ev.const (by rw [hone (lenBad_iff.2 (by omega))]))
  exact key ls.length 0 (by omega) (by simp)
end
theorem badL_two (a b : List Int) : badL [a, b] = check2 a b := by
  unfold badL badR badF check2
  simp only [List.any_cons, List.any_nil, Bool.or_false, List.getD_cons_zero, formBad, Bool.or_eq_true, decide_eq_true_eq, ne_eq, lenBad_iff, not_true_eq_false, or_false]
  have e : (((a.length : Int) < 8 ∨ 512 < (a.length : Int)) ∨ (b.length : Int) < 8 ∨ 512 < (b.length : Int) ∨ ¬ b.length = a.length) ↔ ((a.length : Int) < 8 ∨ 512 < (a.length : Int) ∨ ¬ a.length = b.length) := by
    by_cases h : a.length = b.length
    · rw [h]; simp
    · simp [h, Ne.symm h]
  have e2 : ((¬ rd a 0 = 0 ∨ ¬ rd a 1 = 0) ∨ ¬ rd b 0 = 0 ∨ ¬ rd b 1 = 0) ↔ (¬ rd a 0 = 0 ∨ ¬ rd a 1 = 0 ∨ ¬ rd b 0 = 0 ∨ ¬ rd b 1 = 0) := by rw [or_assoc]
  simp only [e, e2]
theorem badL_one (a : List Int) : badL [a] = check1 a := by
  unfold badL badR badF check1
  simp only [List.any_cons, List.any_nil, Bool.or_false, List.getD_cons_zero, formBad, Bool.or_eq_true, decide_eq_true_eq, ne_eq, lenBad_iff, not_true_eq_false, or_false]
end Go.Proofs.Ytbimmmmjdimebaa.Plain
