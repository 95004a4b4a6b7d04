/- The law FnExactClassify: for every two lists of int64 the program's Classify answers what the reference answers. No condition. -/
import Derived.Test.YtajjimcplhfdoaaPFnExactClassifyx5
import Derived.Test.YtajjimcplhfdoaaPlain
import Derived.Test.YtajjimcplhfdoaaCounts
namespace Go.Proofs.Ytajjimcplhfdoaa.Pure
open Go.RowKit Go.Proofs.Ytajjimcplhfdoaa.PFnExactClassify Go.Proofs.YtajjimcplhfdoaaW.PrintWords Go.Proofs.YtajjimcplhfdoaaW.PrintLast Go.Proofs.Ytajjimcplhfdoaa.Plain
set_option linter.unusedVariables false

/-! The parts that recur. -/
theorem to_ev (x : List Int) (hb : x.length ≤ 1048576) : Ev (fun k => laws_toInt64S.f k x) x := copy_ev (F := laws_toInt64S.l0) (fun _ _ _ _ => rfl) _ (by decide) x hb
theorem eq_refl_ev (x : List Int) (hb : x.length ≤ 1048576) : Ev (fun k => laws_eqInt64S.f k x x) true := eq_ev (F := laws_eqInt64S.l0) (fun _ _ _ _ => rfl) x hb
theorem mk_ev (x : List Int) (m : Nat) (hm : m ≤ 1099511627776) (hb : x.length ≤ 1048576) : Ev (fun k => laws_markInt64S.f k x (m : Int)) (((m + x.length : Nat) : Int), marks id m x.length) := mark_ev (F := laws_markInt64S.l0) (c := id) (fun _ _ _ _ => rfl) m x hm hb
theorem hd_ev (m n : Nat) (hm : m ≤ 1099511627776) (hb : n ≤ 1048576) : Ev (fun k => laws_heldInt64S.f k (marks id m n) (m : Int)) ((m + n : Nat) : Int) := held_ev (F := laws_heldInt64S.l0) (c := id) (fun _ _ _ _ => rfl) m n hm hb
theorem one_ev (l : List Int) : Ev (fun k => spec_l3Check.f k l) (check1 l) := l3Check_ev (B := spec_l1BlocksOK.f) (fun _ => rfl) (F := spec_l3Check.l0) (fun _ _ _ => rfl) l
theorem two_ev (a b : List Int) : Ev (fun k => spec_l3CheckTwo.f k a b) (check2 a b) := by
  unfold spec_l3CheckTwo.f
  by_cases h : a.length = b.length
  · refine Ev.pos (by omega) (Ev.bind (one_ev a) (Ev.bind (one_ev b) ?_))
    rw [check2_of a b h]
    have j1 : ∀ t, Ev (fun k => spec_l3CheckTwo.j1 k (check1 a) (check1 b) t) (if t = true then 2 else if check1 a = 0 then check1 b else check1 a) := by
      intro t
      refine Ev.succ ?_
      simp only [spec_l3CheckTwo.j1]
      cases t
      · refine Ev.neg (by simp) ?_
        by_cases h0 : check1 a = 0
        · refine Ev.pos h0 (Ev.const ?_); simp [h0]
        · refine Ev.neg h0 (Ev.const ?_); simp [h0]
      · exact Ev.pos rfl (Ev.const (by simp))
    have j0 : ∀ t, Ev (fun k => spec_l3CheckTwo.j0 k (check1 a) (check1 b) t) (if t = true then 1 else if check1 a = 2 ∨ check1 b = 2 then 2 else if check1 a = 0 then check1 b else check1 a) := by
      intro t
      refine Ev.succ ?_
      simp only [spec_l3CheckTwo.j0]
      cases t
      · refine Ev.neg (by simp) ?_
        by_cases h2 : check1 a = 2
        · refine Ev.pos h2 ?_
          have := j1 true
          simpa [h2] using this
        · refine Ev.neg h2 ?_
          have := j1 (check1 b == 2)
          simpa [h2, beq_iff_eq] using this
      · exact Ev.pos rfl (Ev.const (by simp))
    by_cases h1 : check1 a = 1
    · refine Ev.pos h1 ?_
      have := j0 true
      simpa [h1] using this
    · refine Ev.neg h1 ?_
      have := j0 (check1 b == 1)
      simpa [h1, beq_iff_eq] using this
  · refine Ev.neg (by omega) (Ev.const ?_)
    unfold check2
    rw [if_pos (by omega)]
theorem bad_two_ev (a b : List Int) : Ev (fun k => impl_badCounts.f k [a, b]) (check2 a b) := by
  rw [← badL_two]
  exact bad_ev (F0 := impl_badCounts.l0) (F1 := impl_badCounts.l1) (F2 := impl_badCounts.l2) (F3 := impl_badCounts.l3) (fun _ _ _ _ _ => rfl) (fun _ _ _ _ _ => rfl) (fun _ _ _ _ _ _ _ _ => rfl) (fun _ _ _ _ => rfl) [a, b] (by simp)

/-! The classes. -/
def cls (a b : List Int) (i : Nat) : Int := if i < 2 then 1 else if rd a (i : Int) > 0 then 2 else if rd b (i : Int) > 0 then 3 else 4
def classes (a b : List Int) (n : Nat) : List Int := (List.range n).map (cls a b)
theorem classes_length (a b : List Int) (n : Nat) : (classes a b n).length = n := by simp [classes]
theorem classes_succ (a b : List Int) (n : Nat) : classes a b (n + 1) = classes a b n ++ [cls a b n] := by simp [classes, List.range_succ]

theorem spec_from (a b : List Int) (h9 : a.length ≤ 512) (h : a.length = b.length) (d : Nat) : ∀ i : Nat, i + d = a.length →
    Ev (fun k => spec_Classify.l0 k a b (classes a b i) (i : Int)) (classes a b a.length, 0) := by
  induction d with
  | zero =>
    intro i hi
    refine Ev.succ ?_
    simp only [spec_Classify.l0]
    refine Ev.neg (by omega) (Ev.const ?_)
    obtain rfl : i = a.length := by omega
    rfl
  | succ d ih =>
    intro i hi
    have hn := ih (i + 1) (by omega)
    rw [classes_succ] at hn
    have hlen : (classes a b i).length < 17592186044416 := by rw [classes_length]; omega
    have two : ∀ x, (¬ rd a (i : Int) > 0 → x = if rd b (i : Int) > 0 then (3 : Int) else 4) → Ev (fun k => spec_Classify.j1 k a b (classes a b i) (i : Int) x) (classes a b a.length, 0) := by
      intro x hx
      refine Ev.succ ?_
      simp only [spec_Classify.j1, wr1 i (by omega)]
      refine Ev.pos (by omega) (Ev.pos (by omega) ?_)
      by_cases h1 : rd a (i : Int) > 0
      · refine Ev.pos h1 ?_
        by_cases h2 : i < 2
        · refine Ev.pos (by omega) (Ev.pos hlen ?_)
          simpa [cls, h2] using hn
        · refine Ev.neg (by omega) (Ev.pos hlen ?_)
          simpa [cls, h2, h1] using hn
      · refine Ev.neg h1 ?_
        by_cases h2 : i < 2
        · refine Ev.pos (by omega) (Ev.pos hlen ?_)
          simpa [cls, h2] using hn
        · refine Ev.neg (by omega) (Ev.pos hlen ?_)
          rw [hx h1]
          simpa [cls, h2, h1] using hn
    refine Ev.succ ?_
    simp only [spec_Classify.l0]
    refine Ev.pos (by omega) (Ev.pos (by omega) (Ev.pos (by omega) ?_))
    by_cases h3 : rd b (i : Int) > 0
    · exact Ev.pos h3 (two 3 (fun _ => by simp [h3]))
    · exact Ev.neg h3 (two 4 (fun _ => by simp [h3]))

theorem impl_from (a b : List Int) (h9 : a.length ≤ 512) (h : a.length = b.length) (d : Nat) : ∀ (i : Nat) (x : List Int), i + d = a.length → x.length = a.length → x.take i = (classes a b a.length).take i →
    Ev (fun k => impl_Classify.l0 k a b x (a.length : Int) (i : Int)) (classes a b a.length, 0) := by
  induction d with
  | zero =>
    intro i x hi hl hp
    refine Ev.succ ?_
    simp only [impl_Classify.l0]
    refine Ev.neg (by omega) (Ev.const ?_)
    rw [List.take_of_length_le (by omega), List.take_of_length_le (by rw [classes_length]; omega)] at hp
    rw [hp]
  | succ d ih =>
    intro i x hi hl hp
    have hn := ih (i + 1) (x.set i (cls a b i)) (by omega) (by simpa using hl) (by
      have e : cls a b i = rd (classes a b a.length) (i : Int) := by rw [rd_eq _ _ (by rw [classes_length]; omega)]; simp [classes]
      rw [e]
      exact set_take x (classes a b a.length) i (by rw [classes_length]; omega) (by rw [classes_length]; omega) hp)
    refine Ev.succ ?_
    simp only [impl_Classify.l0, Int.toNat_natCast, wr1 i (by omega)]
    refine Ev.pos (by omega) ?_
    by_cases h2 : i < 2
    · refine Ev.pos (by omega) (Ev.pos (by omega) (Ev.pos (by omega) ?_))
      simpa [cls, h2] using hn
    · refine Ev.neg (by omega) (Ev.pos (by omega) (Ev.pos (by omega) ?_))
      by_cases h1 : rd a (i : Int) > 0
      · refine Ev.pos h1 (Ev.pos (by omega) ?_)
        simpa [cls, h2, h1] using hn
      · refine Ev.neg h1 (Ev.pos (by omega) ?_)
        by_cases h3 : rd b (i : Int) > 0
        · refine Ev.pos h3 (Ev.pos (by omega) ?_)
          simpa [cls, h2, h1, h3] using hn
        · refine Ev.neg h3 (Ev.pos (by omega) ?_)
          simpa [cls, h2, h1, h3] using hn

/-- What both answer. -/
def told (a b : List Int) : List Int × Int := if check2 a b = 0 then (classes a b a.length, 0) else ([], check2 a b)
theorem told_length (a b : List Int) : (told a b).1.length ≤ 512 := by
  unfold told
  split
  · rename_i h; rw [classes_length]; exact (check2_ok h).2.1
  · simp
theorem spec_ev (a b : List Int) : Ev (fun k => spec_Classify.f k a b) (told a b) := by
  unfold spec_Classify.f told
  refine Ev.bind (two_ev a b) ?_
  by_cases h : check2 a b = 0
  · rw [if_pos h]
    refine Ev.pos h ?_
    obtain ⟨_, h9, hl, _⟩ := check2_ok h
    exact spec_from a b h9 hl a.length 0 (by omega)
  · rw [if_neg h]
    exact Ev.neg h (Ev.const rfl)
theorem impl_ev (a b : List Int) : Ev (fun k => impl_Classify.f k a b) (told a b) := by
  unfold impl_Classify.f told
  refine Ev.bind (bad_two_ev a b) ?_
  by_cases h : check2 a b = 0
  · rw [if_pos h]
    obtain ⟨_, h9, hl, _⟩ := check2_ok h
    refine Ev.pos h (Ev.pos (by omega) (Ev.pos (by omega) ?_))
    exact impl_from a b h9 hl a.length 0 _ (by omega) (by simp) (by simp)
  · rw [if_neg h]
    exact Ev.neg h (Ev.const rfl)

theorem FnExactClassify : laws_FnExactClassify.Pure := by
  intro a b _ _ _ _ _ _
  refine Ev.rounds (r := true) ?_
  unfold laws_FnExactClassify.f
  by_cases ha : (a.length : Int) > 1048576
  · exact Ev.pos ha (Ev.const rfl)
  by_cases hb : (b.length : Int) > 1048576
  · exact Ev.neg ha (Ev.pos hb (Ev.const rfl))
  refine Ev.neg ha (Ev.neg hb ?_)
  have ta := to_ev a (by omega)
  have tb := to_ev b (by omega)
  have hl := told_length a b
  have hq := eq_refl_ev (told a b).1 (by omega)
  refine Ev.bind ta (Ev.bind tb (Ev.bind (spec_ev a b) (Ev.bind ta (Ev.bind tb (Ev.bind (impl_ev a b) (Ev.bind hq (Ev.pos rfl ?_)))))))
  refine Ev.succ ?_
  simp only [laws_FnExactClassify.j0]
  refine Ev.neg (by simp) (Ev.bind ta (Ev.bind (eq_refl_ev a (by omega)) (Ev.pos rfl (Ev.bind tb (Ev.bind (eq_refl_ev b (by omega)) (Ev.pos rfl ?_))))))
  refine Ev.bind (mk_ev a 1 (by omega) (by omega)) (Ev.bind (mk_ev b (1 + a.length) (by omega) (by omega)) (Ev.neg (by simp only []; omega) (Ev.bind hq (Ev.pos rfl ?_))))
  refine Ev.succ ?_
  simp only [laws_FnExactClassify.j1]
  refine Ev.neg (by simp) (Ev.bind (mk_ev _ 1 (by omega) (by omega)) (Ev.bind (hd_ev 1 _ (by omega) (by omega)) (Ev.neg (by omega) (Ev.pos rfl ?_))))
  exact Ev.bind ta (Ev.bind tb (Ev.bind (impl_ev a b) (Ev.bind hq (Ev.pos rfl (Ev.pos rfl (Ev.const rfl))))))

end Go.Proofs.Ytajjimcplhfdoaa.Pure
