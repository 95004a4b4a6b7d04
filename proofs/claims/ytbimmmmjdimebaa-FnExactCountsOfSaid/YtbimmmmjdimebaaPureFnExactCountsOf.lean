/- FnExactCountsOf: at every argument CountsOf answers as the specification, field by field; it writes into no argument and keeps nothing of one; its answer owns its memory. -/
import Derived.Test.YtbimmmmjdimebaaPFnExactCountsOfx6
import Derived.Test.YtbimmmmjdimebaaRead
import Derived.Test.YtbimmmmjdimebaaPlain
import Derived.Test.YtbimmmmjdimebaaCounts
namespace Go.Proofs.Ytbimmmmjdimebaa.Pure
open Go.RowKit Go.Proofs.Ytbimmmmjdimebaa Go.Proofs.Ytbimmmmjdimebaa.PFnExactCountsOf Go.Proofs.YtbimmmmjdimebaaW.PrintWords Go.Proofs.YtbimmmmjdimebaaW.PrintLast Go.Proofs.Ytbimmmmjdimebaa.Plain
set_option linter.unusedVariables false

/-- The one plain statement of the law. -/
def laws_FnExactCountsOf.Pure : Prop := ∀ (a0 : Int) (l1 : List S91), (Read.GI .i64) a0 → (Read.GL (fun y : S91 => (Read.GP (Read.GI .i64) (Read.GP (Read.GI .i64) (Read.GI .i64))) (y.f0, y.f1, y.f2))) l1 → ∃ k, laws_FnExactCountsOf.f k a0 l1 = some true

theorem eq_refl_ev (x : List Int) (hb : x.length ≤ 1048576) : Ev (fun k => laws_eqInt64S.f k x x) true := eq_ev (F := laws_eqInt64S.l0) (fun _ _ _ _ => rfl) x hb

theorem mk_ev (x : List Int) (m : Nat) (hm : m ≤ 1099511627776) (hb : x.length ≤ 1048576) : Ev (fun k => laws_markInt64S.f k x (m : Int)) (((m + x.length : Nat) : Int), marks id m x.length) := mark_ev (F := laws_markInt64S.l0) (c := id) (fun _ _ _ _ => rfl) m x hm hb

theorem hd_ev (m n : Nat) (hm : m ≤ 1099511627776) (hb : n ≤ 1048576) : Ev (fun k => laws_heldInt64S.f k (marks id m n) (m : Int)) ((m + n : Nat) : Int) := held_ev (F := laws_heldInt64S.l0) (c := id) (fun _ _ _ _ => rfl) m n hm hb

abbrev Rn := S89

/-! Marks on runs. -/
def rmarks (m n : Nat) : List Rn := (List.range n).map fun i => ⟨((m + 3 * i : Nat) : Int), ((m + 3 * i + 1 : Nat) : Int), ((m + 3 * i + 2 : Nat) : Int)⟩
theorem rmarks_length (m n : Nat) : (rmarks m n).length = n := by simp [rmarks]
theorem rdR_eq (x : List Rn) (i : Nat) (h : i < x.length) : rd_T89 x (i : Int) = x[i] := by unfold rd_T89; simp [h]
theorem rmarks_get (m n i : Nat) (h : i < n) : rd_T89 (rmarks m n) (i : Int) = ⟨((m + 3 * i : Nat) : Int), ((m + 3 * i + 1 : Nat) : Int), ((m + 3 * i + 2 : Nat) : Int)⟩ := by
  rw [rdR_eq _ _ (by simpa [rmarks] using h)]; simp [rmarks]
theorem rset_get (x : List Rn) (i : Nat) (h : i < x.length) (v : Rn) : rd_T89 (x.set i v) (i : Int) = v := by
  rw [rdR_eq _ _ (by simpa using h)]; simp
theorem rset_take (x y : List Rn) (i : Nat) (hi : i < y.length) (hl : x.length = y.length) (hp : x.take i = y.take i) (v : Rn) (hv : v = rd_T89 y (i : Int)) : (x.set i v).take (i + 1) = y.take (i + 1) := by
  have hi3 : i < x.length := by omega
  rw [List.take_succ_eq_append_getElem (by simpa using hi3), List.take_succ_eq_append_getElem hi, List.take_set_of_le (Nat.le_refl _), hp, hv, rdR_eq _ _ hi]
  simp
theorem rmark_from (m n : Nat) (hm : m ≤ 1099511627776) (hn : n ≤ 1048576) (d : Nat) : ∀ (i : Nat) (x : List Rn), i + d = n → x.length = n → x.take i = (rmarks m n).take i → Ev (fun k => laws_markRunS.l0 k x ((m + 3 * i : Nat) : Int) (i : Int)) (((m + 3 * n : Nat) : Int), rmarks m n) := by
  induction d with
  | zero =>
    intro i x hi hl hp
    refine Ev.succ ?_
    simp only [laws_markRunS.l0]
    refine Ev.neg (by omega) (Ev.const ?_)
    obtain rfl : i = n := by omega
    rw [List.take_of_length_le (by omega), List.take_of_length_le (by rw [rmarks_length]; omega)] at hp
    rw [hp]
  | succ d ih =>
    intro i x hi hl hp
    refine Ev.succ ?_
    have e1 : wrap64 (((m + 3 * i : Nat) : Int) + 1) = ((m + 3 * i + 1 : Nat) : Int) := by rw [wr (by omega) (by omega)]; omega
    have e2 : wrap64 (((m + 3 * i + 1 : Nat) : Int) + 1) = ((m + 3 * i + 2 : Nat) : Int) := by rw [wr (by omega) (by omega)]; omega
    have e3 : wrap64 (((m + 3 * i + 2 : Nat) : Int) + 1) = ((m + 3 * (i + 1) : Nat) : Int) := by rw [wr (by omega) (by omega)]; omega
    simp only [laws_markRunS.l0, Int.toNat_natCast, Option.bind_some, e1, e2, e3, wr1 i (by omega)]
    refine Ev.pos (by omega) (Ev.pos (by omega) ?_)
    simp only [rset_get x i (by omega), List.set_set]
    refine ih (i + 1) _ (by omega) (by simpa using hl) ?_
    exact rset_take x (rmarks m n) i (by rw [rmarks_length]; omega) (by rw [rmarks_length]; omega) hp _ (rmarks_get m n i (by omega)).symm
theorem rmark_ev (x : List Rn) (m : Nat) (hm : m ≤ 1099511627776) (hb : x.length ≤ 1048576) : Ev (fun k => laws_markRunS.f k x (m : Int)) (((m + 3 * x.length : Nat) : Int), rmarks m x.length) :=
  rmark_from m x.length hm hb x.length 0 x (by omega) rfl (by simp)

theorem req_from (x : List Rn) (hb : x.length ≤ 1048576) (d : Nat) : ∀ (i : Nat), i + d = x.length → Ev (fun k => laws_eqRunS.l0 k x x (i : Int)) true := by
  induction d with
  | zero =>
    intro i hi
    refine Ev.succ ?_
    simp only [laws_eqRunS.l0]
    exact Ev.neg (by omega) (Ev.const rfl)
  | succ d ih =>
    intro i hi
    refine Ev.succ ?_
    simp only [laws_eqRunS.l0, wr1 i (by omega)]
    refine Ev.pos (by omega) (Ev.pos (by omega) (Ev.pos (by omega) ?_))
    refine Ev.bind0 (a := true) (by simp [laws_eqRun.f]) (Ev.pos rfl (ih (i + 1) (by omega)))
theorem req_ev (x : List Rn) (hb : x.length ≤ 1048576) : Ev (fun k => laws_eqRunS.f k x x) true := by
  unfold laws_eqRunS.f
  exact Ev.pos rfl (req_from x hb x.length 0 (by omega))

/-! Rows in order, and what they count. -/
def rowOK (T : Int) (r : Rn) : Bool := decide (¬ r.f0 < 2 ∧ ¬ r.f0 > T ∧ ¬ r.f1 < 1 ∧ ¬ r.f1 > T ∧ ¬ wrap64 (r.f0 + r.f1) > T ∧ ¬ r.f2 < 1 ∧ ¬ r.f2 > 65535)
def linkOK : Option Rn → Rn → Bool
  | none, _ => true
  | some p, r => decide (¬ r.f0 < wrap64 (p.f0 + p.f1) ∧ ¬ (r.f0 = wrap64 (p.f0 + p.f1) ∧ r.f2 = p.f2))
def good (T : Int) : Option Rn → List Rn → Bool
  | _, [] => true
  | p, r :: t => rowOK T r && (linkOK p r && good T (some r) t)
def prevR (x : List Rn) (i : Nat) : Option Rn := if i = 0 then none else some (rd_T89 x ((i : Int) - 1))
theorem dropR (x : List Rn) (i : Nat) (h : i < x.length) : x.drop i = rd_T89 x (i : Int) :: x.drop (i + 1) := by rw [List.drop_eq_getElem_cons h, rdR_eq x i h]
theorem prevR_succ (x : List Rn) (i : Nat) : prevR x (i + 1) = some (rd_T89 x (i : Int)) := by
  unfold prevR; rw [if_neg (by omega)]; congr 2; omega
theorem wrapm (i : Nat) (h : i ≤ 1099511627776) : wrap64 ((i : Int) - 1) = (i : Int) - 1 := wr (by omega) (by omega)
theorem spec_rows (x : List Rn) (T : Int) (hb : x.length ≤ 1048576) (d : Nat) : ∀ i : Nat, i + d = x.length → Ev (fun k => spec_l2RunsOK.l0 k x T (i : Int)) (good T (prevR x i) (x.drop i)) := by
  induction d with
  | zero =>
    intro i hi
    refine Ev.succ ?_
    simp only [spec_l2RunsOK.l0]
    refine Ev.neg (by omega) (Ev.const ?_)
    rw [List.drop_of_length_le (by omega)]; rfl
  | succ d ih =>
    intro i hi
    have hn := ih (i + 1) (by omega)
    rw [prevR_succ] at hn
    refine Ev.succ ?_
    simp only [spec_l2RunsOK.l0]
    rw [dropR x i (by omega)]
    generalize hr : rd_T89 x (i : Int) = r at *
    refine Ev.pos (by omega) (Ev.pos (by omega) ?_)
    have hbad : ∀ {z : Bool}, rowOK T r = false → Ev (fun k => spec_l2RunsOK.j1 k x T (i : Int) true r.f0 r.f1 r.f2) (rowOK T r && z) := by
      intro z h
      refine Ev.succ ?_
      simp only [spec_l2RunsOK.j1, h]
      exact Ev.pos trivial (Ev.const rfl)
    unfold good
    by_cases h1 : r.f0 < 2
    · exact Ev.pos h1 (hbad (by simp [rowOK, h1]))
    refine Ev.neg h1 ?_
    by_cases h2 : r.f0 > T
    · exact Ev.pos h2 (hbad (by simp [rowOK, h2]))
    refine Ev.neg h2 ?_
    by_cases h3 : r.f1 < 1
    · exact Ev.pos h3 (hbad (by simp [rowOK, h3]))
    refine Ev.neg h3 ?_
    by_cases h4 : r.f1 > T
    · exact Ev.pos h4 (hbad (by simp [rowOK, h4]))
    refine Ev.neg h4 ?_
    by_cases h5 : wrap64 (r.f0 + r.f1) > T
    · exact Ev.pos h5 (hbad (by simp [rowOK, h5]))
    refine Ev.neg h5 ?_
    by_cases h6 : r.f2 < 1
    · exact Ev.pos h6 (hbad (by simp [rowOK, h6]))
    refine Ev.neg h6 ?_
    by_cases h7 : r.f2 > 65535
    · rw [decide_eq_true h7]; exact hbad (by simp [rowOK, h7])
    have hok : rowOK T r = true := by unfold rowOK; rw [decide_eq_true ⟨h1, h2, h3, h4, h5, h6, h7⟩]
    rw [decide_eq_false h7, hok, Bool.true_and]
    refine Ev.succ ?_
    simp only [spec_l2RunsOK.j1, wr1 i (by omega), wrapm i (by omega)]
    refine Ev.neg (by simp) ?_
    by_cases h0 : i = 0
    · refine Ev.neg (by omega) ?_
      unfold prevR
      rw [if_pos h0]
      simpa [linkOK] using hn
    · refine Ev.pos (by omega) (Ev.pos (by omega) (Ev.pos (by omega) ?_))
      unfold prevR
      rw [if_neg h0]
      generalize rd_T89 x ((i : Int) - 1) = p
      by_cases g1 : r.f0 < wrap64 (p.f0 + p.f1)
      · exact Ev.pos g1 (Ev.const (by simp [linkOK, g1]))
      refine Ev.neg g1 ?_
      by_cases g2 : r.f0 = wrap64 (p.f0 + p.f1)
      · refine Ev.pos g2 ?_
        by_cases g3 : r.f2 = p.f2
        · exact Ev.pos g3 (Ev.const (by simp [linkOK, g2, g3]))
        · refine Ev.neg g3 ?_
          have e : linkOK (some p) r = true := by simp [linkOK, g3]; omega
          rw [e, Bool.true_and]; exact hn
      · refine Ev.neg g2 ?_
        have e : linkOK (some p) r = true := by simp [linkOK, g2]; omega
        rw [e, Bool.true_and]; exact hn
theorem impl_rows (x : List Rn) (hb : x.length ≤ 1048576) (d : Nat) : ∀ i : Nat, i + d = x.length → Ev (fun k => impl_inOrder.l0 k x x (x.length : Int) (i : Int)) (good 512 (prevR x i) (x.drop i)) := by
  induction d with
  | zero =>
    intro i hi
    refine Ev.succ ?_
    simp only [impl_inOrder.l0]
    refine Ev.neg (by omega) (Ev.const ?_)
    rw [List.drop_of_length_le (by omega)]; rfl
  | succ d ih =>
    intro i hi
    have hn := ih (i + 1) (by omega)
    rw [prevR_succ] at hn
    refine Ev.succ ?_
    simp only [impl_inOrder.l0]
    rw [dropR x i (by omega)]
    generalize hr : rd_T89 x (i : Int) = r at *
    refine Ev.pos (by omega) (Ev.pos (by omega) (Ev.pos (by omega) ?_))
    have hbad : ∀ {z : Bool}, rowOK 512 r = false → Ev (fun k => impl_inOrder.j1 k x (i : Int) x (x.length : Int) (i : Int) true r.f0 r.f1 r.f2) (rowOK 512 r && z) := by
      intro z h
      refine Ev.succ ?_
      simp only [impl_inOrder.j1, h]
      exact Ev.pos trivial (Ev.const rfl)
    have hbad2 : ∀ {z : Bool}, rowOK 512 r = false → Ev (fun k => impl_inOrder.j2 k x (i : Int) x (x.length : Int) (i : Int) true r.f0 r.f1 r.f2) (rowOK 512 r && z) := by
      intro z h
      refine Ev.succ ?_
      simp only [impl_inOrder.j2, h]
      exact Ev.pos trivial (Ev.const rfl)
    unfold good
    by_cases h1 : r.f0 < 2
    · exact Ev.pos h1 (hbad (by simp [rowOK, h1]))
    refine Ev.neg h1 ?_
    by_cases h3 : r.f1 < 1
    · exact Ev.pos h3 (hbad (by simp [rowOK, h3]))
    refine Ev.neg h3 ?_
    by_cases h2 : r.f0 > 512
    · exact Ev.pos h2 (hbad (by simp [rowOK, h2]))
    refine Ev.neg h2 ?_
    by_cases h4 : r.f1 > 512
    · exact Ev.pos h4 (hbad (by simp [rowOK, h4]))
    refine Ev.neg h4 ?_
    by_cases h5 : wrap64 (r.f0 + r.f1) > 512
    · rw [decide_eq_true h5]; exact hbad (by simp [rowOK, h5])
    rw [decide_eq_false h5]
    refine Ev.succ ?_
    simp only [impl_inOrder.j1]
    refine Ev.neg (by simp) ?_
    by_cases h6 : r.f2 < 1
    · exact Ev.pos h6 (hbad2 (by simp [rowOK, h6]))
    refine Ev.neg h6 ?_
    by_cases h7 : r.f2 > 65535
    · rw [decide_eq_true h7]; exact hbad2 (by simp [rowOK, h7])
    have hok : rowOK 512 r = true := by unfold rowOK; rw [decide_eq_true ⟨h1, h2, h3, h4, h5, h6, h7⟩]
    rw [decide_eq_false h7, hok, Bool.true_and]
    refine Ev.succ ?_
    simp only [impl_inOrder.j2, wr1 i (by omega), wrapm i (by omega)]
    refine Ev.neg (by simp) ?_
    by_cases h0 : i = 0
    · refine Ev.pos (by omega) ?_
      unfold prevR
      rw [if_pos h0]
      simpa [linkOK] using hn
    · refine Ev.neg (by omega) (Ev.pos (by omega) (Ev.pos (by omega) ?_))
      unfold prevR
      rw [if_neg h0]
      generalize rd_T89 x ((i : Int) - 1) = p
      by_cases g1 : r.f0 < wrap64 (p.f0 + p.f1)
      · exact Ev.pos g1 (Ev.const (by simp [linkOK, g1]))
      refine Ev.neg g1 ?_
      by_cases g2 : r.f0 = wrap64 (p.f0 + p.f1)
      · refine Ev.pos g2 ?_
        by_cases g3 : r.f2 = p.f2
        · exact Ev.pos g3 (Ev.const (by simp [linkOK, g2, g3]))
        · refine Ev.neg g3 ?_
          have e : linkOK (some p) r = true := by simp [linkOK, g3]; omega
          rw [e, Bool.true_and]; exact hn
      · refine Ev.neg g2 ?_
        have e : linkOK (some p) r = true := by simp [linkOK, g2]; omega
        rw [e, Bool.true_and]; exact hn
theorem row_split (T : Int) (h1 : 8 ≤ T) (h2 : T ≤ 512) (r : Rn) : rowOK T r = (rowOK 512 r && decide (wrap64 (r.f0 + r.f1) ≤ T)) := by
  unfold rowOK
  rw [← Bool.decide_and]
  congr 1
  refine propext ⟨fun h => ?_, fun h => ?_⟩
  · obtain ⟨a, b, c, d, e, f, g⟩ := h; exact ⟨⟨a, by omega, c, by omega, by omega, f, g⟩, by omega⟩
  · obtain ⟨⟨a, b, c, d, e, f, g⟩, z⟩ := h
    rw [wr (by omega) (by omega)] at e z ⊢
    exact ⟨a, by omega, c, by omega, by omega, f, g⟩
theorem good_split (T : Int) (h1 : 8 ≤ T) (h2 : T ≤ 512) (x : List Rn) : ∀ p, good T p x = (good 512 p x && x.all fun r => decide (wrap64 (r.f0 + r.f1) ≤ T)) := by
  induction x with
  | nil => intro p; rfl
  | cons r t ih =>
    intro p
    simp only [good, List.all_cons, ih, row_split T h1 h2]
    cases rowOK 512 r <;> cases linkOK p r <;> cases good 512 (some r) t <;> simp
theorem good_rows (T : Int) (x : List Rn) : ∀ p, good T p x = true → ∀ r ∈ x, rowOK T r = true := by
  induction x with
  | nil => intro p _ r h; simp at h
  | cons q t ih =>
    intro p h r hr
    simp only [good, Bool.and_eq_true] at h
    rcases List.mem_cons.1 hr with rfl | hr
    · exact h.1
    · exact ih _ h.2.2 r hr
/-- The count of block b by the last row that holds it. -/
def lastC (b : Int) (l : List Rn) : Int := l.foldl (fun c r => if b ≥ r.f0 ∧ b < wrap64 (r.f0 + r.f1) then r.f2 else c) 0
def tab (n : Nat) (g : Int → Int) : List Int := (List.range n).map fun b => g ((b : Nat) : Int)
theorem tab_length (n : Nat) (g : Int → Int) : (tab n g).length = n := by simp [tab]
theorem tab_succ (n : Nat) (g : Int → Int) : tab (n + 1) g = tab n g ++ [g (n : Int)] := by simp [tab, List.range_succ]
theorem tab_congr (n : Nat) (g h : Int → Int) (e : ∀ b : Nat, b < n → g (b : Int) = h (b : Int)) : tab n g = tab n h := by
  unfold tab; exact List.map_congr_left fun b hb => e b (List.mem_range.1 hb)
theorem tab_set (n : Nat) (g : Int → Int) (j : Nat) (v : Int) : (tab n g).set j v = tab n (fun b => if b = (j : Int) then v else g b) := by
  refine List.ext_getElem (by simp [tab]) fun i h1 h2 => ?_
  simp only [tab, List.getElem_set, List.getElem_map, List.getElem_range]
  by_cases h : j = i
  · rw [if_pos h, if_pos (by omega)]
  · rw [if_neg h, if_neg (by omega)]
theorem lastC_take (b : Int) (x : List Rn) (i : Nat) (h : i < x.length) : lastC b (x.take (i + 1)) = if b ≥ (rd_T89 x (i : Int)).f0 ∧ b < wrap64 ((rd_T89 x (i : Int)).f0 + (rd_T89 x (i : Int)).f1) then (rd_T89 x (i : Int)).f2 else lastC b (x.take i) := by
  rw [List.take_succ_eq_append_getElem h, rdR_eq x i h]
  simp only [lastC, List.foldl_append, List.foldl_cons, List.foldl_nil]
/-! The reference's list. -/
theorem spec_in (T : Nat) (x : List Rn) (hx : x.length ≤ 512) (y : List Int) (hy : y.length ≤ 512) (b : Nat) (hb : b < 512) (r : List Int × Int)
    (hn : Ev (fun k => spec_CountsOf.l0 k (T : Int) x (y ++ [lastC (b : Int) x]) ((b + 1 : Nat) : Int)) r) (d : Nat) : ∀ i : Nat, i + d = x.length →
    Ev (fun k => spec_CountsOf.l1 k (T : Int) x y (b : Int) (lastC (b : Int) (x.take i)) (i : Int)) r := by
  induction d with
  | zero =>
    intro i hi
    refine Ev.succ ?_
    simp only [spec_CountsOf.l1, wr1 b (by omega)]
    refine Ev.neg (by omega) (Ev.pos (by omega) ?_)
    rw [List.take_of_length_le (by omega)]; exact hn
  | succ d ih =>
    intro i hi
    refine Ev.succ ?_
    simp only [spec_CountsOf.l1, wr1 i (by omega)]
    refine Ev.pos (by omega) (Ev.pos (by omega) ?_)
    have h := ih (i + 1) (by omega)
    rw [lastC_take _ _ _ (by omega)] at h
    by_cases h1 : (b : Int) ≥ (rd_T89 x (i : Int)).f0
    · refine Ev.pos h1 ?_
      by_cases h2 : (b : Int) < wrap64 ((rd_T89 x (i : Int)).f0 + (rd_T89 x (i : Int)).f1)
      · rw [if_pos ⟨h1, h2⟩] at h; exact Ev.pos h2 h
      · rw [if_neg (fun z => h2 z.2)] at h; exact Ev.neg h2 h
    · rw [if_neg (fun z => h1 z.1)] at h; exact Ev.neg h1 h
theorem spec_out (T : Nat) (hT : T ≤ 512) (x : List Rn) (hx : x.length ≤ 512) (d : Nat) : ∀ b : Nat, b + d = T →
    Ev (fun k => spec_CountsOf.l0 k (T : Int) x (tab b fun b => lastC b x) (b : Int)) (tab T fun b => lastC b x, 0) := by
  induction d with
  | zero =>
    intro b hb
    refine Ev.succ ?_
    simp only [spec_CountsOf.l0]
    obtain rfl : b = T := by omega
    exact Ev.neg (by omega) (Ev.const rfl)
  | succ d ih =>
    intro b hb
    refine Ev.succ ?_
    simp only [spec_CountsOf.l0]
    refine Ev.pos (by omega) ?_
    have h := ih (b + 1) (by omega)
    rw [tab_succ] at h
    exact spec_in T x hx _ (by rw [tab_length]; omega) b (by omega) _ h x.length 0 (by omega)
def told (T : Int) (x : List Rn) : List Int × Int :=
  if T < 8 ∨ T > 512 then ([], 1) else if (x.length : Int) > 512 ∨ good T none x = false then ([], 5) else (tab T.toNat fun b => lastC b x, 0)
theorem told_length (T : Int) (x : List Rn) : (told T x).1.length ≤ 512 := by
  unfold told; split
  · simp
  · split
    · simp
    · simp only [tab_length]; omega
theorem spec_ev (T : Int) (x : List Rn) (hb : x.length ≤ 1048576) : Ev (fun k => spec_CountsOf.f k T x) (told T x) := by
  unfold spec_CountsOf.f told
  by_cases h1 : T < 8 ∨ T > 512
  · rw [if_pos h1]
    refine Ev.bind0 (a := false) ?_ (Ev.neg (by simp) (Ev.const rfl))
    unfold spec_l1BlocksOK.f
    by_cases h : T ≥ 8
    · rw [if_pos h, decide_eq_false (by omega)]
    · rw [if_neg h]
  · rw [if_neg h1]
    refine Ev.bind0 (a := true) (by unfold spec_l1BlocksOK.f; rw [if_pos (by omega), decide_eq_true (by omega)]) (Ev.pos rfl ?_)
    by_cases h2 : (x.length : Int) > 512
    · rw [if_pos (.inl h2)]
      refine Ev.pos h2 (Ev.succ ?_)
      simp only [spec_CountsOf.j0]
      exact Ev.pos trivial (Ev.const rfl)
    · refine Ev.neg h2 ?_
      have := spec_rows x T hb x.length 0 (by omega)
      rw [List.drop_zero] at this
      refine Ev.bind (a := good T none x) this ?_
      refine Ev.succ ?_
      simp only [spec_CountsOf.j0]
      cases hg : good T none x
      · rw [if_pos (.inr rfl)]
        exact Ev.pos rfl (Ev.const rfl)
      · rw [if_neg (by simp [h2])]
        refine Ev.neg (by simp) ?_
        obtain ⟨n, rfl⟩ : ∃ n : Nat, T = (n : Int) := ⟨T.toNat, by omega⟩
        exact spec_out n (by omega) x (by omega) n 0 (by omega)
/-! The program's list. -/
theorem impl_in (T : Nat) (hT : T ≤ 512) (x : List Rn) (g : Int → Int) (i : Nat) (r : Rn) (h0 : 2 ≤ r.f0) (h1 : 1 ≤ r.f1) (h2 : r.f0 ≤ 512) (h4 : r.f1 ≤ 512) (h3 : r.f0 + r.f1 ≤ (T : Int)) (w : List Int × Int) (hi : i ≤ 1048576)
    (hn : Ev (fun k => impl_CountsOf.l0 k (T : Int) (tab T fun b => if b ≥ r.f0 ∧ b < wrap64 (r.f0 + r.f1) then r.f2 else g b) x (x.length : Int) ((i + 1 : Nat) : Int)) w) (d : Nat) :
    ∀ j : Nat, ((j + d : Nat) : Int) = r.f0 + r.f1 → r.f0 ≤ (j : Int) → Ev (fun k => impl_CountsOf.l1 k (T : Int) (tab T fun b => if b ≥ r.f0 ∧ b < (j : Int) then r.f2 else g b) (j : Int) x (x.length : Int) (i : Int) r.f0 r.f1 r.f2) w := by
  have e : wrap64 (r.f0 + r.f1) = r.f0 + r.f1 := wr (by omega) (by omega)
  induction d with
  | zero =>
    intro j hj _
    refine Ev.succ ?_
    simp only [impl_CountsOf.l1, wr1 i (by omega), e]
    refine Ev.neg (by omega) ?_
    rw [show (j : Int) = r.f0 + r.f1 by omega]
    rw [e] at hn; exact hn
  | succ d ih =>
    intro j hj hj2
    refine Ev.succ ?_
    simp only [impl_CountsOf.l1, e, Int.toNat_natCast, wr1 j (by omega)]
    refine Ev.pos (by omega) (Ev.pos (by omega) (Ev.pos (by rw [tab_length]; omega) ?_))
    rw [tab_set]
    have h := ih (j + 1) (by omega) (by omega)
    rw [tab_congr T _ (fun b => if b = (j : Int) then r.f2 else if b ≥ r.f0 ∧ b < (j : Int) then r.f2 else g b)] at h
    · exact h
    · intro b hb
      by_cases hbj : (b : Int) = (j : Int)
      · rw [if_pos hbj, if_pos (by omega)]
      · rw [if_neg hbj]
        by_cases hc : (b : Int) ≥ r.f0 ∧ (b : Int) < (j : Int)
        · rw [if_pos hc, if_pos (by omega)]
        · rw [if_neg hc, if_neg (by omega)]
theorem impl_out (T : Nat) (hT : T ≤ 512) (x : List Rn) (hx : x.length ≤ 512) (hr : ∀ r ∈ x, rowOK 512 r = true) (d : Nat) : ∀ i : Nat, i + d = x.length →
    Ev (fun k => impl_CountsOf.l0 k (T : Int) (tab T fun b => lastC b (x.take i)) x (x.length : Int) (i : Int)) (if ((x.drop i).all fun r => decide (wrap64 (r.f0 + r.f1) ≤ (T : Int))) = true then (tab T fun b => lastC b x, 0) else ([], 5)) := by
  induction d with
  | zero =>
    intro i hi
    refine Ev.succ ?_
    simp only [impl_CountsOf.l0]
    rw [List.take_of_length_le (by omega), List.drop_of_length_le (by omega)]
    exact Ev.neg (by omega) (Ev.const (by simp))
  | succ d ih =>
    intro i hi
    have hn := ih (i + 1) (by omega)
    have hri := hr x[i] (List.getElem_mem (by omega))
    rw [← rdR_eq x i (by omega)] at hri
    have hl := fun b => lastC_take b x i (by omega)
    refine Ev.succ ?_
    simp only [impl_CountsOf.l0]
    rw [dropR x i (by omega), List.all_cons]
    simp only [hl] at hn
    generalize rd_T89 x (i : Int) = r at *
    unfold rowOK at hri
    have hri := of_decide_eq_true hri
    obtain ⟨a, b, c, d, e, f, g⟩ := hri
    have e1 : wrap64 (r.f0 + r.f1) = r.f0 + r.f1 := wr (by omega) (by omega)
    refine Ev.pos (by omega) (Ev.pos (by omega) (Ev.pos (by omega) ?_))
    by_cases h : wrap64 (r.f0 + r.f1) > (T : Int)
    · refine Ev.pos h (Ev.const ?_)
      rw [decide_eq_false (by omega)]; simp
    · refine Ev.neg h ?_
      rw [decide_eq_true (by omega), Bool.true_and]
      have hq := impl_in T hT x (fun b => lastC b (x.take i)) i r (by omega) (by omega) (by omega) (by omega) (by omega) _ (by omega) hn r.f1.toNat r.f0.toNat (by omega) (by omega)
      rw [show ((r.f0.toNat : Nat) : Int) = r.f0 by omega] at hq
      rw [tab_congr T _ (fun b => lastC b (x.take i))] at hq
      · exact hq
      · intro b hb; rw [if_neg (by omega)]
theorem impl_ev (T : Int) (x : List Rn) (hb : x.length ≤ 1048576) : Ev (fun k => impl_CountsOf.f k T x) (told T x) := by
  have hbad : T < 8 ∨ T > 512 → Ev (fun k => impl_CountsOf.j0 k T x true) (told T x) := by
    intro h
    unfold told; rw [if_pos h]
    refine Ev.succ ?_
    simp only [impl_CountsOf.j0]
    exact Ev.pos trivial (Ev.const rfl)
  unfold impl_CountsOf.f
  by_cases h1 : T < 8
  · exact Ev.pos h1 (hbad (.inl h1))
  refine Ev.neg h1 ?_
  by_cases h2 : T > 512
  · rw [decide_eq_true h2]; exact hbad (.inr h2)
  rw [decide_eq_false h2]
  unfold told; rw [if_neg (by omega)]
  refine Ev.succ ?_
  simp only [impl_CountsOf.j0]
  refine Ev.neg (by simp) ?_
  have hj : Ev (fun k => impl_CountsOf.j1 k T x true) (([], 5) : List Int × Int) := by
    refine Ev.succ ?_
    simp only [impl_CountsOf.j1]
    exact Ev.pos trivial (Ev.const rfl)
  by_cases h3 : (x.length : Int) > 512
  · rw [if_pos (.inl h3)]; exact Ev.pos h3 hj
  refine Ev.neg h3 ?_
  have := impl_rows x hb x.length 0 (by omega)
  rw [List.drop_zero] at this
  refine Ev.bind (a := good 512 none x) this ?_
  cases hg : good 512 none x
  · rw [if_pos (.inr (by rw [good_split T (by omega) (by omega), hg]; rfl))]; exact hj
  · refine Ev.succ ?_
    simp only [impl_CountsOf.j1]
    refine Ev.neg (by simp) (Ev.pos (by omega) (Ev.pos (by omega) ?_))
    obtain ⟨n, rfl⟩ : ∃ n : Nat, T = (n : Int) := ⟨T.toNat, by omega⟩
    have ho := impl_out n (by omega) x (by omega) (good_rows 512 x none hg) x.length 0 (by omega)
    rw [List.drop_zero] at ho
    rw [good_split (n : Int) (by omega) (by omega), hg, Bool.true_and]
    have hz : (List.replicate ((n : Int)).toNat (0 : Int)) = tab n fun b => lastC b (x.take 0) := by
      refine List.ext_getElem (by simp [tab]) fun i h1 h2 => ?_
      simp [tab, lastC]
    rw [hz]
    cases ha : x.all fun r => decide (wrap64 (r.f0 + r.f1) ≤ (n : Int))
    · rw [if_pos (.inr rfl)]
      rw [ha, if_neg (by simp)] at ho; exact ho
    · rw [if_neg (by simp [h3])]
      rw [ha, if_pos rfl] at ho; exact ho
/-! The copies of the rows. -/
def cvR (r : S91) : Rn := ⟨r.f0, r.f1, r.f2⟩
theorem rdL_eq (x : List S91) (i : Nat) (h : i < x.length) : rd_T91 x (i : Int) = x[i] := by unfold rd_T91; simp [h]
theorem toR_from (l : List S91) (hb : l.length ≤ 1048576) (d : Nat) : ∀ (i : Nat) (y : List Rn), i + d = l.length → y.length = l.length → y.take i = (l.map cvR).take i → Ev (fun k => laws_toRunS.l0 k l y (i : Int)) (l.map cvR) := by
  induction d with
  | zero =>
    intro i y hi hl hp
    refine Ev.succ ?_
    simp only [laws_toRunS.l0]
    refine Ev.neg (by omega) (Ev.const ?_)
    rw [List.take_of_length_le (by omega), List.take_of_length_le (by simp; omega)] at hp
    exact hp
  | succ d ih =>
    intro i y hi hl hp
    refine Ev.succ ?_
    simp only [laws_toRunS.l0, wr1 i (by omega), laws_toRun.f, Option.bind_some, Int.toNat_natCast]
    refine Ev.pos (by omega) (Ev.pos (by omega) (Ev.pos (by omega) ?_))
    refine ih (i + 1) _ (by omega) (by simpa using hl) ?_
    refine rset_take y (l.map cvR) i (by simp; omega) (by simp; omega) hp _ ?_
    rw [rdR_eq _ _ (by simp; omega), rdL_eq l i (by omega), List.getElem_map, cvR]
theorem toR_ev (l : List S91) (hb : l.length ≤ 1048576) : Ev (fun k => laws_toRunS.f k l) (l.map cvR) := by
  unfold laws_toRunS.f
  refine Ev.pos (by omega) (Ev.pos (by omega) ?_)
  exact toR_from l hb l.length 0 _ (by omega) (by simp) (by simp)
theorem FnExactCountsOf : laws_FnExactCountsOf.Pure := by
  intro T l _ hlen
  refine Ev.rounds (r := true) ?_
  unfold laws_FnExactCountsOf.f
  by_cases hl : (l.length : Int) > 1048576
  · by_cases hw : wrap64 (1048576 - (l.length : Int)) < 0
    · refine Ev.bind0 (a := -1) (by unfold laws_szRunS.f; rw [if_pos hw]) (Ev.pos (by omega) (Ev.const rfl))
    · exfalso; have h1 := hlen.1; simp only [maxLen] at h1; unfold wrap64 at hw; omega
  have hw : wrap64 (1048576 - (l.length : Int)) = 1048576 - (l.length : Int) := wr (by omega) (by omega)
  refine Ev.bind0 (a := 1048576 - (l.length : Int)) (by unfold laws_szRunS.f; rw [hw, if_neg (by omega)]) (Ev.neg (by omega) ?_)
  have ta := toR_ev l (by omega)
  have hxl : (l.map cvR).length = l.length := by simp
  generalize l.map cvR = x at *
  have hs := spec_ev T x (by omega)
  have hi := impl_ev T x (by omega)
  have hle := told_length T x
  generalize told T x = w at *
  obtain ⟨w0, w1⟩ := w
  simp only at hle
  have hq := eq_refl_ev w0 (by omega)
  refine Ev.bind ta (Ev.bind hs (Ev.bind ta (Ev.bind hi (Ev.bind hq (Ev.pos rfl ?_)))))
  refine Ev.succ ?_
  simp only [laws_FnExactCountsOf.j0]
  refine Ev.neg (by simp) (Ev.bind ta (Ev.bind (req_ev x (by omega)) (Ev.pos rfl (Ev.bind (rmark_ev x 1 (by omega) (by omega)) (Ev.neg (by simp only []; omega) (Ev.bind hq (Ev.pos rfl ?_)))))))
  refine Ev.succ ?_
  simp only [laws_FnExactCountsOf.j1]
  refine Ev.neg (by simp) (Ev.bind (mk_ev w0 1 (by omega) (by omega)) (Ev.bind (hd_ev 1 w0.length (by omega) (by omega)) (Ev.neg (by omega) (Ev.pos rfl ?_))))
  exact Ev.bind ta (Ev.bind hi (Ev.bind hq (Ev.pos rfl (Ev.pos rfl (Ev.const rfl)))))

end Go.Proofs.Ytbimmmmjdimebaa.Pure
