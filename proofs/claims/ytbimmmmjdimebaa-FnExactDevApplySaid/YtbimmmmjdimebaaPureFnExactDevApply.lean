/- For every device, every list of steps and every count, the program's DevApply returns what the reference's returns. -/
import Derived.Test.YtbimmmmjdimebaaHFnExactDevApply
import Derived.Test.YtbimmmmjdimebaaRead
import Derived.Test.YtbimmmmjdimebaaPlain
namespace Go.Proofs.Ytbimmmmjdimebaa.Pure
open Go.RowKit Go.Proofs.Ytbimmmmjdimebaa Go.Proofs.Ytbimmmmjdimebaa.PFnExactDevApply Go.Proofs.YtbimmmmjdimebaaW.PrintWords Go.Proofs.YtbimmmmjdimebaaW.PrintLast Go.Proofs.Ytbimmmmjdimebaa.Plain
set_option linter.unusedVariables false

/-- The one plain statement of the law. -/
def laws_FnExactDevApply.Pure : Prop := ∀ (a0_0 : Int) (l0_1 : List Int) (l0_2 : List S127) (l1 : List S122) (a2 : Int), (Read.GI .i64) a0_0 → (Read.GL (Read.GI .u8)) l0_1 → (Read.GL (fun y : S127 => (Read.GP (Read.GI .i64) (Read.GL (Read.GI .u8))) (y.f0, y.f1))) l0_2 → (Read.GL (fun y : S122 => (Read.GP (Read.GI .i64) (Read.GP (Read.GI .i64) (Read.GL (Read.GI .u8)))) (y.f0, y.f1, y.f2))) l1 → (Read.GI .i64) a2 → laws_FnExactDevApply.Facts a0_0 l0_1 l0_2 l1 a2

theorem tob_ev (x : List Int) (hb : x.length ≤ 1048576) : Ev (fun k => laws_toByteS.f k x) x := copy_ev (F := laws_toByteS.l0) (fun _ _ _ _ => rfl) _ (by decide) x hb
theorem eqb_ev (x : List Int) (hb : x.length ≤ 1048576) : Ev (fun k => laws_eqByteS.f k x x) true := eq_ev (F := laws_eqByteS.l0) (fun _ _ _ _ => rfl) x hb

theorem mkb_ev (x : List Int) (m : Nat) (hm : m ≤ 1099511627776) (hb : x.length ≤ 1048576) : Ev (fun k => laws_markByteS.f k x (m : Int)) (((m + x.length : Nat) : Int), marks (· % 256) m x.length) := mark_ev (F := laws_markByteS.l0) (c := (· % 256)) (fun _ _ _ _ => rfl) m x hm hb
theorem hdb_ev (m n : Nat) (hm : m ≤ 1099511627776) (hb : n ≤ 1048576) : Ev (fun k => laws_heldByteS.f k (marks (· % 256) m n) (m : Int)) ((m + n : Nat) : Int) := held_ev (F := laws_heldByteS.l0) (c := (· % 256)) (fun _ _ _ _ => rfl) m n hm hb

/-! Devices: sizes, copies, comparison, marks. -/
abbrev Pn := S67
abbrev Pl := S127
theorem rdP_at (p : List Pn) (r : Pn) (t : List Pn) : rd_T67 (p ++ r :: t) (p.length : Int) = r := by unfold rd_T67; simp
theorem rdL_at (p : List Pl) (r : Pl) (t : List Pl) : rd_T127 (p ++ r :: t) (p.length : Int) = r := by unfold rd_T127; simp
def tot (l : List Pn) : Nat := (l.map fun r => r.f1.length).sum
def cvP (r : Pl) : Pn := ⟨r.f0, r.f1⟩
theorem tot_cons (r : Pn) (t : List Pn) : tot (r :: t) = r.f1.length + tot t := by simp [tot]
theorem szB_ev (l : List Int) (hl : l.length ≤ maxLen) (b : Int) (h0 : 0 ≤ b) (h1 : b ≤ 1048576) : laws_szByteS.f l b = some (if b < (l.length : Int) then -1 else b - (l.length : Int)) := by
  have hw : wrap64 (b - (l.length : Int)) = b - (l.length : Int) := by simp only [maxLen] at hl; exact wr (by omega) (by omega)
  unfold laws_szByteS.f
  rw [hw]
  by_cases h : b < (l.length : Int)
  · rw [if_pos (by omega), if_pos h]
  · rw [if_neg (by omega), if_neg h]
theorem szP_from (l : List Pl) : ∀ (p : List Pl) (b : Int), (∀ r ∈ l, r.f1.length ≤ maxLen) → p.length + l.length ≤ 1048576 → 0 ≤ b → b ≤ 1048576 →
    ∃ left : Int, Ev (fun k => laws_szPendingS.l0 k (p ++ l) b (p.length : Int)) left ∧ (left < 0 ∨ (tot (l.map cvP) : Int) ≤ b) := by
  induction l with
  | nil =>
    intro p b _ _ h0 _
    refine ⟨b, Ev.succ ?_, .inr (by simp [tot]; omega)⟩
    simp only [laws_szPendingS.l0]
    exact Ev.neg (by simp) (Ev.const rfl)
  | cons r t ih =>
    intro p b hr hp h0 h1
    simp only [List.length_cons] at hp
    have hs := szB_ev r.f1 (hr r (by simp)) b h0 h1
    by_cases h : b < (r.f1.length : Int)
    · rw [if_pos h] at hs
      refine ⟨-1, Ev.succ ?_, .inl (by omega)⟩
      simp only [laws_szPendingS.l0, rdL_at]
      refine Ev.pos (by simp only [List.length_append, List.length_cons]; omega) (Ev.pos (by omega) ?_)
      refine Ev.bind0 (a := -1) (by simp [laws_szPending.f, hs]) (Ev.pos (by omega) (Ev.const rfl))
    · rw [if_neg h] at hs
      obtain ⟨left, he, hl⟩ := ih (p ++ [r]) (b - (r.f1.length : Int)) (fun q hq => hr q (List.mem_cons_of_mem _ hq)) (by simp; omega) (by omega) (by omega)
      refine ⟨left, Ev.succ ?_, hl.imp id (fun h2 => by rw [List.map_cons, tot_cons]; simp only [cvP]; omega)⟩
      simp only [laws_szPendingS.l0, rdL_at, wr1 p.length (by omega)]
      refine Ev.pos (by simp only [List.length_append, List.length_cons]; omega) (Ev.pos (by omega) ?_)
      refine Ev.bind0 (a := b - (r.f1.length : Int)) (by simp only [laws_szPending.f, hs, Option.bind_some]; rw [if_neg (by omega)]) (Ev.neg (by omega) ?_)
      simpa using he
theorem sz_dev (a : Int) (l1 : List Int) (l2 : List Pl) (h1 : l1.length ≤ maxLen) (h2 : l2.length ≤ maxLen) (h3 : ∀ r ∈ l2, r.f1.length ≤ maxLen) (b : Int) (hb0 : 0 ≤ b) (hb : b ≤ 1048576) :
    ∃ left : Int, Ev (fun k => laws_szDevice.f k a l1 l2 b) left ∧ (left < 0 ∨ (l1.length + l2.length + tot (l2.map cvP) : Int) ≤ b) := by
  unfold laws_szDevice.f
  have hs := szB_ev l1 h1 b hb0 hb
  by_cases h : b < (l1.length : Int)
  · rw [if_pos h] at hs
    exact ⟨-1, Ev.bind0 hs (Ev.pos (by omega) (Ev.const rfl)), .inl (by omega)⟩
  rw [if_neg h] at hs
  have hw : wrap64 (b - (l1.length : Int) - (l2.length : Int)) = b - (l1.length : Int) - (l2.length : Int) := by simp only [maxLen] at h2; exact wr (by omega) (by omega)
  by_cases hn : b - (l1.length : Int) - (l2.length : Int) < 0
  · have he : Ev (fun k => laws_szPendingS.f k l2 (b - (l1.length : Int))) (-1) := ⟨0, fun k _ => by simp only [laws_szPendingS.f]; rw [hw, if_pos hn]⟩
    exact ⟨-1, Ev.bind0 hs (Ev.neg (by omega) (Ev.bind he (Ev.pos (by omega) (Ev.const rfl)))), .inl (by omega)⟩
  · obtain ⟨left, he, hl⟩ := szP_from l2 [] (b - (l1.length : Int) - (l2.length : Int)) h3 (by simp; omega) (by omega) (by omega)
    have he2 : Ev (fun k => laws_szPendingS.f k l2 (b - (l1.length : Int))) left := by
      unfold laws_szPendingS.f
      rw [hw]
      exact Ev.neg hn (by simpa using he)
    by_cases hle : left < 0
    · exact ⟨-1, Ev.bind0 hs (Ev.neg (by omega) (Ev.bind he2 (Ev.pos hle (Ev.const rfl)))), .inl (by omega)⟩
    · refine ⟨left, Ev.bind0 hs (Ev.neg (by omega) (Ev.bind he2 (Ev.neg hle (Ev.const rfl)))), .inr ?_⟩
      rcases hl with hl | hl <;> omega
theorem tot_mem (l : List Pn) (r : Pn) (h : r ∈ l) : r.f1.length ≤ tot l := by
  induction l with
  | nil => simp at h
  | cons q t ih =>
    rw [tot_cons]
    rcases List.mem_cons.1 h with rfl | h
    · omega
    · have := ih h; omega
/-! Copies. -/
theorem toP_from (l : List Pl) : ∀ (p : List Pl) (q : List Pn) (z : List Pn), (∀ r ∈ l, r.f1.length ≤ 1048576) → p.length + l.length ≤ 1048576 → q.length = p.length → z.length = l.length →
    Ev (fun k => laws_toPendingS.l0 k (p ++ l) (q ++ z) (p.length : Int)) (q ++ l.map cvP) := by
  induction l with
  | nil =>
    intro p q z _ _ hq hz
    refine Ev.succ ?_
    simp only [laws_toPendingS.l0]
    obtain rfl : z = [] := List.length_eq_zero_iff.1 (by simpa using hz)
    exact Ev.neg (by simp) (Ev.const rfl)
  | cons r t ih =>
    intro p q z hr hp hq hz
    simp only [List.length_cons] at hp hz
    obtain ⟨z0, z1, rfl⟩ : ∃ z0 z1, z = z0 :: z1 := by cases z with | nil => simp at hz | cons a b => exact ⟨a, b, rfl⟩
    simp only [List.length_cons] at hz
    have hn := ih (p ++ [r]) (q ++ [cvP r]) z1 (fun q hq => hr q (List.mem_cons_of_mem _ hq)) (by simp; omega) (by simp [hq]) (by omega)
    have hc := tob_ev r.f1 (hr r (by simp))
    refine Ev.succ ?_
    simp only [laws_toPendingS.l0, rdL_at, wr1 p.length (by omega)]
    refine Ev.pos (by simp only [List.length_append, List.length_cons]; omega) (Ev.pos (by omega) ?_)
    refine Ev.bind (a := (r.f0, r.f1)) ?_ (Ev.pos (by simp only [List.length_append, List.length_cons]; omega) ?_)
    · unfold laws_toPending.f
      exact Ev.bind hc (Ev.const rfl)
    · simp only [Int.toNat_natCast]
      have e : (q ++ z0 :: z1).set p.length (⟨r.f0, r.f1⟩ : Pn) = (q ++ [cvP r]) ++ z1 := by
        rw [← hq]; simp [cvP]
      rw [e]
      simpa [cvP] using hn
theorem to_dev (a : Int) (l1 : List Int) (l2 : List Pl) (h : l1.length + l2.length + tot (l2.map cvP) ≤ 1048576) : Ev (fun k => laws_toDevice.f k a l1 l2) (a, l1, l2.map cvP) := by
  unfold laws_toDevice.f
  refine Ev.bind (tob_ev l1 (by omega)) (Ev.bind (a := l2.map cvP) ?_ (Ev.const rfl))
  unfold laws_toPendingS.f
  refine Ev.pos (by omega) (Ev.pos (by omega) ?_)
  have := toP_from l2 [] [] (List.replicate l2.length z67) (fun r hr => by have := tot_mem (l2.map cvP) (cvP r) (List.mem_map_of_mem hr); simp only [cvP] at this; omega) (by simp; omega) rfl (by simp)
  simpa using this
/-! A device compared with itself. -/
theorem eqP_from (l : List Pn) : ∀ (p : List Pn), (∀ r ∈ l, r.f1.length ≤ 1048576) → p.length + l.length ≤ 1048576 → Ev (fun k => laws_eqPendingS.l0 k (p ++ l) (p ++ l) (p.length : Int)) true := by
  induction l with
  | nil =>
    intro p _ _
    refine Ev.succ ?_
    simp only [laws_eqPendingS.l0]
    exact Ev.neg (by simp) (Ev.const rfl)
  | cons r t ih =>
    intro p hr hp
    simp only [List.length_cons] at hp
    have hn := ih (p ++ [r]) (fun q hq => hr q (List.mem_cons_of_mem _ hq)) (by simp; omega)
    refine Ev.succ ?_
    simp only [laws_eqPendingS.l0, rdP_at, wr1 p.length (by omega)]
    refine Ev.pos (by simp only [List.length_append, List.length_cons]; omega) (Ev.pos (by omega) (Ev.pos (by simp only [List.length_append, List.length_cons]; omega) ?_))
    refine Ev.bind (a := true) ?_ (Ev.pos rfl (by simpa using hn))
    unfold laws_eqPending.f
    exact Ev.pos rfl (Ev.bind (eqb_ev r.f1 (hr r (by simp))) (Ev.pos rfl (Ev.const rfl)))
theorem eq_dev (a : Int) (l1 : List Int) (l2 : List Pn) (h : l1.length + l2.length + tot l2 ≤ 1048576) : Ev (fun k => laws_eqDevice.f k a l1 l2 a l1 l2) true := by
  unfold laws_eqDevice.f
  refine Ev.pos rfl (Ev.bind (eqb_ev l1 (by omega)) (Ev.pos rfl (Ev.bind (a := true) ?_ (Ev.pos rfl (Ev.const rfl)))))
  unfold laws_eqPendingS.f
  have := eqP_from l2 [] (fun r hr => by have := tot_mem l2 r hr; omega) (by simp; omega)
  exact Ev.pos rfl (by simpa using this)
/-! Marks. -/
def pm : Nat → List Pn → List Pn
  | _, [] => []
  | m, r :: t => ⟨(m : Int), marks (· % 256) (m + 1) r.f1.length⟩ :: pm (m + 1 + r.f1.length) t
def pmE : Nat → List Pn → Nat
  | m, [] => m
  | m, r :: t => pmE (m + 1 + r.f1.length) t
theorem pmE_eq (l : List Pn) : ∀ m, pmE m l = m + l.length + tot l := by
  induction l with
  | nil => intro m; simp [pmE, tot]
  | cons r t ih => intro m; rw [pmE, ih, tot_cons, List.length_cons]; omega
theorem markP_from (l : List Pn) : ∀ (p : List Pn) (m : Nat), m + l.length + tot l ≤ 1099511627776 → p.length + l.length ≤ 1048576 → (∀ r ∈ l, r.f1.length ≤ 1048576) →
    Ev (fun k => laws_markPendingS.l0 k (p ++ l) (m : Int) (p.length : Int)) (((pmE m l : Nat) : Int), p ++ pm m l) := by
  induction l with
  | nil =>
    intro p m _ _ _
    refine Ev.succ ?_
    simp only [laws_markPendingS.l0]
    exact Ev.neg (by simp) (Ev.const rfl)
  | cons r t ih =>
    intro p m hm hp hr
    rw [tot_cons] at hm
    simp only [List.length_cons] at hm hp
    have hn := ih (p ++ [⟨(m : Int), marks (· % 256) (m + 1) r.f1.length⟩]) (m + 1 + r.f1.length) (by omega) (by simp; omega) (fun q hq => hr q (List.mem_cons_of_mem _ hq))
    have hk := mkb_ev r.f1 (m + 1) (by omega) (hr r (by simp))
    refine Ev.succ ?_
    simp only [laws_markPendingS.l0, rdP_at, wr1 p.length (by omega), wr1 m (by omega), Int.toNat_natCast]
    refine Ev.pos (by simp only [List.length_append, List.length_cons]; omega) (Ev.pos (by omega) (Ev.bind hk ?_))
    simpa [pm, pmE] using hn
theorem mark_dev (a : Int) (l1 : List Int) (l2 : List Pn) (m : Nat) (h : m + l1.length + l2.length + tot l2 ≤ 4194304) (h1 : l1.length + l2.length + tot l2 ≤ 1048576) :
    Ev (fun k => laws_markDevice.f k a l1 l2 (m : Int)) (((m + l1.length + l2.length + tot l2 : Nat) : Int), marks (· % 256) m l1.length, pm (m + l1.length) l2) := by
  unfold laws_markDevice.f
  refine Ev.bind (mkb_ev l1 m (by omega) (by omega)) ?_
  refine Ev.bind (a := (((pmE (m + l1.length) l2 : Nat) : Int), pm (m + l1.length) l2)) ?_ (Ev.const ?_)
  · have := markP_from l2 [] (m + l1.length) (by omega) (by simp; omega) (fun r hr => by have := tot_mem l2 r hr; omega)
    unfold laws_markPendingS.f
    simpa using this
  · rw [pmE_eq]

theorem heldP_from (l : List Pn) : ∀ (p : List Pn) (m : Nat), m + l.length + tot l ≤ 1099511627776 → p.length + l.length ≤ 1048576 → (∀ r ∈ l, r.f1.length ≤ 1048576) →
    Ev (fun k => laws_heldPendingS.l0 k (p ++ pm m l) (m : Int) (p.length : Int)) ((pmE m l : Nat) : Int) := by
  induction l with
  | nil =>
    intro p m _ _ _
    refine Ev.succ ?_
    simp only [laws_heldPendingS.l0, pm]
    exact Ev.neg (by simp) (Ev.const rfl)
  | cons r t ih =>
    intro p m hm hp hr
    rw [tot_cons] at hm
    simp only [List.length_cons] at hm hp
    have hn := ih (p ++ [⟨(m : Int), marks (· % 256) (m + 1) r.f1.length⟩]) (m + 1 + r.f1.length) (by omega) (by simp; omega) (fun q hq => hr q (List.mem_cons_of_mem _ hq))
    have hk := hdb_ev (m + 1) r.f1.length (by omega) (hr r (by simp))
    refine Ev.succ ?_
    simp only [laws_heldPendingS.l0, pm, rdP_at, wr1 p.length (by omega), wr1 m (by omega)]
    refine Ev.pos (by simp only [List.length_append, List.length_cons]; omega) (Ev.pos (by omega) (Ev.pos trivial (Ev.bind hk (Ev.neg (by omega) ?_))))
    simpa [pmE] using hn
theorem held_dev (a : Int) (l1 : List Int) (l2 : List Pn) (m : Nat) (h : m + l1.length + l2.length + tot l2 ≤ 4194304) (h1 : l1.length + l2.length + tot l2 ≤ 1048576) :
    Ev (fun k => laws_heldDevice.f k a (marks (· % 256) m l1.length) (pm (m + l1.length) l2) (m : Int)) ((m + l1.length + l2.length + tot l2 : Nat) : Int) := by
  unfold laws_heldDevice.f
  refine Ev.bind (hdb_ev m l1.length (by omega) (by omega)) (Ev.neg (by omega) ?_)
  refine Ev.bind (a := ((pmE (m + l1.length) l2 : Nat) : Int)) ?_ (Ev.neg (by omega) (Ev.const ?_))
  · have := heldP_from l2 [] (m + l1.length) (by omega) (by simp; omega) (fun r hr => by have := tot_mem l2 r hr; omega)
    unfold laws_heldPendingS.f
    simpa using this
  · rw [pmE_eq]

/-! What a valid device is. -/
def rowV (a : Int) (r : Pn) : Bool := decide (¬ r.f0 < 0 ∧ ¬ r.f0 ≥ a ∧ (r.f1.length : Int) = 128)
def validB (a : Int) (l1 : List Int) (l2 : List Pn) : Bool := decide (8 ≤ a ∧ a ≤ 512 ∧ (l1.length : Int) = a * 128 ∧ l2.length ≤ 2048) && l2.all (rowV a)
theorem spec_rowsV (a : Int) (l1 : List Int) (l : List Pn) : ∀ p : List Pn, p.length + l.length ≤ 1048576 → Ev (fun k => spec_l1Valid.l0 k (p.length : Int) a l1 (p ++ l)) (l.all (rowV a)) := by
  induction l with
  | nil =>
    intro p _
    refine Ev.succ ?_
    simp only [spec_l1Valid.l0]
    exact Ev.neg (by simp) (Ev.const rfl)
  | cons r t ih =>
    intro p hp
    simp only [List.length_cons] at hp
    have hn := ih (p ++ [r]) (by simp; omega)
    refine Ev.succ ?_
    simp only [spec_l1Valid.l0, rdP_at, wr1 p.length (by omega)]
    refine Ev.pos (by simp only [List.length_append, List.length_cons]; omega) (Ev.pos (by omega) ?_)
    by_cases h1 : r.f0 < 0
    · exact Ev.pos h1 (Ev.const (by simp [rowV, h1]))
    refine Ev.neg h1 ?_
    by_cases h2 : r.f0 ≥ a
    · exact Ev.pos h2 (Ev.const (by simp [rowV]; omega))
    refine Ev.neg h2 ?_
    by_cases h3 : (r.f1.length : Int) = 128
    · refine Ev.pos h3 ?_
      have e : rowV a r = true := by unfold rowV; rw [decide_eq_true ⟨h1, h2, h3⟩]
      rw [List.all_cons, e, Bool.true_and]
      simpa using hn
    · exact Ev.neg h3 (Ev.const (by simp [rowV]; omega))
theorem impl_rowsV (a : Int) (l1 : List Int) (l : List Pn) : ∀ p : List Pn, p.length + l.length ≤ 1048576 → Ev (fun k => impl_validDevice.l0 k (p ++ l) ((p ++ l).length : Int) (p.length : Int) a l1 (p ++ l)) (l.all (rowV a)) := by
  induction l with
  | nil =>
    intro p _
    refine Ev.succ ?_
    simp only [impl_validDevice.l0]
    exact Ev.neg (by simp) (Ev.const rfl)
  | cons r t ih =>
    intro p hp
    simp only [List.length_cons] at hp
    have hn := ih (p ++ [r]) (by simp; omega)
    refine Ev.succ ?_
    simp only [impl_validDevice.l0, rdP_at, wr1 p.length (by omega)]
    refine Ev.pos (by simp only [List.length_append, List.length_cons]; omega) (Ev.pos (by omega) (Ev.pos (by simp only [List.length_append, List.length_cons]; omega) ?_))
    by_cases h1 : r.f0 < 0
    · exact Ev.pos h1 (Ev.const (by simp [rowV, h1]))
    refine Ev.neg h1 ?_
    by_cases h2 : r.f0 ≥ a
    · exact Ev.pos h2 (Ev.const (by simp [rowV]; omega))
    refine Ev.neg h2 ?_
    by_cases h3 : (r.f1.length : Int) = 128
    · refine Ev.pos h3 ?_
      have e : rowV a r = true := by unfold rowV; rw [decide_eq_true ⟨h1, h2, h3⟩]
      rw [List.all_cons, e, Bool.true_and]
      simpa using hn
    · exact Ev.neg h3 (Ev.const (by simp [rowV]; omega))
theorem spec_valid (a : Int) (l1 : List Int) (l2 : List Pn) (h : l1.length + l2.length ≤ 1048576) : Ev (fun k => spec_l1Valid.f k a l1 l2) (validB a l1 l2) := by
  have hbad : (¬ (8 ≤ a ∧ a ≤ 512 ∧ (l1.length : Int) = a * 128 ∧ l2.length ≤ 2048)) → Ev (fun k => spec_l1Valid.j0 k true a l1 l2) (validB a l1 l2) := by
    intro hn
    refine Ev.succ ?_
    simp only [spec_l1Valid.j0]
    exact Ev.pos trivial (Ev.const (by unfold validB; rw [decide_eq_false hn]; rfl))
  unfold spec_l1Valid.f
  refine Ev.bind0 (a := decide (8 ≤ a ∧ a ≤ 512)) (by unfold spec_l1BlocksOK.f; split <;> simp <;> omega) ?_
  by_cases h1 : 8 ≤ a ∧ a ≤ 512
  · have hw : wrap64 (a * 128) = a * 128 := wr (by omega) (by omega)
    rw [decide_eq_true h1, hw]
    refine Ev.pos rfl ?_
    by_cases h2 : (l1.length : Int) = a * 128
    · refine Ev.pos h2 ?_
      by_cases h3 : (l2.length : Int) > 2048
      · rw [decide_eq_true h3]; exact hbad (by omega)
      · rw [decide_eq_false h3]
        refine Ev.succ ?_
        simp only [spec_l1Valid.j0]
        refine Ev.neg (by simp) ?_
        unfold validB; rw [decide_eq_true ⟨h1.1, h1.2, h2, by omega⟩, Bool.true_and]
        have := spec_rowsV a l1 l2 [] (by simp; omega)
        simpa using this
    · exact Ev.neg h2 (hbad (fun z => h2 z.2.2.1))
  · rw [decide_eq_false h1]
    exact Ev.neg (by simp) (hbad (fun z => h1 ⟨z.1, z.2.1⟩))
theorem impl_valid (a : Int) (l1 : List Int) (l2 : List Pn) (h : l1.length + l2.length ≤ 1048576) : Ev (fun k => impl_validDevice.f k a l1 l2) (validB a l1 l2) := by
  have hbad : (¬ (8 ≤ a ∧ a ≤ 512 ∧ (l1.length : Int) = a * 128 ∧ l2.length ≤ 2048)) → Ev (fun k => impl_validDevice.j0 k true a l1 l2) (validB a l1 l2) := by
    intro hn
    refine Ev.succ ?_
    simp only [impl_validDevice.j0]
    exact Ev.pos trivial (Ev.const (by unfold validB; rw [decide_eq_false hn]; rfl))
  unfold impl_validDevice.f
  by_cases h1 : a < 8
  · exact Ev.pos h1 (hbad (by omega))
  refine Ev.neg h1 ?_
  by_cases h2 : a > 512
  · exact Ev.pos h2 (hbad (by omega))
  refine Ev.neg h2 ?_
  have hw : wrap64 (a * 128) = a * 128 := wr (by omega) (by omega)
  rw [hw]
  by_cases h3 : (l1.length : Int) = a * 128
  · rw [show ((l1.length : Int) != a * 128) = false by simp [h3]]
    refine Ev.succ ?_
    simp only [impl_validDevice.j0]
    refine Ev.neg (by simp) ?_
    by_cases h4 : (l2.length : Int) > 2048
    · exact Ev.pos h4 (Ev.const (by unfold validB; rw [decide_eq_false (by omega)]; rfl))
    · refine Ev.neg h4 ?_
      unfold validB; rw [decide_eq_true ⟨by omega, by omega, h3, by omega⟩, Bool.true_and]
      have := impl_rowsV a l1 l2 [] (by simp; omega)
      simpa using this
  · rw [show ((l1.length : Int) != a * 128) = true by simp [h3]]
    exact hbad (fun z => h3 z.2.2.1)
theorem valid_ok {a : Int} {l1 : List Int} {l2 : List Pn} (h : validB a l1 l2 = true) : 8 ≤ a ∧ a ≤ 512 ∧ (l1.length : Int) = a * 128 ∧ l2.length ≤ 2048 ∧ ∀ r ∈ l2, 0 ≤ r.f0 ∧ r.f0 < a ∧ r.f1.length = 128 := by
  unfold validB at h
  rw [Bool.and_eq_true] at h
  have h1 := of_decide_eq_true h.1
  refine ⟨h1.1, h1.2.1, h1.2.2.1, h1.2.2.2, fun r hr => ?_⟩
  have h2 := List.all_eq_true.1 h.2 r hr
  unfold rowV at h2
  have h3 := of_decide_eq_true h2
  omega

/-! copyDevice copies. -/
theorem copyD_from (a : Int) (l1 : List Int) (l : List Pn) : ∀ p : List Pn, p.length + l.length ≤ 1048576 → (∀ r ∈ l, r.f1.length ≤ 1048576) → Ev (fun k => impl_copyDevice.l0 k (p ++ l) ((p ++ l).length : Int) (p.length : Int) a l1 p) (a, l1, p ++ l) := by
  induction l with
  | nil =>
    intro p _ _
    refine Ev.succ ?_
    simp only [impl_copyDevice.l0]
    exact Ev.neg (by simp) (Ev.const (by simp))
  | cons r t ih =>
    intro p hp hr
    simp only [List.length_cons] at hp
    have hn := ih (p ++ [r]) (by simp; omega) (fun q hq => hr q (List.mem_cons_of_mem _ hq))
    have h0 := hr r (by simp)
    refine Ev.succ ?_
    simp only [impl_copyDevice.l0, rdP_at, wr1 p.length (by omega)]
    refine Ev.pos (by simp only [List.length_append, List.length_cons]; omega) (Ev.pos (by omega) (Ev.pos (by simp only [List.length_append, List.length_cons]; omega) (Ev.pos (by simp; omega) (Ev.pos (by omega) ?_))))
    simpa using hn
theorem copyD_ev (a : Int) (l1 : List Int) (l2 : List Pn) (h : l1.length + l2.length + tot l2 ≤ 1048576) : Ev (fun k => impl_copyDevice.f k a l1 l2) (a, l1, l2) := by
  unfold impl_copyDevice.f
  refine Ev.pos (by simp; omega) ?_
  have := copyD_from a l1 l2 [] (by simp; omega) (fun r hr => by have := tot_mem l2 r hr; omega)
  simpa using this
theorem fit_of {a : Int} {l1 : List Int} {l2 : List Pn} (hv : validB a l1 l2 = true) : fitB l1 l2 := by
  obtain ⟨h1, h2, h3, h4, h5⟩ := valid_ok hv
  refine ⟨by omega, fun n hn => ?_⟩
  have hm : rd_T67 l2 (n : Int) ∈ l2 := by unfold rd_T67; simp [hn]
  obtain ⟨g0, g1, g2⟩ := h5 _ hm
  exact ⟨g0, g2, by omega⟩

theorem copy1_from (l : List Int) : ∀ (p : List Int), p.length + l.length ≤ 1048576 → Ev (fun k => spec_l1Copy.l0 k (p ++ l) p (p.length : Int)) (p ++ l) := by
  induction l with
  | nil =>
    intro p _
    refine Ev.succ ?_
    simp only [spec_l1Copy.l0]
    exact Ev.neg (by simp) (Ev.const (by simp))
  | cons r t ih =>
    intro p hp
    simp only [List.length_cons] at hp
    have hn := ih (p ++ [r]) (by simp; omega)
    refine Ev.succ ?_
    have e : rd (p ++ r :: t) (p.length : Int) = r := by unfold rd; simp
    simp only [spec_l1Copy.l0, e, wr1 p.length (by omega)]
    refine Ev.pos (by simp only [List.length_append, List.length_cons]; omega) (Ev.pos (by omega) (Ev.pos (by omega) ?_))
    simpa using hn
theorem copy1_ev (l : List Int) (h : l.length ≤ 1048576) : Ev (fun k => spec_l1Copy.f k l) l := by
  have := copy1_from l [] (by simp; omega)
  unfold spec_l1Copy.f
  simpa using this
theorem scopyD_from (a : Int) (l1 : List Int) (l : List Pn) : ∀ p : List Pn, p.length + l.length ≤ 1048576 → (∀ r ∈ l, r.f1.length ≤ 1048576) → Ev (fun k => spec_l1CopyDevice.l0 k (p.length : Int) a l1 (p ++ l) a l1 p) (a, l1, p ++ l) := by
  induction l with
  | nil =>
    intro p _ _
    refine Ev.succ ?_
    simp only [spec_l1CopyDevice.l0]
    exact Ev.neg (by simp) (Ev.const (by simp))
  | cons r t ih =>
    intro p hp hr
    simp only [List.length_cons] at hp
    have hn := ih (p ++ [r]) (by simp; omega) (fun q hq => hr q (List.mem_cons_of_mem _ hq))
    have h0 := hr r (by simp)
    refine Ev.succ ?_
    simp only [spec_l1CopyDevice.l0, rdP_at, wr1 p.length (by omega)]
    refine Ev.pos (by simp only [List.length_append, List.length_cons]; omega) (Ev.pos (by omega) (Ev.bind (copy1_ev r.f1 h0) (Ev.pos (by omega) ?_)))
    simpa using hn
theorem scopyD_ev (a : Int) (l1 : List Int) (l2 : List Pn) (h : l1.length + l2.length + tot l2 ≤ 1048576) : Ev (fun k => spec_l1CopyDevice.f k a l1 l2) (a, l1, l2) := by
  unfold spec_l1CopyDevice.f
  refine Ev.bind (copy1_ev l1 (by omega)) ?_
  have := scopyD_from a l1 l2 [] (by simp; omega) (fun r hr => by have := tot_mem l2 r hr; omega)
  simpa using this

/-! Steps: sizes, copies, comparison, marks. -/
abbrev St := S71
abbrev Sl := S122
theorem rdS_at (p : List St) (r : St) (t : List St) : rd_T71 (p ++ r :: t) (p.length : Int) = r := by unfold rd_T71; simp
theorem rdSl_at (p : List Sl) (r : Sl) (t : List Sl) : rd_T122 (p ++ r :: t) (p.length : Int) = r := by unfold rd_T122; simp
def totS (l : List St) : Nat := (l.map fun r => r.f2.length).sum
def cvS (r : Sl) : St := ⟨r.f0, r.f1, r.f2⟩
theorem totS_cons (r : St) (t : List St) : totS (r :: t) = r.f2.length + totS t := by simp [totS]
theorem totS_mem (l : List St) (r : St) (h : r ∈ l) : r.f2.length ≤ totS l := by
  induction l with
  | nil => simp at h
  | cons q t ih =>
    rw [totS_cons]
    rcases List.mem_cons.1 h with rfl | h
    · omega
    · have := ih h; omega
theorem szP2_from (l : List Pl) : ∀ (p : List Pl) (b : Int), (∀ r ∈ l, r.f1.length ≤ maxLen) → p.length + l.length ≤ 1048576 → 0 ≤ b → b ≤ 1048576 →
    ∃ left : Int, Ev (fun k => laws_szPendingS.l0 k (p ++ l) b (p.length : Int)) left ∧ (left < 0 ∨ left + (tot (l.map cvP) : Int) ≤ b) := by
  induction l with
  | nil =>
    intro p b _ _ h0 _
    refine ⟨b, Ev.succ ?_, .inr (by simp [tot])⟩
    simp only [laws_szPendingS.l0]
    exact Ev.neg (by simp) (Ev.const rfl)
  | cons r t ih =>
    intro p b hr hp h0 h1
    simp only [List.length_cons] at hp
    have hs := szB_ev r.f1 (hr r (by simp)) b h0 h1
    by_cases h : b < (r.f1.length : Int)
    · rw [if_pos h] at hs
      refine ⟨-1, Ev.succ ?_, .inl (by omega)⟩
      simp only [laws_szPendingS.l0, rdL_at]
      refine Ev.pos (by simp only [List.length_append, List.length_cons]; omega) (Ev.pos (by omega) ?_)
      refine Ev.bind0 (a := -1) (by simp [laws_szPending.f, hs]) (Ev.pos (by omega) (Ev.const rfl))
    · rw [if_neg h] at hs
      obtain ⟨left, he, hl⟩ := ih (p ++ [r]) (b - (r.f1.length : Int)) (fun q hq => hr q (List.mem_cons_of_mem _ hq)) (by simp; omega) (by omega) (by omega)
      refine ⟨left, Ev.succ ?_, hl.imp id (fun h2 => by rw [List.map_cons, tot_cons]; simp only [cvP]; omega)⟩
      simp only [laws_szPendingS.l0, rdL_at, wr1 p.length (by omega)]
      refine Ev.pos (by simp only [List.length_append, List.length_cons]; omega) (Ev.pos (by omega) ?_)
      refine Ev.bind0 (a := b - (r.f1.length : Int)) (by simp only [laws_szPending.f, hs, Option.bind_some]; rw [if_neg (by omega)]) (Ev.neg (by omega) ?_)
      simpa using he
theorem sz_dev2 (a : Int) (l1 : List Int) (l2 : List Pl) (h1 : l1.length ≤ maxLen) (h2 : l2.length ≤ maxLen) (h3 : ∀ r ∈ l2, r.f1.length ≤ maxLen) (b : Int) (hb0 : 0 ≤ b) (hb : b ≤ 1048576) :
    ∃ left : Int, Ev (fun k => laws_szDevice.f k a l1 l2 b) left ∧ (left < 0 ∨ left + (l1.length + l2.length + tot (l2.map cvP) : Int) ≤ b) := by
  unfold laws_szDevice.f
  have hs := szB_ev l1 h1 b hb0 hb
  by_cases h : b < (l1.length : Int)
  · rw [if_pos h] at hs
    exact ⟨-1, Ev.bind0 hs (Ev.pos (by omega) (Ev.const rfl)), .inl (by omega)⟩
  rw [if_neg h] at hs
  have hw : wrap64 (b - (l1.length : Int) - (l2.length : Int)) = b - (l1.length : Int) - (l2.length : Int) := by simp only [maxLen] at h2; exact wr (by omega) (by omega)
  by_cases hn : b - (l1.length : Int) - (l2.length : Int) < 0
  · have he : Ev (fun k => laws_szPendingS.f k l2 (b - (l1.length : Int))) (-1) := ⟨0, fun k _ => by simp only [laws_szPendingS.f]; rw [hw, if_pos hn]⟩
    exact ⟨-1, Ev.bind0 hs (Ev.neg (by omega) (Ev.bind he (Ev.pos (by omega) (Ev.const rfl)))), .inl (by omega)⟩
  · obtain ⟨left, he, hl⟩ := szP2_from l2 [] (b - (l1.length : Int) - (l2.length : Int)) h3 (by simp; omega) (by omega) (by omega)
    have he2 : Ev (fun k => laws_szPendingS.f k l2 (b - (l1.length : Int))) left := by
      unfold laws_szPendingS.f
      rw [hw]
      exact Ev.neg hn (by simpa using he)
    by_cases hle : left < 0
    · exact ⟨-1, Ev.bind0 hs (Ev.neg (by omega) (Ev.bind he2 (Ev.pos hle (Ev.const rfl)))), .inl (by omega)⟩
    · refine ⟨left, Ev.bind0 hs (Ev.neg (by omega) (Ev.bind he2 (Ev.neg hle (Ev.const rfl)))), .inr ?_⟩
      rcases hl with hl | hl <;> omega
theorem szS_from (l : List Sl) : ∀ (p : List Sl) (b : Int), (∀ r ∈ l, r.f2.length ≤ maxLen) → p.length + l.length ≤ 1048576 → 0 ≤ b → b ≤ 1048576 →
    ∃ left : Int, Ev (fun k => laws_szStepS.l0 k (p ++ l) b (p.length : Int)) left ∧ (left < 0 ∨ left + (totS (l.map cvS) : Int) ≤ b) := by
  induction l with
  | nil =>
    intro p b _ _ h0 _
    refine ⟨b, Ev.succ ?_, .inr (by simp [totS])⟩
    simp only [laws_szStepS.l0]
    exact Ev.neg (by simp) (Ev.const rfl)
  | cons r t ih =>
    intro p b hr hp h0 h1
    simp only [List.length_cons] at hp
    have hs := szB_ev r.f2 (hr r (by simp)) b h0 h1
    by_cases h : b < (r.f2.length : Int)
    · rw [if_pos h] at hs
      refine ⟨-1, Ev.succ ?_, .inl (by omega)⟩
      simp only [laws_szStepS.l0, rdSl_at]
      refine Ev.pos (by simp only [List.length_append, List.length_cons]; omega) (Ev.pos (by omega) ?_)
      refine Ev.bind0 (a := -1) (by simp [laws_szStep.f, hs]) (Ev.pos (by omega) (Ev.const rfl))
    · rw [if_neg h] at hs
      obtain ⟨left, he, hl⟩ := ih (p ++ [r]) (b - (r.f2.length : Int)) (fun q hq => hr q (List.mem_cons_of_mem _ hq)) (by simp; omega) (by omega) (by omega)
      refine ⟨left, Ev.succ ?_, hl.imp id (fun h2 => by rw [List.map_cons, totS_cons]; simp only [cvS]; omega)⟩
      simp only [laws_szStepS.l0, rdSl_at, wr1 p.length (by omega)]
      refine Ev.pos (by simp only [List.length_append, List.length_cons]; omega) (Ev.pos (by omega) ?_)
      refine Ev.bind0 (a := b - (r.f2.length : Int)) (by simp only [laws_szStep.f, hs, Option.bind_some]; rw [if_neg (by omega)]) (Ev.neg (by omega) ?_)
      simpa using he
theorem sz_steps (l : List Sl) (h2 : l.length ≤ maxLen) (h3 : ∀ r ∈ l, r.f2.length ≤ maxLen) (b : Int) (hb0 : 0 ≤ b) (hb : b ≤ 1048576) :
    ∃ left : Int, Ev (fun k => laws_szStepS.f k l b) left ∧ (left < 0 ∨ left + (l.length + totS (l.map cvS) : Int) ≤ b) := by
  have hw : wrap64 (b - (l.length : Int)) = b - (l.length : Int) := by simp only [maxLen] at h2; exact wr (by omega) (by omega)
  by_cases hn : b - (l.length : Int) < 0
  · exact ⟨-1, ⟨0, fun k _ => by simp only [laws_szStepS.f]; rw [hw, if_pos hn]⟩, .inl (by omega)⟩
  · obtain ⟨left, he, hl⟩ := szS_from l [] (b - (l.length : Int)) h3 (by simp; omega) (by omega) (by omega)
    refine ⟨left, ?_, ?_⟩
    · unfold laws_szStepS.f
      rw [hw]
      exact Ev.neg hn (by simpa using he)
    · rcases hl with hl | hl
      · exact .inl hl
      · exact .inr (by omega)
theorem toS_from (l : List Sl) : ∀ (p : List Sl) (q : List St) (z : List St), (∀ r ∈ l, r.f2.length ≤ 1048576) → p.length + l.length ≤ 1048576 → q.length = p.length → z.length = l.length →
    Ev (fun k => laws_toStepS.l0 k (p ++ l) (q ++ z) (p.length : Int)) (q ++ l.map cvS) := by
  induction l with
  | nil =>
    intro p q z _ _ hq hz
    refine Ev.succ ?_
    simp only [laws_toStepS.l0]
    obtain rfl : z = [] := List.length_eq_zero_iff.1 (by simpa using hz)
    exact Ev.neg (by simp) (Ev.const rfl)
  | cons r t ih =>
    intro p q z hr hp hq hz
    simp only [List.length_cons] at hp hz
    obtain ⟨z0, z1, rfl⟩ : ∃ z0 z1, z = z0 :: z1 := by cases z with | nil => simp at hz | cons a b => exact ⟨a, b, rfl⟩
    simp only [List.length_cons] at hz
    have hn := ih (p ++ [r]) (q ++ [cvS r]) z1 (fun q hq => hr q (List.mem_cons_of_mem _ hq)) (by simp; omega) (by simp [hq]) (by omega)
    have hc := tob_ev r.f2 (hr r (by simp))
    refine Ev.succ ?_
    simp only [laws_toStepS.l0, rdSl_at, wr1 p.length (by omega)]
    refine Ev.pos (by simp only [List.length_append, List.length_cons]; omega) (Ev.pos (by omega) ?_)
    refine Ev.bind (a := (r.f0, r.f1, r.f2)) ?_ (Ev.pos (by simp only [List.length_append, List.length_cons]; omega) ?_)
    · unfold laws_toStep.f
      exact Ev.bind hc (Ev.const rfl)
    · simp only [Int.toNat_natCast]
      have e : (q ++ z0 :: z1).set p.length (⟨r.f0, r.f1, r.f2⟩ : St) = (q ++ [cvS r]) ++ z1 := by
        rw [← hq]; simp [cvS]
      rw [e]
      simpa [cvS] using hn
theorem to_steps (l : List Sl) (h : l.length + totS (l.map cvS) ≤ 1048576) : Ev (fun k => laws_toStepS.f k l) (l.map cvS) := by
  unfold laws_toStepS.f
  refine Ev.pos (by omega) (Ev.pos (by omega) ?_)
  have := toS_from l [] [] (List.replicate l.length z71) (fun r hr => by have := totS_mem (l.map cvS) (cvS r) (List.mem_map_of_mem hr); simp only [cvS] at this; omega) (by simp; omega) rfl (by simp)
  simpa using this
theorem eqS_from (l : List St) : ∀ (p : List St), (∀ r ∈ l, r.f2.length ≤ 1048576) → p.length + l.length ≤ 1048576 → Ev (fun k => laws_eqStepS.l0 k (p ++ l) (p ++ l) (p.length : Int)) true := by
  induction l with
  | nil =>
    intro p _ _
    refine Ev.succ ?_
    simp only [laws_eqStepS.l0]
    exact Ev.neg (by simp) (Ev.const rfl)
  | cons r t ih =>
    intro p hr hp
    simp only [List.length_cons] at hp
    have hn := ih (p ++ [r]) (fun q hq => hr q (List.mem_cons_of_mem _ hq)) (by simp; omega)
    refine Ev.succ ?_
    simp only [laws_eqStepS.l0, rdS_at, wr1 p.length (by omega)]
    refine Ev.pos (by simp only [List.length_append, List.length_cons]; omega) (Ev.pos (by omega) (Ev.pos (by simp only [List.length_append, List.length_cons]; omega) ?_))
    refine Ev.bind (a := true) ?_ (Ev.pos rfl (by simpa using hn))
    unfold laws_eqStep.f
    exact Ev.pos rfl (Ev.pos rfl (Ev.bind (eqb_ev r.f2 (hr r (by simp))) (Ev.pos rfl (Ev.const rfl))))
theorem eq_steps (l : List St) (h : l.length + totS l ≤ 1048576) : Ev (fun k => laws_eqStepS.f k l l) true := by
  unfold laws_eqStepS.f
  have := eqS_from l [] (fun r hr => by have := totS_mem l r hr; omega) (by simp; omega)
  exact Ev.pos rfl (by simpa using this)
def sm : Nat → List St → List St
  | _, [] => []
  | m, r :: t => ⟨(m : Int), ((m + 1 : Nat) : Int), marks (· % 256) (m + 2) r.f2.length⟩ :: sm (m + 2 + r.f2.length) t
def smE : Nat → List St → Nat
  | m, [] => m
  | m, r :: t => smE (m + 2 + r.f2.length) t
theorem smE_eq (l : List St) : ∀ m, smE m l = m + 2 * l.length + totS l := by
  induction l with
  | nil => intro m; simp [smE, totS]
  | cons r t ih => intro m; rw [smE, ih, totS_cons, List.length_cons]; omega
theorem markS_from (l : List St) : ∀ (p : List St) (m : Nat), m + 2 * l.length + totS l ≤ 1099511627776 → p.length + l.length ≤ 1048576 → (∀ r ∈ l, r.f2.length ≤ 1048576) →
    Ev (fun k => laws_markStepS.l0 k (p ++ l) (m : Int) (p.length : Int)) (((smE m l : Nat) : Int), p ++ sm m l) := by
  induction l with
  | nil =>
    intro p m _ _ _
    refine Ev.succ ?_
    simp only [laws_markStepS.l0]
    exact Ev.neg (by simp) (Ev.const rfl)
  | cons r t ih =>
    intro p m hm hp hr
    rw [totS_cons] at hm
    simp only [List.length_cons] at hm hp
    have hn := ih (p ++ [⟨(m : Int), ((m + 1 : Nat) : Int), marks (· % 256) (m + 2) r.f2.length⟩]) (m + 2 + r.f2.length) (by omega) (by simp; omega) (fun q hq => hr q (List.mem_cons_of_mem _ hq))
    have hk := mkb_ev r.f2 (m + 2) (by omega) (hr r (by simp))
    refine Ev.succ ?_
    simp only [laws_markStepS.l0, rdS_at, wr1 p.length (by omega), wr1 m (by omega), wr1 (m + 1) (by omega), Int.toNat_natCast]
    refine Ev.pos (by simp only [List.length_append, List.length_cons]; omega) (Ev.pos (by omega) (Ev.bind hk ?_))
    simpa [sm, smE] using hn
theorem mark_steps (l : List St) (m : Nat) (h : m + 2 * l.length + totS l ≤ 1099511627776) (h1 : l.length + totS l ≤ 1048576) :
    Ev (fun k => laws_markStepS.f k l (m : Int)) (((m + 2 * l.length + totS l : Nat) : Int), sm m l) := by
  have := markS_from l [] m h (by simp; omega) (fun r hr => by have := totS_mem l r hr; omega)
  unfold laws_markStepS.f
  rw [smE_eq] at this
  simpa using this

theorem tot_128 (l : List Pn) (h : ∀ r ∈ l, r.f1.length = 128) : tot l = l.length * 128 := by
  induction l with
  | nil => rfl
  | cons r t ih => rw [tot_cons, ih (fun q hq => h q (List.mem_cons_of_mem _ hq)), h r (by simp), List.length_cons]; omega
def toldA (a : Int) (l1 : List Int) (l2 : List Pn) (st : List St) (c : Int) : Int × List Int × List Pn × Int := if validB a l1 l2 = true then (if (st.length : Int) > 4096 then (a, l1, l2, 4) else (a, applyF a l1 l2 (st.take (min (max c 0) (st.length : Int)).toNat))) else (0, [], [], 1)
theorem copies_ev (l : List St) (h : ∀ s ∈ l, s.f2.length ≤ 1048576) : ∃ k0, ∀ k, k0 ≤ k → ∀ s ∈ l, spec_l1Copy.f k s.f2 = some s.f2 := by
  induction l with
  | nil => exact ⟨0, fun k _ s hs => by simp at hs⟩
  | cons r t ih =>
    obtain ⟨k1, h1⟩ := ih (fun s hs => h s (List.mem_cons_of_mem _ hs))
    obtain ⟨k2, h2⟩ := copy1_ev r.f2 (h r (by simp))
    refine ⟨k1 + k2, fun k hk s hs => ?_⟩
    rcases List.mem_cons.1 hs with rfl | hs
    · exact h2 k (by omega)
    · exact h1 k (by omega) s hs
theorem spec_ev (a : Int) (l1 : List Int) (l2 : List Pn) (st : List St) (c : Int) (hs : st.length + totS st ≤ 1048576) (h : l1.length + l2.length + tot l2 ≤ 1048576) : Ev (fun k => spec_DevApply.f k a l1 l2 st c) (toldA a l1 l2 st c) := by
  unfold spec_DevApply.f toldA
  refine Ev.bind (spec_valid a l1 l2 (by omega)) ?_
  cases hv : validB a l1 l2
  · exact Ev.neg (by simp) (Ev.const (by simp))
  refine Ev.pos rfl ?_
  rw [if_pos rfl]
  refine Ev.bind (scopyD_ev a l1 l2 h) ?_
  by_cases h1 : (st.length : Int) > 4096
  · exact Ev.pos h1 (Ev.const (by rw [if_pos h1]))
  refine Ev.neg h1 ?_
  rw [if_neg h1]
  obtain ⟨k0, hk0⟩ := copies_ev (st.take (min (max c 0) (st.length : Int)).toNat) (fun s hm => by have := totS_mem st s (List.mem_of_mem_take hm); omega)
  exact ⟨k0, fun k hk => if_pos ⟨fit_of hv, (valid_ok hv).2.2.1, rfl, hk0 k hk⟩⟩
theorem impl_ev (a : Int) (l1 : List Int) (l2 : List Pn) (st : List St) (c : Int) (h : l1.length + l2.length + tot l2 ≤ 1048576) : Ev (fun k => impl_DevApply.f k a l1 l2 st c) (toldA a l1 l2 st c) := by
  unfold impl_DevApply.f toldA
  refine Ev.bind (impl_valid a l1 l2 (by omega)) ?_
  cases hv : validB a l1 l2
  · exact Ev.neg (by simp) (Ev.const (by simp))
  refine Ev.pos rfl ?_
  rw [if_pos rfl]
  refine Ev.bind (copyD_ev a l1 l2 h) ?_
  by_cases h1 : (st.length : Int) > 4096
  · exact Ev.pos h1 (Ev.const (by rw [if_pos h1]))
  refine Ev.neg h1 ?_
  rw [if_neg h1]
  exact Ev.pos ⟨fit_of hv, (valid_ok hv).2.2.1⟩ (Ev.const rfl)
theorem writeL_len (a b : Int) (d : List Int) (x2 : List Pn) (h : x2.length ≤ 2048) : (writeL a b d x2).length ≤ 2048 := by
  unfold writeL
  split
  · rename_i hc
    unfold writeC at hc
    split at hc
    · cases hc
    · split at hc
      · cases hc
      · split at hc
        · cases hc
        · simp only [List.length_append, List.length_cons, List.length_nil]; omega
  · exact h
theorem apply_fit (a : Int) (st : List St) : ∀ (x1 : List Int) (x2 : List Pn), fitB x1 x2 → (x1.length : Int) = a * 128 → x2.length ≤ 2048 →
    fitB (applyF a x1 x2 st).1 (applyF a x1 x2 st).2.1 ∧ ((applyF a x1 x2 st).1.length : Int) = a * 128 ∧ (applyF a x1 x2 st).2.1.length ≤ 2048 := by
  induction st with
  | nil => intro x1 x2 h1 h2 h3; exact ⟨h1, h2, h3⟩
  | cons s t ih =>
    intro x1 x2 h1 h2 h3
    have hone : fitB (applyOne a x1 x2 s).1 (applyOne a x1 x2 s).2.1 ∧ ((applyOne a x1 x2 s).1.length : Int) = a * 128 ∧ (applyOne a x1 x2 s).2.1.length ≤ 2048 := by
      unfold applyOne
      by_cases c1 : s.f0 = 1
      · rw [if_pos c1]; exact ⟨writeL_fit h1 h2, h2, writeL_len a _ _ _ h3⟩
      rw [if_neg c1]
      by_cases c2 : s.f0 = 2
      · rw [if_pos c2]
        have hl := setB_length x1 x2 (fun _ => true) h1 x2.length (Nat.le_refl _)
        exact ⟨⟨by show (setB x1 x2 (fun _ => true) x2.length).length ≤ 1048576; rw [hl]; exact h1.1, fun n hn => by simp at hn⟩, by show ((setB x1 x2 (fun _ => true) x2.length).length : Int) = a * 128; rw [hl]; exact h2, by simp⟩
      rw [if_neg c2]
      exact ⟨h1, h2, h3⟩
    unfold applyF
    split
    · exact ih _ _ hone.1 hone.2.1 hone.2.2
    · exact hone
theorem tot_fit {l1 : List Int} {l2 : List Pn} (h : fitB l1 l2) : tot l2 = l2.length * 128 := by
  refine tot_128 l2 (fun r hr => ?_)
  obtain ⟨n, hn, e⟩ := List.getElem_of_mem hr
  have := (h.2 n hn).2.1
  have e2 : rd_T67 l2 (n : Int) = r := by unfold rd_T67; rw [← e]; simp [hn]
  rw [e2] at this
  exact this
theorem told_size (a : Int) (l1 : List Int) (l2 : List Pn) (st : List St) (c : Int) : (toldA a l1 l2 st c).2.1.length + (toldA a l1 l2 st c).2.2.1.length + tot (toldA a l1 l2 st c).2.2.1 ≤ 1048576 := by
  unfold toldA
  split
  · rename_i hv
    obtain ⟨g1, g2, g3, g4, g5⟩ := valid_ok hv
    split
    · have ht := tot_fit (fit_of hv)
      show l1.length + l2.length + tot l2 ≤ 1048576
      omega
    · obtain ⟨q1, q2, q3⟩ := apply_fit a (st.take (min (max c 0) (st.length : Int)).toNat) l1 l2 (fit_of hv) g3 g4
      generalize applyF a l1 l2 (st.take (min (max c 0) (st.length : Int)).toNat) = w at *
      have ht := tot_fit q1
      show w.1.length + w.2.1.length + tot w.2.1 ≤ 1048576
      omega
  · simp [tot]
theorem FnExactDevApply : laws_FnExactDevApply.Pure := by
  intro a l1 l2 ss c g0 g1 g2 g3 g4
  unfold laws_FnExactDevApply.Facts
  obtain ⟨left, ⟨k0, hs⟩, hl⟩ := sz_dev2 a l1 l2 g1.1 g2.1 (fun r hr => (g2.2 r hr).2.1) 1048576 (by omega) (by omega)
  by_cases hn : left < 0
  · exact .inl ⟨k0, left, hs k0 (Nat.le_refl _), hn⟩
  have hml : (l2.map cvP).length = l2.length := by simp
  have hsl : (ss.map cvS).length = ss.length := by simp
  have hz : l1.length + (l2.map cvP).length + tot (l2.map cvP) ≤ 1048576 := by rcases hl with hl | hl <;> omega
  obtain ⟨left2, ⟨kb, hs2⟩, hl2⟩ := sz_steps ss g3.1 (fun r hr => (g3.2 r hr).2.2.1) left (by omega) (by rcases hl with hl | hl <;> omega)
  by_cases hn2 : left2 < 0
  · exact .inr (.inl ⟨k0 + kb, left, left2, hs _ (by omega), hn, hs2 _ (by omega), hn2⟩)
  have hzs : (ss.map cvS).length + totS (ss.map cvS) ≤ 1048576 := by rcases hl with hl | hl <;> rcases hl2 with hl2 | hl2 <;> omega
  obtain ⟨k1, e1⟩ := to_dev a l1 l2 (by omega)
  obtain ⟨k9, e9⟩ := to_steps ss (by omega)
  obtain ⟨k2, e2⟩ := spec_ev a l1 (l2.map cvP) (ss.map cvS) c hzs hz
  obtain ⟨k3, e3⟩ := impl_ev a l1 (l2.map cvP) (ss.map cvS) c hz
  have ht := told_size a l1 (l2.map cvP) (ss.map cvS) c
  generalize toldA a l1 (l2.map cvP) (ss.map cvS) c = w at *
  obtain ⟨w0, w1, w2, w3⟩ := w
  simp only at ht
  obtain ⟨k4, e4⟩ := eq_dev w0 w1 w2 ht
  obtain ⟨k5, e5⟩ := eq_dev a l1 (l2.map cvP) hz
  obtain ⟨k10, e10⟩ := eq_steps (ss.map cvS) hzs
  obtain ⟨k6, e6⟩ := mark_dev a l1 (l2.map cvP) 1 (by omega) hz
  obtain ⟨k11, e11⟩ := mark_steps (ss.map cvS) (1 + l1.length + (l2.map cvP).length + tot (l2.map cvP)) (by omega) hzs
  obtain ⟨k7, e7⟩ := mark_dev w0 w1 w2 1 (by omega) ht
  obtain ⟨k8, e8⟩ := held_dev w0 w1 w2 1 (by omega) ht
  let K := k0 + kb + k1 + k2 + k3 + k4 + k5 + k6 + k7 + k8 + k9 + k10 + k11
  refine .inr (.inr ⟨K, left, left2, _, _, _, _, _, _, _, _, _, _, _, _, _, _, _, _, hs K (by omega), hn, hs2 K (by omega), hn2, e1 K (by omega), e9 K (by omega), e2 K (by omega), e3 K (by omega), e4 K (by omega), e5 K (by omega), e10 K (by omega), e6 K (by omega), e11 K (by omega), ?_, e7 K (by omega), e8 K (by omega), ?_⟩)
  all_goals omega

end Go.Proofs.Ytbimmmmjdimebaa.Pure
