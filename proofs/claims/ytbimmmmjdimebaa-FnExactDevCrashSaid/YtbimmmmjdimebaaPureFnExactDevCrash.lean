/- FnExactDevCrash: at every argument DevCrash answers as the specification, field by field; it writes into no argument and keeps nothing of one; its answer owns its memory. -/
import Derived.Test.YtbimmmmjdimebaaHFnExactDevCrash
import Derived.Test.YtbimmmmjdimebaaRead
import Derived.Test.YtbimmmmjdimebaaPlain
namespace Go.Proofs.Ytbimmmmjdimebaa.Pure
open Go.RowKit Go.Proofs.Ytbimmmmjdimebaa Go.Proofs.Ytbimmmmjdimebaa.PFnExactDevCrash Go.Proofs.YtbimmmmjdimebaaW.PrintWords Go.Proofs.YtbimmmmjdimebaaW.PrintLast Go.Proofs.Ytbimmmmjdimebaa.Plain
set_option linter.unusedVariables false

/-- The one plain statement of the law. -/
def laws_FnExactDevCrash.Pure : Prop := ∀ (a0_0 : Int) (l0_1 : List Int) (l0_2 : List S127) (l1 : List Int), (Read.GI .i64) a0_0 → (Read.GL (Read.GI .u8)) l0_1 → (Read.GL (fun y : S127 => (Read.GP (Read.GI .i64) (Read.GL (Read.GI .u8))) (y.f0, y.f1))) l0_2 → (Read.GL (Read.GI .u8)) l1 → laws_FnExactDevCrash.Facts a0_0 l0_1 l0_2 l1

theorem tob_ev (x : List Int) (hb : x.length ≤ 1048576) : Ev (fun k => laws_toByteS.f k x) x := copy_ev (F := laws_toByteS.l0) (fun _ _ _ _ => rfl) _ (by decide) x hb
theorem eqb_ev (x : List Int) (hb : x.length ≤ 1048576) : Ev (fun k => laws_eqByteS.f k x x) true := eq_ev (F := laws_eqByteS.l0) (fun _ _ _ _ => rfl) x hb

theorem mkb_ev (x : List Int) (m : Nat) (hm : m ≤ 1099511627776) (hb : x.length ≤ 1048576) : Ev (fun k => laws_markByteS.f k x (m : Int)) (((m + x.length : Nat) : Int), marks (· % 256) m x.length) := mark_ev (F := laws_markByteS.l0) (c := (· % 256)) (fun _ _ _ _ => rfl) m x hm hb
theorem hdb_ev (m n : Nat) (hm : m ≤ 1099511627776) (hb : n ≤ 1048576) : Ev (fun k => laws_heldByteS.f k (marks (· % 256) m n) (m : Int)) ((m + n : Nat) : Int) := held_ev (F := laws_heldByteS.l0) (c := (· % 256)) (fun _ _ _ _ => rfl) m n hm hb

/-! Devices: sizes, copies, comparison, marks. -/
abbrev Pn := S67
abbrev Pl := S127
theorem rdP_at (p : List Pn) (r : Pn) (t : List Pn) : rd_T67 (p ++ r :: t) (p.length : Int) = r := by unfold rd_T67; simp
theorem rdL_at (p : List Pl) (r : Pl) (t : List Pl) : rd_T127 (p ++ r :: t) (p.length : Int) = r := by unfold rd_T127; simp
def tot (l : List Pn) : Nat := (l.map fun r => r.f1.length).sum
def cvP (r : Pl) : Pn := ⟨r.f0, r.f1⟩
theorem tot_cons (r : Pn) (t : List Pn) : tot (r :: t) = r.f1.length + tot t := by simp [tot]
theorem szB_ev (l : List Int) (hl : l.length ≤ maxLen) (b : Int) (h0 : 0 ≤ b) (h1 : b ≤ 1048576) : laws_szByteS.f l b = some (if b < (l.length : Int) then -1 else b - (l.length : Int)) := by
  have hw : wrap64 (b - (l.length : Int)) = b - (l.length : Int) := by simp only [maxLen] at hl; exact wr (by omega) (by omega)
  unfold laws_szByteS.f
  rw [hw]
  by_cases h : b < (l.length : Int)
  · rw [if_pos (by omega), if_pos h]
  · rw [if_neg (by omega), if_neg h]
theorem szP_from (l : List Pl) : ∀ (p : List Pl) (b : Int), (∀ r ∈ l, r.f1.length ≤ maxLen) → p.length + l.length ≤ 1048576 → 0 ≤ b → b ≤ 1048576 →
    ∃ left : Int, Ev (fun k => laws_szPendingS.l0 k (p ++ l) b (p.length : Int)) left ∧ (left < 0 ∨ (tot (l.map cvP) : Int) ≤ b) := by
  induction l with
  | nil =>
    intro p b _ _ h0 _
    refine ⟨b, Ev.succ ?_, .inr (by simp [tot]; omega)⟩
    simp only [laws_szPendingS.l0]
    exact Ev.neg (by simp) (Ev.const rfl)
  | cons r t ih =>
    intro p b hr hp h0 h1
    simp only [List.length_cons] at hp
    have hs := szB_ev r.f1 (hr r (by simp)) b h0 h1
    by_cases h : b < (r.f1.length : Int)
    · rw [if_pos h] at hs
      refine ⟨-1, Ev.succ ?_, .inl (by omega)⟩
      simp only [laws_szPendingS.l0, rdL_at]
      refine Ev.pos (by simp only [List.length_append, List.length_cons]; omega) (Ev.pos (by omega) ?_)
      refine Ev.bind0 (a := -1) (by simp [laws_szPending.f, hs]) (Ev.pos (by omega) (Ev.const rfl))
    · rw [if_neg h] at hs
      obtain ⟨left, he, hl⟩ := ih (p ++ [r]) (b - (r.f1.length : Int)) (fun q hq => hr q (List.mem_cons_of_mem _ hq)) (by simp; omega) (by omega) (by omega)
      refine ⟨left, Ev.succ ?_, hl.imp id (fun h2 => by rw [List.map_cons, tot_cons]; simp only [cvP]; omega)⟩
      simp only [laws_szPendingS.l0, rdL_at, wr1 p.length (by omega)]
      refine Ev.pos (by simp only [List.length_append, List.length_cons]; omega) (Ev.pos (by omega) ?_)
      refine Ev.bind0 (a := b - (r.f1.length : Int)) (by simp only [laws_szPending.f, hs, Option.bind_some]; rw [if_neg (by omega)]) (Ev.neg (by omega) ?_)
      simpa using he
theorem sz_dev (a : Int) (l1 : List Int) (l2 : List Pl) (h1 : l1.length ≤ maxLen) (h2 : l2.length ≤ maxLen) (h3 : ∀ r ∈ l2, r.f1.length ≤ maxLen) (b : Int) (hb0 : 0 ≤ b) (hb : b ≤ 1048576) :
    ∃ left : Int, Ev (fun k => laws_szDevice.f k a l1 l2 b) left ∧ (left < 0 ∨ (l1.length + l2.length + tot (l2.map cvP) : Int) ≤ b) := by
  unfold laws_szDevice.f
  have hs := szB_ev l1 h1 b hb0 hb
  by_cases h : b < (l1.length : Int)
  · rw [if_pos h] at hs
    exact ⟨-1, Ev.bind0 hs (Ev.pos (by omega) (Ev.const rfl)), .inl (by omega)⟩
  rw [if_neg h] at hs
  have hw : wrap64 (b - (l1.length : Int) - (l2.length : Int)) = b - (l1.length : Int) - (l2.length : Int) := by simp only [maxLen] at h2; exact wr (by omega) (by omega)
  by_cases hn : b - (l1.length : Int) - (l2.length : Int) < 0
  · have he : Ev (fun k => laws_szPendingS.f k l2 (b - (l1.length : Int))) (-1) := ⟨0, fun k _ => by simp only [laws_szPendingS.f]; rw [hw, if_pos hn]⟩
    exact ⟨-1, Ev.bind0 hs (Ev.neg (by omega) (Ev.bind he (Ev.pos (by omega) (Ev.const rfl)))), .inl (by omega)⟩
  · obtain ⟨left, he, hl⟩ := szP_from l2 [] (b - (l1.length : Int) - (l2.length : Int)) h3 (by simp; omega) (by omega) (by omega)
    have he2 : Ev (fun k => laws_szPendingS.f k l2 (b - (l1.length : Int))) left := by
      unfold laws_szPendingS.f
      rw [hw]
      exact Ev.neg hn (by simpa using he)
    by_cases hle : left < 0
    · exact ⟨-1, Ev.bind0 hs (Ev.neg (by omega) (Ev.bind he2 (Ev.pos hle (Ev.const rfl)))), .inl (by omega)⟩
    · refine ⟨left, Ev.bind0 hs (Ev.neg (by omega) (Ev.bind he2 (Ev.neg hle (Ev.const rfl)))), .inr ?_⟩
      rcases hl with hl | hl <;> omega
theorem tot_mem (l : List Pn) (r : Pn) (h : r ∈ l) : r.f1.length ≤ tot l := by
  induction l with
  | nil => simp at h
  | cons q t ih =>
    rw [tot_cons]
    rcases List.mem_cons.1 h with rfl | h
    · omega
    · have := ih h; omega
/-! Copies. -/
theorem toP_from (l : List Pl) : ∀ (p : List Pl) (q : List Pn) (z : List Pn), (∀ r ∈ l, r.f1.length ≤ 1048576) → p.length + l.length ≤ 1048576 → q.length = p.length → z.length = l.length →
    Ev (fun k => laws_toPendingS.l0 k (p ++ l) (q ++ z) (p.length : Int)) (q ++ l.map cvP) := by
  induction l with
  | nil =>
    intro p q z _ _ hq hz
    refine Ev.succ ?_
    simp only [laws_toPendingS.l0]
    obtain rfl : z = [] := List.length_eq_zero_iff.1 (by simpa using hz)
    exact Ev.neg (by simp) (Ev.const rfl)
  | cons r t ih =>
    intro p q z hr hp hq hz
    simp only [List.length_cons] at hp hz
    obtain ⟨z0, z1, rfl⟩ : ∃ z0 z1, z = z0 :: z1 := by cases z with | nil => simp at hz | cons a b => exact ⟨a, b, rfl⟩
    simp only [List.length_cons] at hz
    have hn := ih (p ++ [r]) (q ++ [cvP r]) z1 (fun q hq => hr q (List.mem_cons_of_mem _ hq)) (by simp; omega) (by simp [hq]) (by omega)
    have hc := tob_ev r.f1 (hr r (by simp))
    refine Ev.succ ?_
    simp only [laws_toPendingS.l0, rdL_at, wr1 p.length (by omega)]
    refine Ev.pos (by simp only [List.length_append, List.length_cons]; omega) (Ev.pos (by omega) ?_)
    refine Ev.bind (a := (r.f0, r.f1)) ?_ (Ev.pos (by simp only [List.length_append, List.length_cons]; omega) ?_)
    · unfold laws_toPending.f
      exact Ev.bind hc (Ev.const rfl)
    · simp only [Int.toNat_natCast]
      have e : (q ++ z0 :: z1).set p.length (⟨r.f0, r.f1⟩ : Pn) = (q ++ [cvP r]) ++ z1 := by
        rw [← hq]; simp [cvP]
      rw [e]
      simpa [cvP] using hn
theorem to_dev (a : Int) (l1 : List Int) (l2 : List Pl) (h : l1.length + l2.length + tot (l2.map cvP) ≤ 1048576) : Ev (fun k => laws_toDevice.f k a l1 l2) (a, l1, l2.map cvP) := by
  unfold laws_toDevice.f
  refine Ev.bind (tob_ev l1 (by omega)) (Ev.bind (a := l2.map cvP) ?_ (Ev.const rfl))
  unfold laws_toPendingS.f
  refine Ev.pos (by omega) (Ev.pos (by omega) ?_)
  have := toP_from l2 [] [] (List.replicate l2.length z67) (fun r hr => by have := tot_mem (l2.map cvP) (cvP r) (List.mem_map_of_mem hr); simp only [cvP] at this; omega) (by simp; omega) rfl (by simp)
  simpa using this
/-! A device compared with itself. -/
theorem eqP_from (l : List Pn) : ∀ (p : List Pn), (∀ r ∈ l, r.f1.length ≤ 1048576) → p.length + l.length ≤ 1048576 → Ev (fun k => laws_eqPendingS.l0 k (p ++ l) (p ++ l) (p.length : Int)) true := by
  induction l with
  | nil =>
    intro p _ _
    refine Ev.succ ?_
    simp only [laws_eqPendingS.l0]
    exact Ev.neg (by simp) (Ev.const rfl)
  | cons r t ih =>
    intro p hr hp
    simp only [List.length_cons] at hp
    have hn := ih (p ++ [r]) (fun q hq => hr q (List.mem_cons_of_mem _ hq)) (by simp; omega)
    refine Ev.succ ?_
    simp only [laws_eqPendingS.l0, rdP_at, wr1 p.length (by omega)]
    refine Ev.pos (by simp only [List.length_append, List.length_cons]; omega) (Ev.pos (by omega) (Ev.pos (by simp only [List.length_append, List.length_cons]; omega) ?_))
    refine Ev.bind (a := true) ?_ (Ev.pos rfl (by simpa using hn))
    unfold laws_eqPending.f
    exact Ev.pos rfl (Ev.bind (eqb_ev r.f1 (hr r (by simp))) (Ev.pos rfl (Ev.const rfl)))
theorem eq_dev (a : Int) (l1 : List Int) (l2 : List Pn) (h : l1.length + l2.length + tot l2 ≤ 1048576) : Ev (fun k => laws_eqDevice.f k a l1 l2 a l1 l2) true := by
  unfold laws_eqDevice.f
  refine Ev.pos rfl (Ev.bind (eqb_ev l1 (by omega)) (Ev.pos rfl (Ev.bind (a := true) ?_ (Ev.pos rfl (Ev.const rfl)))))
  unfold laws_eqPendingS.f
  have := eqP_from l2 [] (fun r hr => by have := tot_mem l2 r hr; omega) (by simp; omega)
  exact Ev.pos rfl (by simpa using this)
/-! Marks. -/
def pm : Nat → List Pn → List Pn
  | _, [] => []
  | m, r :: t => ⟨(m : Int), marks (· % 256) (m + 1) r.f1.length⟩ :: pm (m + 1 + r.f1.length) t
def pmE : Nat → List Pn → Nat
  | m, [] => m
  | m, r :: t => pmE (m + 1 + r.f1.length) t
theorem pmE_eq (l : List Pn) : ∀ m, pmE m l = m + l.length + tot l := by
  induction l with
  | nil => intro m; simp [pmE, tot]
  | cons r t ih => intro m; rw [pmE, ih, tot_cons, List.length_cons]; omega
theorem markP_from (l : List Pn) : ∀ (p : List Pn) (m : Nat), m + l.length + tot l ≤ 1099511627776 → p.length + l.length ≤ 1048576 → (∀ r ∈ l, r.f1.length ≤ 1048576) →
    Ev (fun k => laws_markPendingS.l0 k (p ++ l) (m : Int) (p.length : Int)) (((pmE m l : Nat) : Int), p ++ pm m l) := by
  induction l with
  | nil =>
    intro p m _ _ _
    refine Ev.succ ?_
    simp only [laws_markPendingS.l0]
    exact Ev.neg (by simp) (Ev.const rfl)
  | cons r t ih =>
    intro p m hm hp hr
    rw [tot_cons] at hm
    simp only [List.length_cons] at hm hp
    have hn := ih (p ++ [⟨(m : Int), marks (· % 256) (m + 1) r.f1.length⟩]) (m + 1 + r.f1.length) (by omega) (by simp; omega) (fun q hq => hr q (List.mem_cons_of_mem _ hq))
    have hk := mkb_ev r.f1 (m + 1) (by omega) (hr r (by simp))
    refine Ev.succ ?_
    simp only [laws_markPendingS.l0, rdP_at, wr1 p.length (by omega), wr1 m (by omega), Int.toNat_natCast]
    refine Ev.pos (by simp only [List.length_append, List.length_cons]; omega) (Ev.pos (by omega) (Ev.bind hk ?_))
    simpa [pm, pmE] using hn
theorem mark_dev (a : Int) (l1 : List Int) (l2 : List Pn) (m : Nat) (h : m + l1.length + l2.length + tot l2 ≤ 4194304) (h1 : l1.length + l2.length + tot l2 ≤ 1048576) :
    Ev (fun k => laws_markDevice.f k a l1 l2 (m : Int)) (((m + l1.length + l2.length + tot l2 : Nat) : Int), marks (· % 256) m l1.length, pm (m + l1.length) l2) := by
  unfold laws_markDevice.f
  refine Ev.bind (mkb_ev l1 m (by omega) (by omega)) ?_
  refine Ev.bind (a := (((pmE (m + l1.length) l2 : Nat) : Int), pm (m + l1.length) l2)) ?_ (Ev.const ?_)
  · have := markP_from l2 [] (m + l1.length) (by omega) (by simp; omega) (fun r hr => by have := tot_mem l2 r hr; omega)
    unfold laws_markPendingS.f
    simpa using this
  · rw [pmE_eq]

theorem heldP_from (l : List Pn) : ∀ (p : List Pn) (m : Nat), m + l.length + tot l ≤ 1099511627776 → p.length + l.length ≤ 1048576 → (∀ r ∈ l, r.f1.length ≤ 1048576) →
    Ev (fun k => laws_heldPendingS.l0 k (p ++ pm m l) (m : Int) (p.length : Int)) ((pmE m l : Nat) : Int) := by
  induction l with
  | nil =>
    intro p m _ _ _
    refine Ev.succ ?_
    simp only [laws_heldPendingS.l0, pm]
    exact Ev.neg (by simp) (Ev.const rfl)
  | cons r t ih =>
    intro p m hm hp hr
    rw [tot_cons] at hm
    simp only [List.length_cons] at hm hp
    have hn := ih (p ++ [⟨(m : Int), marks (· % 256) (m + 1) r.f1.length⟩]) (m + 1 + r.f1.length) (by omega) (by simp; omega) (fun q hq => hr q (List.mem_cons_of_mem _ hq))
    have hk := hdb_ev (m + 1) r.f1.length (by omega) (hr r (by simp))
    refine Ev.succ ?_
    simp only [laws_heldPendingS.l0, pm, rdP_at, wr1 p.length (by omega), wr1 m (by omega)]
    refine Ev.pos (by simp only [List.length_append, List.length_cons]; omega) (Ev.pos (by omega) (Ev.pos trivial (Ev.bind hk (Ev.neg (by omega) ?_))))
    simpa [pmE] using hn
theorem held_dev (a : Int) (l1 : List Int) (l2 : List Pn) (m : Nat) (h : m + l1.length + l2.length + tot l2 ≤ 4194304) (h1 : l1.length + l2.length + tot l2 ≤ 1048576) :
    Ev (fun k => laws_heldDevice.f k a (marks (· % 256) m l1.length) (pm (m + l1.length) l2) (m : Int)) ((m + l1.length + l2.length + tot l2 : Nat) : Int) := by
  unfold laws_heldDevice.f
  refine Ev.bind (hdb_ev m l1.length (by omega) (by omega)) (Ev.neg (by omega) ?_)
  refine Ev.bind (a := ((pmE (m + l1.length) l2 : Nat) : Int)) ?_ (Ev.neg (by omega) (Ev.const ?_))
  · have := heldP_from l2 [] (m + l1.length) (by omega) (by simp; omega) (fun r hr => by have := tot_mem l2 r hr; omega)
    unfold laws_heldPendingS.f
    simpa using this
  · rw [pmE_eq]

/-! What a valid device is. -/
def rowV (a : Int) (r : Pn) : Bool := decide (¬ r.f0 < 0 ∧ ¬ r.f0 ≥ a ∧ (r.f1.length : Int) = 128)
def validB (a : Int) (l1 : List Int) (l2 : List Pn) : Bool := decide (8 ≤ a ∧ a ≤ 512 ∧ (l1.length : Int) = a * 128 ∧ l2.length ≤ 2048) && l2.all (rowV a)
theorem spec_rowsV (a : Int) (l1 : List Int) (l : List Pn) : ∀ p : List Pn, p.length + l.length ≤ 1048576 → Ev (fun k => spec_l1Valid.l0 k (p.length : Int) a l1 (p ++ l)) (l.all (rowV a)) := by
  induction l with
  | nil =>
    intro p _
    refine Ev.succ ?_
    simp only [spec_l1Valid.l0]
    exact Ev.neg (by simp) (Ev.const rfl)
  | cons r t ih =>
    intro p hp
    simp only [List.length_cons] at hp
    have hn := ih (p ++ [r]) (by simp; omega)
    refine Ev.succ ?_
    simp only [spec_l1Valid.l0, rdP_at, wr1 p.length (by omega)]
    refine Ev.pos (by simp only [List.length_append, List.length_cons]; omega) (Ev.pos (by omega) ?_)
    by_cases h1 : r.f0 < 0
    · exact Ev.pos h1 (Ev.const (by simp [rowV, h1]))
    refine Ev.neg h1 ?_
    by_cases h2 : r.f0 ≥ a
    · exact Ev.pos h2 (Ev.const (by simp [rowV]; omega))
    refine Ev.neg h2 ?_
    by_cases h3 : (r.f1.length : Int) = 128
    · refine Ev.pos h3 ?_
      have e : rowV a r = true := by unfold rowV; rw [decide_eq_true ⟨h1, h2, h3⟩]
      rw [List.all_cons, e, Bool.true_and]
      simpa using hn
    · exact Ev.neg h3 (Ev.const (by simp [rowV]; omega))
theorem impl_rowsV (a : Int) (l1 : List Int) (l : List Pn) : ∀ p : List Pn, p.length + l.length ≤ 1048576 → Ev (fun k => impl_validDevice.l0 k (p ++ l) ((p ++ l).length : Int) (p.length : Int) a l1 (p ++ l)) (l.all (rowV a)) := by
  induction l with
  | nil =>
    intro p _
    refine Ev.succ ?_
    simp only [impl_validDevice.l0]
    exact Ev.neg (by simp) (Ev.const rfl)
  | cons r t ih =>
    intro p hp
    simp only [List.length_cons] at hp
    have hn := ih (p ++ [r]) (by simp; omega)
    refine Ev.succ ?_
    simp only [impl_validDevice.l0, rdP_at, wr1 p.length (by omega)]
    refine Ev.pos (by simp only [List.length_append, List.length_cons]; omega) (Ev.pos (by omega) (Ev.pos (by simp only [List.length_append, List.length_cons]; omega) ?_))
    by_cases h1 : r.f0 < 0
    · exact Ev.pos h1 (Ev.const (by simp [rowV, h1]))
    refine Ev.neg h1 ?_
    by_cases h2 : r.f0 ≥ a
    · exact Ev.pos h2 (Ev.const (by simp [rowV]; omega))
    refine Ev.neg h2 ?_
    by_cases h3 : (r.f1.length : Int) = 128
    · refine Ev.pos h3 ?_
      have e : rowV a r = true := by unfold rowV; rw [decide_eq_true ⟨h1, h2, h3⟩]
      rw [List.all_cons, e, Bool.true_and]
      simpa using hn
    · exact Ev.neg h3 (Ev.const (by simp [rowV]; omega))
theorem spec_valid (a : Int) (l1 : List Int) (l2 : List Pn) (h : l1.length + l2.length ≤ 1048576) : Ev (fun k => spec_l1Valid.f k a l1 l2) (validB a l1 l2) := by
  have hbad : (¬ (8 ≤ a ∧ a ≤ 512 ∧ (l1.length : Int) = a * 128 ∧ l2.length ≤ 2048)) → Ev (fun k => spec_l1Valid.j0 k true a l1 l2) (validB a l1 l2) := by
    intro hn
    refine Ev.succ ?_
    simp only [spec_l1Valid.j0]
    exact Ev.pos trivial (Ev.const (by unfold validB; rw [decide_eq_false hn]; rfl))
  unfold spec_l1Valid.f
  refine Ev.bind0 (a := decide (8 ≤ a ∧ a ≤ 512)) (by unfold spec_l1BlocksOK.f; split <;> simp <;> omega) ?_
  by_cases h1 : 8 ≤ a ∧ a ≤ 512
  · have hw : wrap64 (a * 128) = a * 128 := wr (by omega) (by omega)
    rw [decide_eq_true h1, hw]
    refine Ev.pos rfl ?_
    by_cases h2 : (l1.length : Int) = a * 128
    · refine Ev.pos h2 ?_
      by_cases h3 : (l2.length : Int) > 2048
      · rw [decide_eq_true h3]; exact hbad (by omega)
      · rw [decide_eq_false h3]
        refine Ev.succ ?_
        simp only [spec_l1Valid.j0]
        refine Ev.neg (by simp) ?_
        unfold validB; rw [decide_eq_true ⟨h1.1, h1.2, h2, by omega⟩, Bool.true_and]
        have := spec_rowsV a l1 l2 [] (by simp; omega)
        simpa using this
    · exact Ev.neg h2 (hbad (fun z => h2 z.2.2.1))
  · rw [decide_eq_false h1]
    exact Ev.neg (by simp) (hbad (fun z => h1 ⟨z.1, z.2.1⟩))
theorem impl_valid (a : Int) (l1 : List Int) (l2 : List Pn) (h : l1.length + l2.length ≤ 1048576) : Ev (fun k => impl_validDevice.f k a l1 l2) (validB a l1 l2) := by
  have hbad : (¬ (8 ≤ a ∧ a ≤ 512 ∧ (l1.length : Int) = a * 128 ∧ l2.length ≤ 2048)) → Ev (fun k => impl_validDevice.j0 k true a l1 l2) (validB a l1 l2) := by
    intro hn
    refine Ev.succ ?_
    simp only [impl_validDevice.j0]
    exact Ev.pos trivial (Ev.const (by unfold validB; rw [decide_eq_false hn]; rfl))
  unfold impl_validDevice.f
  by_cases h1 : a < 8
  · exact Ev.pos h1 (hbad (by omega))
  refine Ev.neg h1 ?_
  by_cases h2 : a > 512
  · exact Ev.pos h2 (hbad (by omega))
  refine Ev.neg h2 ?_
  have hw : wrap64 (a * 128) = a * 128 := wr (by omega) (by omega)
  rw [hw]
  by_cases h3 : (l1.length : Int) = a * 128
  · rw [show ((l1.length : Int) != a * 128) = false by simp [h3]]
    refine Ev.succ ?_
    simp only [impl_validDevice.j0]
    refine Ev.neg (by simp) ?_
    by_cases h4 : (l2.length : Int) > 2048
    · exact Ev.pos h4 (Ev.const (by unfold validB; rw [decide_eq_false (by omega)]; rfl))
    · refine Ev.neg h4 ?_
      unfold validB; rw [decide_eq_true ⟨by omega, by omega, h3, by omega⟩, Bool.true_and]
      have := impl_rowsV a l1 l2 [] (by simp; omega)
      simpa using this
  · rw [show ((l1.length : Int) != a * 128) = true by simp [h3]]
    exact hbad (fun z => h3 z.2.2.1)
theorem valid_ok {a : Int} {l1 : List Int} {l2 : List Pn} (h : validB a l1 l2 = true) : 8 ≤ a ∧ a ≤ 512 ∧ (l1.length : Int) = a * 128 ∧ l2.length ≤ 2048 ∧ ∀ r ∈ l2, 0 ≤ r.f0 ∧ r.f0 < a ∧ r.f1.length = 128 := by
  unfold validB at h
  rw [Bool.and_eq_true] at h
  have h1 := of_decide_eq_true h.1
  refine ⟨h1.1, h1.2.1, h1.2.2.1, h1.2.2.2, fun r hr => ?_⟩
  have h2 := List.all_eq_true.1 h.2 r hr
  unfold rowV at h2
  have h3 := of_decide_eq_true h2
  omega

/-! copyDevice copies. -/
theorem copyD_from (a : Int) (l1 : List Int) (l : List Pn) : ∀ p : List Pn, p.length + l.length ≤ 1048576 → (∀ r ∈ l, r.f1.length ≤ 1048576) → Ev (fun k => impl_copyDevice.l0 k (p ++ l) ((p ++ l).length : Int) (p.length : Int) a l1 p) (a, l1, p ++ l) := by
  induction l with
  | nil =>
    intro p _ _
    refine Ev.succ ?_
    simp only [impl_copyDevice.l0]
    exact Ev.neg (by simp) (Ev.const (by simp))
  | cons r t ih =>
    intro p hp hr
    simp only [List.length_cons] at hp
    have hn := ih (p ++ [r]) (by simp; omega) (fun q hq => hr q (List.mem_cons_of_mem _ hq))
    have h0 := hr r (by simp)
    refine Ev.succ ?_
    simp only [impl_copyDevice.l0, rdP_at, wr1 p.length (by omega)]
    refine Ev.pos (by simp only [List.length_append, List.length_cons]; omega) (Ev.pos (by omega) (Ev.pos (by simp only [List.length_append, List.length_cons]; omega) (Ev.pos (by simp; omega) (Ev.pos (by omega) ?_))))
    simpa using hn
theorem copyD_ev (a : Int) (l1 : List Int) (l2 : List Pn) (h : l1.length + l2.length + tot l2 ≤ 1048576) : Ev (fun k => impl_copyDevice.f k a l1 l2) (a, l1, l2) := by
  unfold impl_copyDevice.f
  refine Ev.pos (by simp; omega) ?_
  have := copyD_from a l1 l2 [] (by simp; omega) (fun r hr => by have := tot_mem l2 r hr; omega)
  simpa using this
theorem fit_of {a : Int} {l1 : List Int} {l2 : List Pn} (hv : validB a l1 l2 = true) : fitB l1 l2 := by
  obtain ⟨h1, h2, h3, h4, h5⟩ := valid_ok hv
  refine ⟨by omega, fun n hn => ?_⟩
  have hm : rd_T67 l2 (n : Int) ∈ l2 := by unfold rd_T67; simp [hn]
  obtain ⟨g0, g1, g2⟩ := h5 _ hm
  exact ⟨g0, g2, by omega⟩

/-! The disk behind the writes that are kept: the reference block by block, the program write by write. -/
/-- What block b holds behind the first n writes: the youngest kept write on it, or what the disk has there. -/
def blkAt (l1 : List Int) (l2 : List Pn) (kp : Nat → Bool) (b : Nat) : Nat → List Int
  | 0 => (l1.take ((b + 1) * 128)).drop (b * 128)
  | n + 1 => if (rd_T67 l2 (n : Int)).f0 = (b : Int) ∧ kp n = true then (rd_T67 l2 (n : Int)).f1 else blkAt l1 l2 kp b n
/-- The first c blocks. -/
def blksTo (l1 : List Int) (l2 : List Pn) (kp : Nat → Bool) : Nat → List Int
  | 0 => []
  | c + 1 => blksTo l1 l2 kp c ++ blkAt l1 l2 kp c l2.length
theorem blkAt_length (a : Nat) (l1 : List Int) (l2 : List Pn) (kp : Nat → Bool) (h1 : l1.length = a * 128) (h2 : ∀ r ∈ l2, r.f1.length = 128) (b : Nat) (hb : b < a) (n : Nat) (hn : n ≤ l2.length) : (blkAt l1 l2 kp b n).length = 128 := by
  induction n with
  | zero => unfold blkAt; rw [List.length_drop, List.length_take]; omega
  | succ n ih =>
    unfold blkAt
    split
    · exact h2 _ (by unfold rd_T67; simp [show n < l2.length by omega])
    · exact ih (by omega)
/-- A disk's block. -/
def cut (l : List Int) (b : Nat) : List Int := (l.take ((b + 1) * 128)).drop (b * 128)
theorem cut_put_same (l ys : List Int) (b : Nat) (h : (b + 1) * 128 ≤ l.length) (hy : ys.length = 128) : cut (putB l (b * 128) ys) b = ys := by
  unfold cut putB
  rw [List.take_append, List.take_append, List.drop_append, List.drop_append]
  have e1 : (l.take (b * 128)).length = b * 128 := by rw [List.length_take]; omega
  simp only [List.length_append, List.length_take, e1, hy]
  rw [List.take_of_length_le (by omega), List.take_of_length_le (l := ys) (by omega)]
  rw [List.drop_of_length_le (by omega)]
  simp
  omega
theorem cut_put_other (l ys : List Int) (b c : Nat) (h : (b + 1) * 128 ≤ l.length) (hc : (c + 1) * 128 ≤ l.length) (hy : ys.length = 128) (hne : b ≠ c) : cut (putB l (b * 128) ys) c = cut l c := by
  refine List.ext_getElem? fun i => ?_
  unfold cut putB
  simp only [List.getElem?_drop, List.getElem?_take, List.getElem?_append, List.length_append, List.length_take, hy]
  by_cases hi : c * 128 + i < (c + 1) * 128
  · rw [if_pos hi, if_pos hi]
    by_cases h1 : c < b
    · rw [if_pos (by omega), if_pos (by omega), if_pos (by omega)]
    · have e : min (b * 128) l.length = b * 128 := by omega
      rw [e, if_neg (by omega), show b * 128 + 128 + (c * 128 + i - (b * 128 + 128)) = c * 128 + i by omega]
  · rw [if_neg hi, if_neg hi]
theorem cut_setB (a : Nat) (l1 : List Int) (l2 : List Pn) (kp : Nat → Bool) (hf : fitB l1 l2) (h1 : l1.length = a * 128) (b : Nat) (hb : b < a) (n : Nat) (hn : n ≤ l2.length) : cut (setB l1 l2 kp n) b = blkAt l1 l2 kp b n := by
  induction n with
  | zero => rfl
  | succ n ih =>
    have hl := setB_length l1 l2 kp hf n (by omega)
    obtain ⟨g0, g1, g2⟩ := hf.2 n (by omega)
    unfold setB blkAt
    generalize rd_T67 l2 (n : Int) = r at *
    obtain ⟨c, hc⟩ : ∃ c : Nat, r.f0 = (c : Int) := ⟨r.f0.toNat, by omega⟩
    rw [hc] at g2 ⊢
    rw [show ((c : Int) * 128).toNat = c * 128 by omega]
    cases hk : kp n
    · simp only [Bool.false_eq_true, if_false, and_false]
      exact ih (by omega)
    · simp only [if_true, and_true]
      by_cases hcb : c = b
      · subst hcb
        rw [if_pos rfl]
        exact cut_put_same _ _ _ (by rw [hl]; omega) g1
      · rw [if_neg (by omega), cut_put_other _ _ _ _ (by rw [hl]; omega) (by rw [hl]; omega) g1 hcb]
        exact ih (by omega)
theorem join_cuts (l : List Int) (c : Nat) (h : c * 128 ≤ l.length) : l.take ((c + 1) * 128) = l.take (c * 128) ++ cut l c := by
  unfold cut
  refine List.ext_getElem? fun i => ?_
  simp only [List.getElem?_append, List.getElem?_take, List.getElem?_drop, List.length_take]
  by_cases h1 : i < c * 128
  · rw [if_pos (by omega), if_pos (by omega), if_pos h1]
  · rw [if_neg (by omega : ¬ i < min (c * 128) l.length)]
    have e : min (c * 128) l.length = c * 128 := by omega
    rw [e, show c * 128 + (i - c * 128) = i by omega]
theorem blksTo_eq (a : Nat) (l1 : List Int) (l2 : List Pn) (kp : Nat → Bool) (hf : fitB l1 l2) (h1 : l1.length = a * 128) (c : Nat) (hc : c ≤ a) : blksTo l1 l2 kp c = (setB l1 l2 kp l2.length).take (c * 128) := by
  have hl := setB_length l1 l2 kp hf l2.length (Nat.le_refl _)
  induction c with
  | zero => simp [blksTo]
  | succ c ih =>
    rw [blksTo, ih (by omega), join_cuts _ c (by rw [hl]; omega), cut_setB a l1 l2 kp hf h1 c (by omega) l2.length (Nat.le_refl _)]
theorem blksTo_all (a : Nat) (l1 : List Int) (l2 : List Pn) (kp : Nat → Bool) (hf : fitB l1 l2) (h1 : l1.length = a * 128) : blksTo l1 l2 kp a = setB l1 l2 kp l2.length := by
  rw [blksTo_eq a l1 l2 kp hf h1 a (Nat.le_refl _), List.take_of_length_le]
  rw [setB_length l1 l2 kp hf l2.length (Nat.le_refl _), h1]
  exact Nat.le_refl _

theorem st_copy (keep : List Int) (al : Bool) (a : Int) (l1 : List Int) (l2 : List Pn) (b : Nat) (hb : b ≤ 1048576) (r : List Int) (t : List Int) : ∀ (acc p : List Int), acc.length + p.length + t.length ≤ 1048576 →
    Ev (fun k => spec_l1Settled.l0 k keep al (acc ++ (p ++ t)) ((b + 1 : Nat) : Int) a l1 l2) r → Ev (fun k => spec_l1Settled.l2 k keep al (acc ++ p) (b : Int) (p ++ t) (p.length : Int) a l1 l2) r := by
  induction t with
  | nil =>
    intro acc p _ h
    refine Ev.succ ?_
    simp only [spec_l1Settled.l2, wr1 b (by omega)]
    refine Ev.neg (by simp) ?_
    simpa using h
  | cons x t ih =>
    intro acc p hs h
    simp only [List.length_cons] at hs
    have hn := ih acc (p ++ [x]) (by simp; omega) (by simpa using h)
    have e : rd (p ++ x :: t) (p.length : Int) = x := by unfold rd; simp
    refine Ev.succ ?_
    simp only [spec_l1Settled.l2, e, wr1 p.length (by omega)]
    refine Ev.pos (by simp only [List.length_append, List.length_cons]; omega) (Ev.pos (by omega) (Ev.pos (by simp only [List.length_append]; omega) ?_))
    simpa using hn
theorem keep_at (keep : List Int) (n : Nat) (h : n / 8 < keep.length) : keepB keep n = (Go.bits .and .u8 (shr .u8 (rd keep ((n / 8 : Nat) : Int)) ((n % 8 : Nat) : Int)) 1 == 1) := by
  unfold keepB shr rd
  rw [decide_eq_true (by omega), Bool.true_and, Int.toNat_natCast, Int.toNat_natCast, List.getD_eq_getElem?_getD]
  have e : min (n % 8) IntKind.u8.bits = n % 8 := Nat.min_eq_left (by show n % 8 ≤ 8; omega)
  rw [e]
theorem st_in (keep : List Int) (hk : keep.length ≤ 1048576) (a : Int) (l1 : List Int) (l2 : List Pn) (hl : l2.length ≤ 1048576) (b : Nat) (acc r : List Int)
    (h : Ev (fun k => spec_l1Settled.l2 k keep false acc (b : Int) (blkAt l1 l2 (keepB keep) b l2.length) 0 a l1 l2) r) (d : Nat) : ∀ n : Nat, n + d = l2.length →
    Ev (fun k => spec_l1Settled.l1 k keep false acc (b : Int) (blkAt l1 l2 (keepB keep) b n) (n : Int) a l1 l2) r := by
  induction d with
  | zero =>
    intro n hn
    refine Ev.succ ?_
    simp only [spec_l1Settled.l1]
    obtain rfl : n = l2.length := by omega
    exact Ev.neg (by omega) h
  | succ d ih =>
    intro n hn
    have h2 := ih (n + 1) (by omega)
    rw [blkAt] at h2
    have e1 : wrap64 (Int.tdiv (n : Int) 8) = ((n / 8 : Nat) : Int) := by rw [Int.tdiv_eq_ediv_of_nonneg (by omega), wr (by omega) (by omega)]; omega
    have e2 : IntKind.u64.wrap (Int.tmod (n : Int) 8) = ((n % 8 : Nat) : Int) := by
      rw [Int.tmod_eq_emod_of_nonneg (by omega)]
      show (n : Int) % 8 % 2 ^ 64 = _
      omega
    refine Ev.succ ?_
    simp only [spec_l1Settled.l1, wr1 n (by omega), e1, e2]
    refine Ev.pos (by omega) (Ev.pos (by omega) ?_)
    by_cases e : (rd_T67 l2 (n : Int)).f0 = (b : Int)
    · refine Ev.pos e (Ev.neg (by simp) ?_)
      by_cases g : n / 8 < keep.length
      · have hkb := keep_at keep n g
        refine Ev.pos (by omega) (Ev.pos (by omega) (Ev.pos (by omega) ?_))
        by_cases q : Go.bits .and .u8 (shr .u8 (rd keep ((n / 8 : Nat) : Int)) ((n % 8 : Nat) : Int)) 1 = 1
        · rw [if_pos ⟨e, by rw [hkb, q]; rfl⟩] at h2
          exact Ev.pos q h2
        · rw [if_neg (fun z => q (by have := z.2; rw [hkb] at this; simpa using this))] at h2
          exact Ev.neg q h2
      · rw [if_neg (fun z => by have := z.2; unfold keepB at this; rw [decide_eq_false (by omega)] at this; cases this)] at h2
        exact Ev.neg (by omega) h2
    · rw [if_neg (fun z => e z.1)] at h2
      exact Ev.neg e h2
theorem st_out (keep : List Int) (hkl : keep.length ≤ 1048576) (a : Nat) (ha : a ≤ 512) (l1 : List Int) (l2 : List Pn) (hl : l2.length ≤ 1048576) (h1 : l1.length = a * 128) (h2 : ∀ r ∈ l2, r.f1.length = 128) (d : Nat) : ∀ b : Nat, b + d = a →
    Ev (fun k => spec_l1Settled.l0 k keep false (blksTo l1 l2 (keepB keep) b) (b : Int) (a : Int) l1 l2) (blksTo l1 l2 (keepB keep) a) := by
  have hlen : ∀ b, b ≤ a → (blksTo l1 l2 (keepB keep) b).length = b * 128 := by
    intro b
    induction b with
    | zero => intro _; rfl
    | succ b ih => intro hb; rw [blksTo, List.length_append, ih (by omega), blkAt_length a l1 l2 _ h1 h2 b (by omega) _ (Nat.le_refl _)]; omega
  induction d with
  | zero =>
    intro b hb
    obtain rfl : b = a := by omega
    refine Ev.succ ?_
    simp only [spec_l1Settled.l0]
    exact Ev.neg (by omega) (Ev.const rfl)
  | succ d ih =>
    intro b hb
    have hn := ih (b + 1) (by omega)
    have hbl := blkAt_length a l1 l2 (keepB keep) h1 h2 b (by omega) l2.length (Nat.le_refl _)
    have hac := hlen b (by omega)
    refine Ev.succ ?_
    simp only [spec_l1Settled.l0]
    rw [show wrap64 ((b : Int) * 128) = (b : Int) * 128 from wr (by omega) (by omega), show wrap64 ((b : Int) + 1) = (b : Int) + 1 from wr (by omega) (by omega), show wrap64 (((b : Int) + 1) * 128) = ((b : Int) + 1) * 128 from wr (by omega) (by omega)]
    refine Ev.pos (by omega) (Ev.pos (by omega) (Ev.pos (by omega) (Ev.pos (by omega) ?_)))
    have hc := st_copy keep false (a : Int) l1 l2 b (by omega) _ (blkAt l1 l2 (keepB keep) b l2.length) (blksTo l1 l2 (keepB keep) b) [] (by rw [hac, hbl]; simp; omega) (by simpa [blksTo] using hn)
    have hi := st_in keep hkl (a : Int) l1 l2 hl b (blksTo l1 l2 (keepB keep) b) _ (by simpa using hc) l2.length 0 (by omega)
    have e : (l1.take (((b : Int) + 1) * 128).toNat).drop ((b : Int) * 128).toNat = blkAt l1 l2 (keepB keep) b 0 := by
      rw [blkAt, show (((b : Int) + 1) * 128).toNat = (b + 1) * 128 by omega, show ((b : Int) * 128).toNat = b * 128 by omega]
    rw [e]
    exact hi
def told (a : Int) (l1 : List Int) (l2 : List Pn) (kp : List Int) : Int × List Int × List Pn × Int := if validB a l1 l2 = true then (a, setB l1 l2 (keepB kp) l2.length, [], 0) else (0, [], [], 1)
theorem spec_ev (a : Int) (l1 : List Int) (l2 : List Pn) (kp : List Int) (hkl : kp.length ≤ 1048576) (h : l1.length + l2.length + tot l2 ≤ 1048576) : Ev (fun k => spec_DevCrash.f k a l1 l2 kp) (told a l1 l2 kp) := by
  unfold spec_DevCrash.f told
  refine Ev.bind (spec_valid a l1 l2 (by omega)) ?_
  cases hv : validB a l1 l2
  · exact Ev.neg (by simp) (Ev.const (by simp))
  refine Ev.pos rfl ?_
  rw [if_pos rfl]
  have hf := fit_of hv
  obtain ⟨g1, g2, g3, g4, g5⟩ := valid_ok hv
  obtain ⟨n, rfl⟩ : ∃ n : Nat, a = (n : Int) := ⟨a.toNat, by omega⟩
  have := st_out kp hkl n (by omega) l1 l2 (by omega) (by omega) (fun r hr => (g5 r hr).2.2) n 0 (by omega)
  rw [blksTo_all n l1 l2 _ hf (by omega)] at this
  refine Ev.bind (a := setB l1 l2 (keepB kp) l2.length) ?_ (Ev.const rfl)
  unfold spec_l1Settled.f
  exact this
theorem impl_ev (a : Int) (l1 : List Int) (l2 : List Pn) (kp : List Int) (h : l1.length + l2.length + tot l2 ≤ 1048576) : Ev (fun k => impl_DevCrash.f k a l1 l2 kp) (told a l1 l2 kp) := by
  unfold impl_DevCrash.f told
  refine Ev.bind (impl_valid a l1 l2 (by omega)) ?_
  cases hv : validB a l1 l2
  · exact Ev.neg (by simp) (Ev.const (by simp))
  refine Ev.pos rfl ?_
  rw [if_pos rfl]
  exact Ev.bind (copyD_ev a l1 l2 h) (Ev.pos (fit_of hv) (Ev.const rfl))
theorem told_size (a : Int) (l1 : List Int) (l2 : List Pn) (kp : List Int) (h : l1.length + l2.length + tot l2 ≤ 1048576) : (told a l1 l2 kp).2.1.length + (told a l1 l2 kp).2.2.1.length + tot (told a l1 l2 kp).2.2.1 ≤ 1048576 := by
  unfold told
  split
  · rename_i hv
    simp only [setB_length l1 l2 _ (fit_of hv) l2.length (Nat.le_refl _), List.length_nil, tot, List.map_nil, List.sum_nil]
    omega
  · simp [tot]
theorem FnExactDevCrash : laws_FnExactDevCrash.Pure := by
  intro a l1 l2 kp g0 g1 g2 g3
  unfold laws_FnExactDevCrash.Facts
  by_cases hb : (kp.length : Int) > 1048576
  · exact .inl ⟨0, hb⟩
  obtain ⟨left, ⟨k0, hs⟩, hl⟩ := sz_dev a l1 l2 g1.1 g2.1 (fun r hr => (g2.2 r hr).2.1) 1048576 (by omega) (by omega)
  by_cases hn : left < 0
  · exact .inr (.inl ⟨k0, left, hb, hs k0 (Nat.le_refl _), hn⟩)
  have hml : (l2.map cvP).length = l2.length := by simp
  have hz : l1.length + (l2.map cvP).length + tot (l2.map cvP) ≤ 1048576 := by rcases hl with hl | hl <;> omega
  obtain ⟨k1, e1⟩ := to_dev a l1 l2 (by omega)
  obtain ⟨k9, e9⟩ := tob_ev kp (by omega)
  obtain ⟨k2, e2⟩ := spec_ev a l1 (l2.map cvP) kp (by omega) hz
  obtain ⟨k3, e3⟩ := impl_ev a l1 (l2.map cvP) kp hz
  have ht := told_size a l1 (l2.map cvP) kp hz
  generalize told a l1 (l2.map cvP) kp = w at *
  obtain ⟨w0, w1, w2, w3⟩ := w
  simp only at ht
  obtain ⟨k4, e4⟩ := eq_dev w0 w1 w2 ht
  obtain ⟨k5, e5⟩ := eq_dev a l1 (l2.map cvP) hz
  obtain ⟨k10, e10⟩ := eqb_ev kp (by omega)
  obtain ⟨k6, e6⟩ := mark_dev a l1 (l2.map cvP) 1 (by omega) hz
  obtain ⟨k11, e11⟩ := mkb_ev kp (1 + l1.length + (l2.map cvP).length + tot (l2.map cvP)) (by omega) (by omega)
  obtain ⟨k7, e7⟩ := mark_dev w0 w1 w2 1 (by omega) ht
  obtain ⟨k8, e8⟩ := held_dev w0 w1 w2 1 (by omega) ht
  let K := k0 + k1 + k2 + k3 + k4 + k5 + k6 + k7 + k8 + k9 + k10 + k11
  refine .inr (.inr ⟨K, left, _, _, _, _, _, _, _, _, _, _, _, _, _, _, _, _, hb, hs K (by omega), hn, e1 K (by omega), e9 K (by omega), e2 K (by omega), e3 K (by omega), e4 K (by omega), e5 K (by omega), e10 K (by omega), e6 K (by omega), e11 K (by omega), ?_, e7 K (by omega), e8 K (by omega), ?_⟩)
  all_goals omega

end Go.Proofs.Ytbimmmmjdimebaa.Pure
