/- The law FnExactNewDevice: for every int64 and every list of bytes the program's NewDevice answers what the reference answers. No condition. -/
import Derived.Test.YtajjimcplhfdoaaPFnExactNewDevicex4
import Derived.Test.YtajjimcplhfdoaaPlain
namespace Go.Proofs.Ytajjimcplhfdoaa.Pure
open Go.RowKit Go.Proofs.Ytajjimcplhfdoaa.PFnExactNewDevice Go.Proofs.YtajjimcplhfdoaaW.PrintWords Go.Proofs.YtajjimcplhfdoaaW.PrintLast Go.Proofs.Ytajjimcplhfdoaa.Plain
set_option linter.unusedVariables false

theorem tob_ev (x : List Int) (hb : x.length ≤ 1048576) : Ev (fun k => laws_toByteS.f k x) x := copy_ev (F := laws_toByteS.l0) (fun _ _ _ _ => rfl) _ (by decide) x hb
theorem eqb_ev (x : List Int) (hb : x.length ≤ 1048576) : Ev (fun k => laws_eqByteS.f k x x) true := eq_ev (F := laws_eqByteS.l0) (fun _ _ _ _ => rfl) x hb

theorem mkb_ev (x : List Int) (m : Nat) (hm : m ≤ 1099511627776) (hb : x.length ≤ 1048576) : Ev (fun k => laws_markByteS.f k x (m : Int)) (((m + x.length : Nat) : Int), marks (· % 256) m x.length) := mark_ev (F := laws_markByteS.l0) (c := (· % 256)) (fun _ _ _ _ => rfl) m x hm hb
theorem hdb_ev (m n : Nat) (hm : m ≤ 1099511627776) (hb : n ≤ 1048576) : Ev (fun k => laws_heldByteS.f k (marks (· % 256) m n) (m : Int)) ((m + n : Nat) : Int) := held_ev (F := laws_heldByteS.l0) (c := (· % 256)) (fun _ _ _ _ => rfl) m n hm hb

abbrev Pd := S61
/-- The disk of a new device. -/
def fillAt (l : List Int) (i : Nat) : Int := if l.length = 0 then 0 else rd l ((i % l.length : Nat) : Int)
def filled (l : List Int) (n : Nat) : List Int := (List.range n).map (fillAt l)
theorem filled_length (l : List Int) (n : Nat) : (filled l n).length = n := by simp [filled]
theorem filled_succ (l : List Int) (n : Nat) : filled l (n + 1) = filled l n ++ [fillAt l n] := by simp [filled, List.range_succ]
theorem tmod_nat (i n : Nat) : Int.tmod (i : Int) (n : Int) = ((i % n : Nat) : Int) := rfl
theorem spec_new_from (b : Nat) (l : List Int) (hb : b ≤ 512) (d : Nat) : ∀ i : Nat, i + d = b * 128 →
    Ev (fun k => spec_NewDevice.l0 k (b : Int) l (filled l i) (i : Int)) ((b : Int), filled l (b * 128), ([] : List Pd), 0) := by
  have e : wrap64 ((b : Int) * 128) = ((b * 128 : Nat) : Int) := by rw [wr (by omega) (by omega)]; omega
  induction d with
  | zero =>
    intro i hi
    refine Ev.succ ?_
    simp only [spec_NewDevice.l0, e]
    obtain rfl : i = b * 128 := by omega
    exact Ev.neg (by omega) (Ev.const rfl)
  | succ d ih =>
    intro i hi
    have hn := ih (i + 1) (by omega)
    rw [filled_succ] at hn
    refine Ev.succ ?_
    simp only [spec_NewDevice.l0, e, tmod_nat, wr1 i (by omega)]
    refine Ev.pos (by omega) ?_
    by_cases h0 : l.length = 0
    · refine Ev.neg (by omega) (Ev.pos (by rw [filled_length]; omega) ?_)
      simpa [fillAt, h0] using hn
    · have hlt := Nat.mod_lt i (Nat.pos_of_ne_zero h0)
      refine Ev.pos (by omega) (Ev.neg (by omega) (Ev.pos (by omega) (Ev.pos (by omega) (Ev.pos (by rw [filled_length]; omega) ?_))))
      unfold fillAt at hn
      rw [if_neg h0] at hn
      exact hn
theorem impl_new_from (b : Nat) (l : List Int) (hl : 0 < l.length) (hb : b ≤ 512) (d : Nat) : ∀ (i : Nat) (x : List Int), i + d = b * 128 → x.length = b * 128 → x.take i = (filled l (b * 128)).take i →
    Ev (fun k => impl_NewDevice.l0 k l ((b * 128 : Nat) : Int) (i : Int) (b : Int) x) ((b : Int), filled l (b * 128), ([] : List Pd), 0) := by
  induction d with
  | zero =>
    intro i x hi hx hp
    refine Ev.succ ?_
    simp only [impl_NewDevice.l0]
    refine Ev.neg (by omega) (Ev.const ?_)
    rw [List.take_of_length_le (by omega), List.take_of_length_le (by rw [filled_length]; omega)] at hp
    rw [hp]
  | succ d ih =>
    intro i x hi hx hp
    have hlt := Nat.mod_lt i hl
    refine Ev.succ ?_
    simp only [impl_NewDevice.l0, tmod_nat, wr1 i (by omega), Int.toNat_natCast]
    refine Ev.pos (by omega) (Ev.neg (by omega) (Ev.pos (by omega) (Ev.pos (by omega) (Ev.pos (by omega) (Ev.pos (by omega) ?_)))))
    refine ih (i + 1) _ (by omega) (by simpa using hx) ?_
    have e : rd l ((i % l.length : Nat) : Int) = rd (filled l (b * 128)) (i : Int) := by
      rw [rd_eq (filled l (b * 128)) i (by rw [filled_length]; omega)]
      have h0 : ¬ l.length = 0 := by omega
      simp [filled, fillAt, h0]
    rw [e]
    exact set_take x (filled l (b * 128)) i (by rw [filled_length]; omega) (by rw [filled_length]; omega) hp
/-- What both answer. -/
def newTold (b : Int) (l : List Int) : Int × List Int × List Pd × Int := if b < 8 ∨ 512 < b then (0, [], [], 1) else (b, filled l (b.toNat * 128), [], 0)
theorem spec_new_ev (b : Int) (l : List Int) : Ev (fun k => spec_NewDevice.f k b l) (newTold b l) := by
  unfold spec_NewDevice.f newTold
  by_cases h : b < 8 ∨ 512 < b
  · rw [if_pos h]
    refine Ev.bind0 (a := false) ?_ (Ev.neg (by simp) (Ev.const rfl))
    unfold spec_l1BlocksOK.f
    rcases h with h | h
    · rw [if_neg (by omega)]
    · rw [if_pos (by omega), decide_eq_false (by omega)]
  · rw [if_neg h]
    refine Ev.bind0 (a := true) ?_ (Ev.pos rfl ?_)
    · unfold spec_l1BlocksOK.f
      rw [if_pos (by omega), decide_eq_true (by omega)]
    obtain ⟨n, rfl⟩ := Int.eq_ofNat_of_zero_le (show 0 ≤ b by omega)
    have := spec_new_from n l (by omega) (n * 128) 0 (by omega)
    rw [Int.toNat_natCast]
    exact this
theorem impl_new_ev (b : Int) (l : List Int) : Ev (fun k => impl_NewDevice.f k b l) (newTold b l) := by
  have hj : ∀ t, Ev (fun k => impl_NewDevice.j0 k b l t) (if t = true then (0, [], [], 1) else newTold b l) ∨ (t = false ∧ (b < 8 ∨ 512 < b)) := by
    intro t
    cases t with
    | true =>
      left
      refine Ev.succ ?_
      simp only [impl_NewDevice.j0]
      exact Ev.pos trivial (Ev.const (by simp))
    | false =>
      by_cases h : b < 8 ∨ 512 < b
      · exact .inr ⟨rfl, h⟩
      · left
        unfold newTold
        rw [if_neg (by simp), if_neg h]
        obtain ⟨n, rfl⟩ := Int.eq_ofNat_of_zero_le (show 0 ≤ b by omega)
        have e : wrap64 ((n : Int) * 128) = ((n * 128 : Nat) : Int) := by rw [wr (by omega) (by omega)]; omega
        refine Ev.succ ?_
        simp only [impl_NewDevice.j0, e, Int.toNat_natCast, Option.bind_some, List.length_replicate]
        refine Ev.neg (by simp) (Ev.pos (by omega) (Ev.pos (by omega) ?_))
        by_cases h0 : 0 < l.length
        · exact Ev.pos (by omega) (impl_new_from n l h0 (by omega) (n * 128) 0 _ (by omega) (by simp) (by simp))
        · refine Ev.neg (by omega) (Ev.const ?_)
          have h1 : l.length = 0 := by omega
          have : List.replicate (n * 128) (0 : Int) = filled l (n * 128) := by
            apply List.ext_getElem
            · simp [filled]
            · intro i h2 h3
              simp [filled, fillAt, h1]
          rw [this]
  unfold impl_NewDevice.f
  by_cases h : b < 8
  · refine Ev.pos h ?_
    rcases hj true with h1 | h1
    · simpa [newTold, h] using h1
    · exact absurd h1.1 (by simp)
  · refine Ev.neg h ?_
    by_cases h2 : b > 512
    · have e : decide (b > 512) = true := decide_eq_true h2
      rw [e]
      rcases hj true with h1 | h1
      · have h3 : b < 8 ∨ 512 < b := .inr h2
        simpa [newTold, h3] using h1
      · exact absurd h1.1 (by simp)
    · have e : decide (b > 512) = false := decide_eq_false h2
      rw [e]
      rcases hj false with h1 | h1
      · simpa using h1
      · omega
theorem newTold_facts (b : Int) (l : List Int) : (newTold b l).2.1.length ≤ 65536 ∧ (newTold b l).2.2.1 = [] := by
  unfold newTold
  split
  · simp
  · constructor
    · simp only [filled_length]; omega
    · rfl

theorem eqDev_ev (b : Int) (l : List Int) (hl : l.length ≤ 1048576) : Ev (fun k => laws_eqDevice.f k b l ([] : List Pd) b l ([] : List Pd)) true := by
  unfold laws_eqDevice.f
  refine Ev.pos rfl (Ev.bind (eqb_ev l hl) (Ev.pos rfl (Ev.bind (a := true) ?_ (Ev.pos rfl (Ev.const rfl)))))
  unfold laws_eqPendingS.f
  refine Ev.pos rfl (Ev.succ ?_)
  simp only [laws_eqPendingS.l0]
  exact Ev.neg (by simp) (Ev.const rfl)
theorem FnExactNewDevice : laws_FnExactNewDevice.Pure := by
  intro b a _ _ _ _
  refine Ev.rounds (r := true) ?_
  unfold laws_FnExactNewDevice.f
  by_cases ha : (a.length : Int) > 1048576
  · exact Ev.pos ha (Ev.const rfl)
  have ta := tob_ev a (by omega)
  obtain ⟨hf1, hf2⟩ := newTold_facts b a
  have hs := spec_new_ev b a
  have hi := impl_new_ev b a
  obtain ⟨r0, r1, r2, r3⟩ : Int × List Int × List Pd × Int := newTold b a
  generalize newTold b a = t at *
  obtain ⟨t0, t1, t2, t3⟩ := t
  simp only at hf1 hf2
  subst hf2
  have hq := eqDev_ev t0 t1 (by omega)
  refine Ev.neg ha (Ev.bind ta (Ev.bind hs (Ev.bind ta (Ev.bind hi (Ev.bind hq (Ev.pos rfl (Ev.succ ?_)))))))
  simp only [laws_FnExactNewDevice.j0]
  refine Ev.neg (by simp) (Ev.bind ta (Ev.bind (eqb_ev a (by omega)) (Ev.pos rfl (Ev.bind (mkb_ev a 1 (by omega) (by omega)) (Ev.neg (by simp only []; omega) (Ev.bind hq (Ev.pos rfl (Ev.succ ?_))))))))
  simp only [laws_FnExactNewDevice.j1]
  have hm : Ev (fun k => laws_markDevice.f k t0 t1 ([] : List Pd) 1) (((1 + t1.length : Nat) : Int), marks (· % 256) 1 t1.length) := by
    unfold laws_markDevice.f
    exact Ev.bind (mkb_ev t1 1 (by omega) (by omega)) (Ev.bind0 (a := ((1 + t1.length : Nat) : Int)) (by simp [laws_markPendingS.f]) (Ev.const rfl))
  have hh : Ev (fun k => laws_heldDevice.f k t0 (marks (· % 256) 1 t1.length) ([] : List Pd) 1) ((1 + t1.length : Nat) : Int) := by
    unfold laws_heldDevice.f
    refine Ev.bind (hdb_ev 1 t1.length (by omega) (by omega)) (Ev.neg (by omega) (Ev.bind (a := ((1 + t1.length : Nat) : Int)) ?_ (Ev.neg (by omega) (Ev.const rfl))))
    unfold laws_heldPendingS.f
    refine Ev.succ ?_
    simp only [laws_heldPendingS.l0]
    exact Ev.neg (by simp) (Ev.const rfl)
  exact Ev.neg (by simp) (Ev.bind hm (Ev.bind hh (Ev.neg (by omega) (Ev.pos rfl (Ev.bind ta (Ev.bind hi (Ev.bind hq (Ev.pos rfl (Ev.pos rfl (Ev.const rfl))))))))))

end Go.Proofs.Ytajjimcplhfdoaa.Pure
