-- This text was written by a program of this session (gprint.py, on a turned copy of the print tool).
import Derived.Test.YtbimmmmjdimebaaPFnExactPlanTablex0
namespace Go.Proofs.Ytbimmmmjdimebaa.PFnExactPlanTable
open Go.RowKit Go.Proofs.YtbimmmmjdimebaaW.PrintWords Go.Proofs.YtbimmmmjdimebaaW.PrintLast Go.Proofs.YtbimmmmjdimebaaW.PrintMore
attribute [local go_sem] max2_int min2_int max_two min_two max_three min_three max_four min_four   -- for this text's walks alone
set_option linter.unusedVariables false
set_option linter.unusedSimpArgs false

/-! ### impl_badCounts: function 66 -/
mutual
def impl_badCounts.l0 : Nat → List (List Int) → List (List Int) → Int → Int → Option (Int)
  | 0, _, _, _, _ => none
  | k + 1, x0, x11, x12, x13 => if x13 < x12 then (if 0 ≤ x13 then (if x13 < (x11.length : Int) then (if ((rd_L2 x11 x13).length : Int) < 8 then (some 1) else (if ((rd_L2 x11 x13).length : Int) > 512 then (some 1) else (if 0 < (x0.length : Int) then (if ((rd_L2 x11 x13).length : Int) = ((rd_L2 x0 0).length : Int) then (impl_badCounts.l0 k x0 x11 x12 (wrap64 (x13 + 1))) else (some 1)) else (none)))) else (none)) else (none)) else (impl_badCounts.l1 k x0 x0 (x0.length : Int) 0)
def impl_badCounts.l1 : Nat → List (List Int) → List (List Int) → Int → Int → Option (Int)
  | 0, _, _, _, _ => none
  | k + 1, x0, x35, x36, x37 => if x37 < x36 then (if 0 ≤ x37 then (if x37 < (x35.length : Int) then (impl_badCounts.l2 k x0 x35 x36 x37 (rd_L2 x35 x37) ((rd_L2 x35 x37).length : Int) 0) else (none)) else (none)) else (impl_badCounts.l3 k x0 (x0.length : Int) 0)
def impl_badCounts.l2 : Nat → List (List Int) → List (List Int) → Int → Int → List Int → Int → Int → Option (Int)
  | 0, _, _, _, _, _, _, _ => none
  | k + 1, x0, x35, x36, x37, x41, x42, x43 => if x43 < x42 then (if 0 ≤ x43 then (if x43 < (x41.length : Int) then (if (rd x41 x43) < 0 then (some 2) else (if (rd x41 x43) > 65535 then (some 2) else (impl_badCounts.l2 k x0 x35 x36 x37 x41 x42 (wrap64 (x43 + 1))))) else (none)) else (none)) else (impl_badCounts.l1 k x0 x35 x36 (wrap64 (x37 + 1)))
def impl_badCounts.l3 : Nat → List (List Int) → Int → Int → Option (Int)
  | 0, _, _, _ => none
  | k + 1, x55, x56, x57 => if x57 < x56 then (if 0 ≤ x57 then (if x57 < (x55.length : Int) then (if 0 < ((rd_L2 x55 x57).length : Int) then (if (rd (rd_L2 x55 x57) 0) = 0 then (if 1 < ((rd_L2 x55 x57).length : Int) then (if (rd (rd_L2 x55 x57) 1) = 0 then (impl_badCounts.l3 k x55 x56 (wrap64 (x57 + 1))) else (some 5)) else (none)) else (some 5)) else (none)) else (none)) else (none)) else (some 0)
end
def impl_badCounts.f (k : Nat) (l0 : List (List Int)) : Option (Int) := impl_badCounts.l0 k l0 l0 (l0.length : Int) 0
theorem impl_badCounts.mono_l : ∀ k, (∀ y0 y1 y2 y3, LeO (impl_badCounts.l0 k y0 y1 y2 y3) (impl_badCounts.l0 (k + 1) y0 y1 y2 y3)) ∧ (∀ y0 y1 y2 y3, LeO (impl_badCounts.l1 k y0 y1 y2 y3) (impl_badCounts.l1 (k + 1) y0 y1 y2 y3)) ∧ (∀ y0 y1 y2 y3 y4 y5 y6, LeO (impl_badCounts.l2 k y0 y1 y2 y3 y4 y5 y6) (impl_badCounts.l2 (k + 1) y0 y1 y2 y3 y4 y5 y6)) ∧ (∀ y0 y1 y2, LeO (impl_badCounts.l3 k y0 y1 y2) (impl_badCounts.l3 (k + 1) y0 y1 y2))
  | 0 => ⟨fun _ _ _ _ r h => by simp [impl_badCounts.l0] at h, fun _ _ _ _ r h => by simp [impl_badCounts.l1] at h, fun _ _ _ _ _ _ _ r h => by simp [impl_badCounts.l2] at h, fun _ _ _ r h => by simp [impl_badCounts.l3] at h⟩
  | k + 1 => by
    obtain ⟨ih0, ih1, ih2, ih3⟩ := impl_badCounts.mono_l k
    refine ⟨?_, ?_, ?_, ?_⟩
    · intro y0 y1 y2 y3
      unfold impl_badCounts.l0
      repeat' first
      | (with_reducible exact ih0 _ _ _ _)
      | (with_reducible exact ih1 _ _ _ _)
      | (with_reducible exact ih2 _ _ _ _ _ _ _)
      | (with_reducible exact ih3 _ _ _)
      | (with_reducible exact LeO.refl _)
      | (with_reducible exact LeO.none _)
      | (with_reducible refine LeO.ite ?_ ?_)
      | (with_reducible refine LeO.bind ?_ (fun _ => ?_))
      | exact ih0 _ _ _ _
      | exact ih1 _ _ _ _
      | exact ih2 _ _ _ _ _ _ _
      | exact ih3 _ _ _
      | exact LeO.none _
      | refine LeO.ite ?_ ?_
      | refine LeO.bind ?_ (fun _ => ?_)
    · intro y0 y1 y2 y3
      unfold impl_badCounts.l1
      repeat' first
      | (with_reducible exact ih0 _ _ _ _)
      | (with_reducible exact ih1 _ _ _ _)
      | (with_reducible exact ih2 _ _ _ _ _ _ _)
      | (with_reducible exact ih3 _ _ _)
      | (with_reducible exact LeO.refl _)
      | (with_reducible exact LeO.none _)
      | (with_reducible refine LeO.ite ?_ ?_)
      | (with_reducible refine LeO.bind ?_ (fun _ => ?_))
      | exact ih0 _ _ _ _
      | exact ih1 _ _ _ _
      | exact ih2 _ _ _ _ _ _ _
      | exact ih3 _ _ _
      | exact LeO.none _
      | refine LeO.ite ?_ ?_
      | refine LeO.bind ?_ (fun _ => ?_)
    · intro y0 y1 y2 y3 y4 y5 y6
      unfold impl_badCounts.l2
      repeat' first
      | (with_reducible exact ih0 _ _ _ _)
      | (with_reducible exact ih1 _ _ _ _)
      | (with_reducible exact ih2 _ _ _ _ _ _ _)
      | (with_reducible exact ih3 _ _ _)
      | (with_reducible exact LeO.refl _)
      | (with_reducible exact LeO.none _)
      | (with_reducible refine LeO.ite ?_ ?_)
      | (with_reducible refine LeO.bind ?_ (fun _ => ?_))
      | exact ih0 _ _ _ _
      | exact ih1 _ _ _ _
      | exact ih2 _ _ _ _ _ _ _
      | exact ih3 _ _ _
      | exact LeO.none _
      | refine LeO.ite ?_ ?_
      | refine LeO.bind ?_ (fun _ => ?_)
    · intro y0 y1 y2
      unfold impl_badCounts.l3
      repeat' first
      | (with_reducible exact ih0 _ _ _ _)
      | (with_reducible exact ih1 _ _ _ _)
      | (with_reducible exact ih2 _ _ _ _ _ _ _)
      | (with_reducible exact ih3 _ _ _)
      | (with_reducible exact LeO.refl _)
      | (with_reducible exact LeO.none _)
      | (with_reducible refine LeO.ite ?_ ?_)
      | (with_reducible refine LeO.bind ?_ (fun _ => ?_))
      | exact ih0 _ _ _ _
      | exact ih1 _ _ _ _
      | exact ih2 _ _ _ _ _ _ _
      | exact ih3 _ _ _
      | exact LeO.none _
      | refine LeO.ite ?_ ?_
      | refine LeO.bind ?_ (fun _ => ?_)
theorem impl_badCounts.mono : ∀ a0 k, LeO (impl_badCounts.f k a0) (impl_badCounts.f (k + 1) a0) := by
  intro a0 k
  obtain ⟨ih0, ih1, ih2, ih3⟩ := impl_badCounts.mono_l k
  unfold impl_badCounts.f
  repeat' first
      | (with_reducible exact ih0 _ _ _ _)
      | (with_reducible exact ih1 _ _ _ _)
      | (with_reducible exact ih2 _ _ _ _ _ _ _)
      | (with_reducible exact ih3 _ _ _)
      | (with_reducible exact LeO.refl _)
      | (with_reducible exact LeO.none _)
      | (with_reducible refine LeO.ite ?_ ?_)
      | (with_reducible refine LeO.bind ?_ (fun _ => ?_))
      | exact ih0 _ _ _ _
      | exact ih1 _ _ _ _
      | exact ih2 _ _ _ _ _ _ _
      | exact ih3 _ _ _
      | exact LeO.none _
      | refine LeO.ite ?_ ?_
      | refine LeO.bind ?_ (fun _ => ?_)
set_option maxHeartbeats 8000000 in
set_option maxRecDepth 100000 in
theorem impl_badCounts.calls (k : Nat) (A0 : Option Addr) (c0 : Nat) (l0 : List (List Int)) (r : Int) (w : World) (hr0 : Kd.C (Kd.slice 2 (Kd.int .i64)) w A0 l0.length l0) (hc0 : l0.length ≤ c0) (h : impl_badCounts.f k l0 = some r) :
    Calls Try.prog 66 #[.slice A0 l0.length c0] w fun e w' => e = .returned (.int .i64 r) ∧ Drawn0 w w' := by
  have HR0 := Aside0.mk hr0
  have HC0 := Aside0.mk hc0
  clear hr0 hc0
  have H : (impl_badCounts.l0 k l0 l0 (l0.length : Int) 0) = some r := h
  clear h
  have H' := Aside0.mk H
  clear H
  go_enter Try.func66, Try.ntmps66
  go_wp2
  go_loopg [13] k (fun kq v13 w' => ∃ (x13_1 : Int), v13 = .int .i64 x13_1 ∧ Aside0 (impl_badCounts.l0 kq l0 l0 (l0.length : Int) x13_1 = some r) ∧ Aside0 (kq ≤ k) ∧ Drawn0 w w')
  case atStart => exact ⟨(0), (by first | rfl | (simp; done) | (simp [*]; done)), H', ⟨Nat.le_refl _⟩, by repeat (first | exact Drawn0.refl _ | apply Drawn0.step)⟩
  case round =>
    clear H'
    obtain ⟨x13_1, rfl, HA, HK1, ⟨m1, rfl⟩⟩ := hrel
    cases gk with
    | zero => exact absurd HA.out (by simp [impl_badCounts.l0])
    | succ k1 =>
      have H := HA.out
      clear HA
      simp only [impl_badCounts.l0] at H
      by_cases c2 : x13_1 < (l0.length : Int)
      · rw [if_pos c2] at H
        have c2b0 : decide (x13_1 < (l0.length : Int)) = true := decide_eq_true c2
        clear c2
        by_cases c3 : 0 ≤ x13_1
        · rw [if_pos c3] at H
          have c3b0 : decide (0 ≤ x13_1) = true := decide_eq_true c3
          clear c3
          by_cases c4 : x13_1 < (l0.length : Int)
          · rw [if_pos c4] at H
            have c4b0 : decide (x13_1 < (l0.length : Int)) = true := decide_eq_true c4
            clear c4
            by_cases c5 : ((rd_L2 l0 x13_1).length : Int) < 8
            · rw [if_pos c5] at H
              have c5b0 : decide (((rd_L2 l0 x13_1).length : Int) < 8) = true := decide_eq_true c5
              have c5b1 : decide ((rd_L2 l0 x13_1).length < 8) = true := decide_eq_true (by omega)
              clear c5
              obtain rfl := Option.some.inj H
              have p178 : 0 ≤ (x13_1 : Int) := of_decide_eq_true (by first | (with_reducible assumption) | assumption)
              have q178 : x13_1 < (l0.length : Int) := of_decide_eq_true (by first | (with_reducible assumption) | assumption)
              obtain ⟨ad178, A178_0, c178_0, e178, hx178_0, hl178_0, hi178_0⟩ := at_L2 HR0.out x13_1 p178 q178
              cases e178
              have HR178_0 := Aside0.mk hi178_0
              have HC178_0 := Aside0.mk hl178_0
              clear hi178_0 hl178_0
              replace p178 := eq_true p178
              replace q178 := eq_true q178
              go_wp2
              go_ret
              exact ⟨by first | rfl | (simp; done) | (simp [*]; done), by repeat (first | exact Drawn0.refl _ | apply Drawn0.step)⟩
            · rw [if_neg c5] at H
              have c5b0 : decide (((rd_L2 l0 x13_1).length : Int) < 8) = false := decide_eq_false c5
              have c5b1 : decide ((rd_L2 l0 x13_1).length < 8) = false := decide_eq_false (by omega)
              clear c5
              by_cases c6 : ((rd_L2 l0 x13_1).length : Int) > 512
              · rw [if_pos c6] at H
                have c6b0 : decide (512 < ((rd_L2 l0 x13_1).length : Int)) = true := decide_eq_true c6
                have c6b1 : decide (512 < (rd_L2 l0 x13_1).length) = true := decide_eq_true (by omega)
                clear c6
                obtain rfl := Option.some.inj H
                have p178 : 0 ≤ (x13_1 : Int) := of_decide_eq_true (by first | (with_reducible assumption) | assumption)
                have q178 : x13_1 < (l0.length : Int) := of_decide_eq_true (by first | (with_reducible assumption) | assumption)
                obtain ⟨ad178, A178_0, c178_0, e178, hx178_0, hl178_0, hi178_0⟩ := at_L2 HR0.out x13_1 p178 q178
                cases e178
                have HR178_0 := Aside0.mk hi178_0
                have HC178_0 := Aside0.mk hl178_0
                clear hi178_0 hl178_0
                replace p178 := eq_true p178
                replace q178 := eq_true q178
                go_wp2
                go_ret
                exact ⟨by first | rfl | (simp; done) | (simp [*]; done), by repeat (first | exact Drawn0.refl _ | apply Drawn0.step)⟩
              · rw [if_neg c6] at H
                have c6b0 : decide (512 < ((rd_L2 l0 x13_1).length : Int)) = false := decide_eq_false c6
                have c6b1 : decide (512 < (rd_L2 l0 x13_1).length) = false := decide_eq_false (by omega)
                clear c6
                by_cases c7 : 0 < (l0.length : Int)
                · rw [if_pos c7] at H
                  have c7b0 : decide (0 < (l0.length : Int)) = true := decide_eq_true c7
                  have c7b1 : decide (0 < l0.length) = true := decide_eq_true (by omega)
                  clear c7
                  by_cases c8 : ((rd_L2 l0 x13_1).length : Int) = ((rd_L2 l0 0).length : Int)
                  · rw [if_pos c8] at H
                    have c8b0 : (((rd_L2 l0 x13_1).length : Int) == ((rd_L2 l0 0).length : Int)) = true := beq_iff_eq.mpr c8
                    have c8b1 : (((rd_L2 l0 x13_1).length : Int) != ((rd_L2 l0 0).length : Int)) = false := bne_eq_false_iff_eq.mpr c8
                    have c8b2 : ((rd_L2 l0 x13_1).length == (rd_L2 l0 0).length) = true := by first | simpa using c8 | (simp at c8 ⊢; omega)
                    clear c8
                    have H' := Aside0.mk H
                    clear H
                    have p178 : 0 ≤ (x13_1 : Int) := of_decide_eq_true (by first | (with_reducible assumption) | assumption)
                    have q178 : x13_1 < (l0.length : Int) := of_decide_eq_true (by first | (with_reducible assumption) | assumption)
                    obtain ⟨ad178, A178_0, c178_0, e178, hx178_0, hl178_0, hi178_0⟩ := at_L2 HR0.out x13_1 p178 q178
                    cases e178
                    have HR178_0 := Aside0.mk hi178_0
                    have HC178_0 := Aside0.mk hl178_0
                    clear hi178_0 hl178_0
                    replace p178 := eq_true p178
                    replace q178 := eq_true q178
                    have p179 : 0 ≤ (0 : Int) := (by omega)
                    have q179 : 0 < (l0.length : Int) := of_decide_eq_true (by first | (with_reducible assumption) | assumption)
                    obtain ⟨ad179, A179_0, c179_0, e179, hx179_0, hl179_0, hi179_0⟩ := at_L2 HR0.out 0 p179 q179
                    obtain rfl : ad178 = ad179 := (by injection e179)
                    have qi179 : (0 < l0.length) = True := eq_true (by omega)
                    (try rw [show ((0 : Int)).toNat = 0 from rfl] at hx179_0)
                    (try rw [Addr.add_zero'] at hx179_0)
                    have HR179_0 := Aside0.mk hi179_0
                    have HC179_0 := Aside0.mk hl179_0
                    clear hi179_0 hl179_0
                    replace p179 := eq_true p179
                    replace q179 := eq_true q179
                    go_wp2
                    go_roundg k1
                    case measure => have := HK1.out; omega
                    case rel => exact ⟨(wrap64 (x13_1 + 1)), (by first | rfl | (simp; done) | (simp [*]; done)), H', ⟨by have := HK1.out; omega⟩, by repeat (first | exact Drawn0.refl _ | apply Drawn0.step)⟩
                  · rw [if_neg c8] at H
                    have c8b0 : (((rd_L2 l0 x13_1).length : Int) == ((rd_L2 l0 0).length : Int)) = false := beq_eq_false_iff_ne.mpr c8
                    have c8b1 : (((rd_L2 l0 x13_1).length : Int) != ((rd_L2 l0 0).length : Int)) = true := bne_iff_ne.mpr c8
                    have c8b2 : ((rd_L2 l0 x13_1).length == (rd_L2 l0 0).length) = false := by first | simpa using c8 | (simp at c8 ⊢; omega)
                    obtain rfl := Option.some.inj H
                    have p178 : 0 ≤ (x13_1 : Int) := of_decide_eq_true (by first | (with_reducible assumption) | assumption)
                    have q178 : x13_1 < (l0.length : Int) := of_decide_eq_true (by first | (with_reducible assumption) | assumption)
                    obtain ⟨ad178, A178_0, c178_0, e178, hx178_0, hl178_0, hi178_0⟩ := at_L2 HR0.out x13_1 p178 q178
                    cases e178
                    have HR178_0 := Aside0.mk hi178_0
                    have HC178_0 := Aside0.mk hl178_0
                    clear hi178_0 hl178_0
                    replace p178 := eq_true p178
                    replace q178 := eq_true q178
                    have p179 : 0 ≤ (0 : Int) := (by omega)
                    have q179 : 0 < (l0.length : Int) := of_decide_eq_true (by first | (with_reducible assumption) | assumption)
                    obtain ⟨ad179, A179_0, c179_0, e179, hx179_0, hl179_0, hi179_0⟩ := at_L2 HR0.out 0 p179 q179
                    obtain rfl : ad178 = ad179 := (by injection e179)
                    have qi179 : (0 < l0.length) = True := eq_true (by omega)
                    (try rw [show ((0 : Int)).toNat = 0 from rfl] at hx179_0)
                    (try rw [Addr.add_zero'] at hx179_0)
                    have HR179_0 := Aside0.mk hi179_0
                    have HC179_0 := Aside0.mk hl179_0
                    clear hi179_0 hl179_0
                    replace p179 := eq_true p179
                    replace q179 := eq_true q179
                    go_wp2
                    go_ret
                    exact ⟨by first | rfl | (simp; done) | (simp [*]; done), by repeat (first | exact Drawn0.refl _ | apply Drawn0.step)⟩
                · rw [if_neg c7] at H
                  exact absurd H (by simp)
          · rw [if_neg c4] at H
            exact absurd H (by simp)
        · rw [if_neg c3] at H
          exact absurd H (by simp)
      · rw [if_neg c2] at H
        have c2b0 : decide (x13_1 < (l0.length : Int)) = false := decide_eq_false c2
        clear c2
        have H' := Aside0.mk H
        clear H
        go_wp2
        go_loopg [37] k1 (fun kq v37 w' => ∃ (x37_2 : Int), v37 = .int .i64 x37_2 ∧ Aside0 (impl_badCounts.l1 kq l0 l0 (l0.length : Int) x37_2 = some r) ∧ Aside0 (kq ≤ k1) ∧ Drawn0 w w')
        case atStart => exact ⟨(0), (by first | rfl | (simp; done) | (simp [*]; done)), H', ⟨Nat.le_refl _⟩, by repeat (first | exact Drawn0.refl _ | apply Drawn0.step)⟩
        case round =>
          clear H'
          try clear c1
          try clear p1
          try clear q1
          try clear hx1
          try clear qi1
          try clear c2
          try clear c2b0
          try clear p2
          try clear c3
          try clear c3b0
          try clear c4
          try clear c4b0
          try clear c5
          try clear c5b0
          try clear c5b1
          try clear c6
          try clear c6b0
          try clear c6b1
          try clear p6
          try clear c7
          try clear c7b0
          try clear c7b1
          try clear c8
          try clear c8b0
          try clear c8b1
          try clear c8b2
          try clear hx178_0
          try clear hx179_0
          try clear p178
          try clear p179
          try clear q178
          try clear q179
          obtain ⟨x37_2, rfl, HA, HK2, ⟨m2, rfl⟩⟩ := hrel
          cases gk with
          | zero => exact absurd HA.out (by simp [impl_badCounts.l1])
          | succ k2 =>
            have H := HA.out
            clear HA
            simp only [impl_badCounts.l1] at H
            by_cases c9 : x37_2 < (l0.length : Int)
            · rw [if_pos c9] at H
              have c9b0 : decide (x37_2 < (l0.length : Int)) = true := decide_eq_true c9
              clear c9
              by_cases c10 : 0 ≤ x37_2
              · rw [if_pos c10] at H
                have c10b0 : decide (0 ≤ x37_2) = true := decide_eq_true c10
                clear c10
                by_cases c11 : x37_2 < (l0.length : Int)
                · rw [if_pos c11] at H
                  have c11b0 : decide (x37_2 < (l0.length : Int)) = true := decide_eq_true c11
                  clear c11
                  have H' := Aside0.mk H
                  clear H
                  have p180 : 0 ≤ (x37_2 : Int) := of_decide_eq_true (by first | (with_reducible assumption) | assumption)
                  have q180 : x37_2 < (l0.length : Int) := of_decide_eq_true (by first | (with_reducible assumption) | assumption)
                  obtain ⟨ad180, A180_0, c180_0, e180, hx180_0, hl180_0, hi180_0⟩ := at_L2 HR0.out x37_2 p180 q180
                  cases e180
                  have HR180_0 := Aside0.mk hi180_0
                  have HC180_0 := Aside0.mk hl180_0
                  clear hi180_0 hl180_0
                  replace p180 := eq_true p180
                  replace q180 := eq_true q180
                  go_wp2
                  go_loopg [43] k2 (fun kq v43 w' => ∃ (x43_3 : Int), v43 = .int .i64 x43_3 ∧ Aside0 (impl_badCounts.l2 kq l0 l0 (l0.length : Int) x37_2 (rd_L2 l0 x37_2) ((rd_L2 l0 x37_2).length : Int) x43_3 = some r) ∧ Aside0 (kq ≤ k2) ∧ Drawn0 w w')
                  case atStart => exact ⟨(0), (by first | rfl | (simp; done) | (simp [*]; done)), H', ⟨Nat.le_refl _⟩, by repeat (first | exact Drawn0.refl _ | apply Drawn0.step)⟩
                  case round =>
                    clear H'
                    try clear c1
                    try clear p1
                    try clear q1
                    try clear hx1
                    try clear qi1
                    try clear c2
                    try clear c2b0
                    try clear p2
                    try clear c3
                    try clear c3b0
                    try clear c4
                    try clear c4b0
                    try clear c5
                    try clear c5b0
                    try clear c5b1
                    try clear c6
                    try clear c6b0
                    try clear c6b1
                    try clear p6
                    try clear c7
                    try clear c7b0
                    try clear c7b1
                    try clear c8
                    try clear c8b0
                    try clear c8b1
                    try clear c8b2
                    try clear c9
                    try clear c9b0
                    try clear c10
                    try clear c10b0
                    try clear c11
                    try clear c11b0
                    try clear hx178_0
                    try clear hx179_0
                    try clear hx180_0
                    try clear p1
                    try clear p178
                    try clear p179
                    try clear p180
                    try clear p2
                    try clear p6
                    try clear q1
                    try clear q178
                    try clear q179
                    try clear q180
                    obtain ⟨x43_3, rfl, HA, HK3, ⟨m3, rfl⟩⟩ := hrel
                    cases gk with
                    | zero => exact absurd HA.out (by simp [impl_badCounts.l2])
                    | succ k3 =>
                      have H := HA.out
                      clear HA
                      simp only [impl_badCounts.l2] at H
                      by_cases c12 : x43_3 < ((rd_L2 l0 x37_2).length : Int)
                      · rw [if_pos c12] at H
                        have c12b0 : decide (x43_3 < ((rd_L2 l0 x37_2).length : Int)) = true := decide_eq_true c12
                        clear c12
                        by_cases c13 : 0 ≤ x43_3
                        · rw [if_pos c13] at H
                          have c13b0 : decide (0 ≤ x43_3) = true := decide_eq_true c13
                          clear c13
                          by_cases c14 : x43_3 < ((rd_L2 l0 x37_2).length : Int)
                          · rw [if_pos c14] at H
                            have c14b0 : decide (x43_3 < ((rd_L2 l0 x37_2).length : Int)) = true := decide_eq_true c14
                            clear c14
                            by_cases c15 : (rd (rd_L2 l0 x37_2) x43_3) < 0
                            · rw [if_pos c15] at H
                              have c15b0 : decide ((rd (rd_L2 l0 x37_2) x43_3) < 0) = true := decide_eq_true c15
                              clear c15
                              obtain rfl := Option.some.inj H
                              have p181 : 0 ≤ (x43_3 : Int) := of_decide_eq_true (by first | (with_reducible assumption) | assumption)
                              have q181 : x43_3 < ((rd_L2 l0 x37_2).length : Int) := of_decide_eq_true (by first | (with_reducible assumption) | assumption)
                              obtain ⟨ad181, e181, hx181_0⟩ := Kd.at_int HR180_0.out x43_3 p181 q181
                              cases e181
                              replace p181 := eq_true p181
                              replace q181 := eq_true q181
                              go_wp2
                              go_ret
                              exact ⟨by first | rfl | (simp; done) | (simp [*]; done), by repeat (first | exact Drawn0.refl _ | apply Drawn0.step)⟩
                            · rw [if_neg c15] at H
                              have c15b0 : decide ((rd (rd_L2 l0 x37_2) x43_3) < 0) = false := decide_eq_false c15
                              clear c15
                              by_cases c16 : (rd (rd_L2 l0 x37_2) x43_3) > 65535
                              · rw [if_pos c16] at H
                                have c16b0 : decide (65535 < (rd (rd_L2 l0 x37_2) x43_3)) = true := decide_eq_true c16
                                clear c16
                                obtain rfl := Option.some.inj H
                                have p181 : 0 ≤ (x43_3 : Int) := of_decide_eq_true (by first | (with_reducible assumption) | assumption)
                                have q181 : x43_3 < ((rd_L2 l0 x37_2).length : Int) := of_decide_eq_true (by first | (with_reducible assumption) | assumption)
                                obtain ⟨ad181, e181, hx181_0⟩ := Kd.at_int HR180_0.out x43_3 p181 q181
                                cases e181
                                replace p181 := eq_true p181
                                replace q181 := eq_true q181
                                go_wp2
                                go_ret
                                exact ⟨by first | rfl | (simp; done) | (simp [*]; done), by repeat (first | exact Drawn0.refl _ | apply Drawn0.step)⟩
                              · rw [if_neg c16] at H
                                have c16b0 : decide (65535 < (rd (rd_L2 l0 x37_2) x43_3)) = false := decide_eq_false c16
                                clear c16
                                have H' := Aside0.mk H
                                clear H
                                have p181 : 0 ≤ (x43_3 : Int) := of_decide_eq_true (by first | (with_reducible assumption) | assumption)
                                have q181 : x43_3 < ((rd_L2 l0 x37_2).length : Int) := of_decide_eq_true (by first | (with_reducible assumption) | assumption)
                                obtain ⟨ad181, e181, hx181_0⟩ := Kd.at_int HR180_0.out x43_3 p181 q181
                                cases e181
                                replace p181 := eq_true p181
                                replace q181 := eq_true q181
                                go_wp2
                                go_roundg k3
                                case measure => have := HK1.out; have := HK2.out; have := HK3.out; omega
                                case rel => exact ⟨(wrap64 (x43_3 + 1)), (by first | rfl | (simp; done) | (simp [*]; done)), H', ⟨by have := HK1.out; have := HK2.out; have := HK3.out; omega⟩, by repeat (first | exact Drawn0.refl _ | apply Drawn0.step)⟩
                          · rw [if_neg c14] at H
                            exact absurd H (by simp)
                        · rw [if_neg c13] at H
                          exact absurd H (by simp)
                      · rw [if_neg c12] at H
                        have c12b0 : decide (x43_3 < ((rd_L2 l0 x37_2).length : Int)) = false := decide_eq_false c12
                        clear c12
                        have H' := Aside0.mk H
                        clear H
                        go_wp2
                        go_roundg k3
                        case measure => have := HK1.out; have := HK2.out; have := HK3.out; omega
                        case rel => exact ⟨(wrap64 (x37_2 + 1)), (by first | rfl | (simp; done) | (simp [*]; done)), H', ⟨by have := HK1.out; have := HK2.out; have := HK3.out; omega⟩, by repeat (first | exact Drawn0.refl _ | apply Drawn0.step)⟩
                · rw [if_neg c11] at H
                  exact absurd H (by simp)
              · rw [if_neg c10] at H
                exact absurd H (by simp)
            · rw [if_neg c9] at H
              have c9b0 : decide (x37_2 < (l0.length : Int)) = false := decide_eq_false c9
              clear c9
              have H' := Aside0.mk H
              clear H
              go_wp2
              go_loopg [57] k2 (fun kq v57 w' => ∃ (x57_3 : Int), v57 = .int .i64 x57_3 ∧ Aside0 (impl_badCounts.l3 kq l0 (l0.length : Int) x57_3 = some r) ∧ Aside0 (kq ≤ k2) ∧ Drawn0 w w')
              case atStart => exact ⟨(0), (by first | rfl | (simp; done) | (simp [*]; done)), H', ⟨Nat.le_refl _⟩, by repeat (first | exact Drawn0.refl _ | apply Drawn0.step)⟩
              case round =>
                clear H'
                try clear c1
                try clear p1
                try clear q1
                try clear hx1
                try clear qi1
                try clear c2
                try clear c2b0
                try clear p2
                try clear c3
                try clear c3b0
                try clear c4
                try clear c4b0
                try clear c5
                try clear c5b0
                try clear c5b1
                try clear c6
                try clear c6b0
                try clear c6b1
                try clear p6
                try clear c7
                try clear c7b0
                try clear c7b1
                try clear c8
                try clear c8b0
                try clear c8b1
                try clear c8b2
                try clear c9
                try clear c9b0
                try clear c10
                try clear c10b0
                try clear c11
                try clear c11b0
                try clear c12
                try clear c12b0
                try clear c13
                try clear c13b0
                try clear c14
                try clear c14b0
                try clear c15
                try clear c15b0
                try clear c16
                try clear c16b0
                try clear hx178_0
                try clear hx179_0
                try clear hx180_0
                try clear hx181_0
                try clear p1
                try clear p178
                try clear p179
                try clear p180
                try clear p181
                try clear p2
                try clear p6
                try clear q1
                try clear q178
                try clear q179
                try clear q180
                try clear q181
                obtain ⟨x57_3, rfl, HA, HK3, ⟨m3, rfl⟩⟩ := hrel
                cases gk with
                | zero => exact absurd HA.out (by simp [impl_badCounts.l3])
                | succ k3 =>
                  have H := HA.out
                  clear HA
                  simp only [impl_badCounts.l3] at H
                  by_cases c17 : x57_3 < (l0.length : Int)
                  · rw [if_pos c17] at H
                    have c17b0 : decide (x57_3 < (l0.length : Int)) = true := decide_eq_true c17
                    clear c17
                    by_cases c18 : 0 ≤ x57_3
                    · rw [if_pos c18] at H
                      have c18b0 : decide (0 ≤ x57_3) = true := decide_eq_true c18
                      clear c18
                      by_cases c19 : x57_3 < (l0.length : Int)
                      · rw [if_pos c19] at H
                        have c19b0 : decide (x57_3 < (l0.length : Int)) = true := decide_eq_true c19
                        clear c19
                        by_cases c20 : 0 < ((rd_L2 l0 x57_3).length : Int)
                        · rw [if_pos c20] at H
                          have c20b0 : decide (0 < ((rd_L2 l0 x57_3).length : Int)) = true := decide_eq_true c20
                          have c20b1 : decide (0 < (rd_L2 l0 x57_3).length) = true := decide_eq_true (by omega)
                          clear c20
                          by_cases c21 : (rd (rd_L2 l0 x57_3) 0) = 0
                          · rw [if_pos c21] at H
                            have c21b0 : ((rd (rd_L2 l0 x57_3) 0) == 0) = true := beq_iff_eq.mpr c21
                            have c21b1 : ((rd (rd_L2 l0 x57_3) 0) != 0) = false := bne_eq_false_iff_eq.mpr c21
                            clear c21
                            by_cases c22 : 1 < ((rd_L2 l0 x57_3).length : Int)
                            · rw [if_pos c22] at H
                              have c22b0 : decide (1 < ((rd_L2 l0 x57_3).length : Int)) = true := decide_eq_true c22
                              have c22b1 : decide (1 < (rd_L2 l0 x57_3).length) = true := decide_eq_true (by omega)
                              clear c22
                              by_cases c23 : (rd (rd_L2 l0 x57_3) 1) = 0
                              · rw [if_pos c23] at H
                                have c23b0 : ((rd (rd_L2 l0 x57_3) 1) == 0) = true := beq_iff_eq.mpr c23
                                have c23b1 : ((rd (rd_L2 l0 x57_3) 1) != 0) = false := bne_eq_false_iff_eq.mpr c23
                                clear c23
                                have H' := Aside0.mk H
                                clear H
                                have p182 : 0 ≤ (x57_3 : Int) := of_decide_eq_true (by first | (with_reducible assumption) | assumption)
                                have q182 : x57_3 < (l0.length : Int) := of_decide_eq_true (by first | (with_reducible assumption) | assumption)
                                obtain ⟨ad182, A182_0, c182_0, e182, hx182_0, hl182_0, hi182_0⟩ := at_L2 HR0.out x57_3 p182 q182
                                cases e182
                                have HR182_0 := Aside0.mk hi182_0
                                have HC182_0 := Aside0.mk hl182_0
                                clear hi182_0 hl182_0
                                replace p182 := eq_true p182
                                replace q182 := eq_true q182
                                have p183 : 0 ≤ (0 : Int) := (by omega)
                                have q183 : 0 < ((rd_L2 l0 x57_3).length : Int) := of_decide_eq_true (by first | (with_reducible assumption) | assumption)
                                obtain ⟨ad183, e183, hx183_0⟩ := Kd.at_int HR182_0.out 0 p183 q183
                                cases e183
                                have qi183 : (0 < (rd_L2 l0 x57_3).length) = True := eq_true (by omega)
                                (try rw [show ((0 : Int)).toNat = 0 from rfl] at hx183_0)
                                (try rw [Addr.add_zero'] at hx183_0)
                                replace p183 := eq_true p183
                                replace q183 := eq_true q183
                                have p184 : 0 ≤ (1 : Int) := (by omega)
                                have q184 : 1 < ((rd_L2 l0 x57_3).length : Int) := of_decide_eq_true (by first | (with_reducible assumption) | assumption)
                                obtain ⟨ad184, e184, hx184_0⟩ := Kd.at_int HR182_0.out 1 p184 q184
                                obtain rfl : ad183 = ad184 := (by injection e184)
                                (try simp only [show (1 : Int).toNat = 1 from rfl, Nat.reduceMul, Nat.reduceEqDiff, Go.Addr.add, ↓reduceIte] at hx184_0)
                                have qi184 : (1 < (rd_L2 l0 x57_3).length) = True := eq_true (by omega)
                                (try rw [show ((1 : Int)).toNat = 1 from rfl] at hx184_0)
                                replace p184 := eq_true p184
                                replace q184 := eq_true q184
                                go_wp2
                                go_roundg k3
                                case measure => have := HK1.out; have := HK2.out; have := HK3.out; omega
                                case rel => exact ⟨(wrap64 (x57_3 + 1)), (by first | rfl | (simp; done) | (simp [*]; done)), H', ⟨by have := HK1.out; have := HK2.out; have := HK3.out; omega⟩, by repeat (first | exact Drawn0.refl _ | apply Drawn0.step)⟩
                              · rw [if_neg c23] at H
                                have c23b0 : ((rd (rd_L2 l0 x57_3) 1) == 0) = false := beq_eq_false_iff_ne.mpr c23
                                have c23b1 : ((rd (rd_L2 l0 x57_3) 1) != 0) = true := bne_iff_ne.mpr c23
                                obtain rfl := Option.some.inj H
                                have p182 : 0 ≤ (x57_3 : Int) := of_decide_eq_true (by first | (with_reducible assumption) | assumption)
                                have q182 : x57_3 < (l0.length : Int) := of_decide_eq_true (by first | (with_reducible assumption) | assumption)
                                obtain ⟨ad182, A182_0, c182_0, e182, hx182_0, hl182_0, hi182_0⟩ := at_L2 HR0.out x57_3 p182 q182
                                cases e182
                                have HR182_0 := Aside0.mk hi182_0
                                have HC182_0 := Aside0.mk hl182_0
                                clear hi182_0 hl182_0
                                replace p182 := eq_true p182
                                replace q182 := eq_true q182
                                have p183 : 0 ≤ (0 : Int) := (by omega)
                                have q183 : 0 < ((rd_L2 l0 x57_3).length : Int) := of_decide_eq_true (by first | (with_reducible assumption) | assumption)
                                obtain ⟨ad183, e183, hx183_0⟩ := Kd.at_int HR182_0.out 0 p183 q183
                                cases e183
                                have qi183 : (0 < (rd_L2 l0 x57_3).length) = True := eq_true (by omega)
                                (try rw [show ((0 : Int)).toNat = 0 from rfl] at hx183_0)
                                (try rw [Addr.add_zero'] at hx183_0)
                                replace p183 := eq_true p183
                                replace q183 := eq_true q183
                                have p184 : 0 ≤ (1 : Int) := (by omega)
                                have q184 : 1 < ((rd_L2 l0 x57_3).length : Int) := of_decide_eq_true (by first | (with_reducible assumption) | assumption)
                                obtain ⟨ad184, e184, hx184_0⟩ := Kd.at_int HR182_0.out 1 p184 q184
                                obtain rfl : ad183 = ad184 := (by injection e184)
                                (try simp only [show (1 : Int).toNat = 1 from rfl, Nat.reduceMul, Nat.reduceEqDiff, Go.Addr.add, ↓reduceIte] at hx184_0)
                                have qi184 : (1 < (rd_L2 l0 x57_3).length) = True := eq_true (by omega)
                                (try rw [show ((1 : Int)).toNat = 1 from rfl] at hx184_0)
                                replace p184 := eq_true p184
                                replace q184 := eq_true q184
                                go_wp2
                                go_ret
                                exact ⟨by first | rfl | (simp; done) | (simp [*]; done), by repeat (first | exact Drawn0.refl _ | apply Drawn0.step)⟩
                            · rw [if_neg c22] at H
                              exact absurd H (by simp)
                          · rw [if_neg c21] at H
                            have c21b0 : ((rd (rd_L2 l0 x57_3) 0) == 0) = false := beq_eq_false_iff_ne.mpr c21
                            have c21b1 : ((rd (rd_L2 l0 x57_3) 0) != 0) = true := bne_iff_ne.mpr c21
                            obtain rfl := Option.some.inj H
                            have p182 : 0 ≤ (x57_3 : Int) := of_decide_eq_true (by first | (with_reducible assumption) | assumption)
                            have q182 : x57_3 < (l0.length : Int) := of_decide_eq_true (by first | (with_reducible assumption) | assumption)
                            obtain ⟨ad182, A182_0, c182_0, e182, hx182_0, hl182_0, hi182_0⟩ := at_L2 HR0.out x57_3 p182 q182
                            cases e182
                            have HR182_0 := Aside0.mk hi182_0
                            have HC182_0 := Aside0.mk hl182_0
                            clear hi182_0 hl182_0
                            replace p182 := eq_true p182
                            replace q182 := eq_true q182
                            have p183 : 0 ≤ (0 : Int) := (by omega)
                            have q183 : 0 < ((rd_L2 l0 x57_3).length : Int) := of_decide_eq_true (by first | (with_reducible assumption) | assumption)
                            obtain ⟨ad183, e183, hx183_0⟩ := Kd.at_int HR182_0.out 0 p183 q183
                            cases e183
                            have qi183 : (0 < (rd_L2 l0 x57_3).length) = True := eq_true (by omega)
                            (try rw [show ((0 : Int)).toNat = 0 from rfl] at hx183_0)
                            (try rw [Addr.add_zero'] at hx183_0)
                            replace p183 := eq_true p183
                            replace q183 := eq_true q183
                            go_wp2
                            go_ret
                            exact ⟨by first | rfl | (simp; done) | (simp [*]; done), by repeat (first | exact Drawn0.refl _ | apply Drawn0.step)⟩
                        · rw [if_neg c20] at H
                          exact absurd H (by simp)
                      · rw [if_neg c19] at H
                        exact absurd H (by simp)
                    · rw [if_neg c18] at H
                      exact absurd H (by simp)
                  · rw [if_neg c17] at H
                    have c17b0 : decide (x57_3 < (l0.length : Int)) = false := decide_eq_false c17
                    clear c17
                    obtain rfl := Option.some.inj H
                    go_wp2
                    go_ret
                    exact ⟨by first | rfl | (simp; done) | (simp [*]; done), by repeat (first | exact Drawn0.refl _ | apply Drawn0.step)⟩

end Go.Proofs.Ytbimmmmjdimebaa.PFnExactPlanTable
