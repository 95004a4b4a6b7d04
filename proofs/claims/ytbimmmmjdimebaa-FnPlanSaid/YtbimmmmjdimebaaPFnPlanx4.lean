-- This text was written by a program of this session (gprint.py, on a turned copy of the print tool).
import Derived.Test.YtbimmmmjdimebaaPFnPlanx0
namespace Go.Proofs.Ytbimmmmjdimebaa.PFnPlan
open Go.RowKit Go.Proofs.YtbimmmmjdimebaaW.PrintWords Go.Proofs.YtbimmmmjdimebaaW.PrintLast Go.Proofs.YtbimmmmjdimebaaW.PrintMore
attribute [local go_sem] max2_int min2_int max_two min_two max_three min_three max_four min_four   -- for this text's walks alone
set_option linter.unusedVariables false
set_option linter.unusedSimpArgs false

/-! ### impl_badCounts: function 66 -/
mutual
def impl_badCounts.l0 : Nat → List (List Int) → List (List Int) → Int → Int → Option (Int)
 | 0, _, _, _, _ => none
 | k + 1, x0, x11, x12, x13 => if x13 < x12 then (if 0 ≤ x13 then (if x13 < (x11.length : Int) then (if ((rd_L2 x11 x13).length : Int) < 8 then (some 1) else (if ((rd_L2 x11 x13).length : Int) > 512 then (some 1) else (if 0 < (x0.length : Int) then (if ((rd_L2 x11 x13).length : Int) = ((rd_L2 x0 0).length : Int) then (impl_badCounts.l0 k x0 x11 x12 (wrap64 (x13 + 1))) else (some 1)) else (none)))) else (none)) else (none)) else (impl_badCounts.l1 k x0 x0 (x0.length : Int) 0)
def impl_badCounts.l1 : Nat → List (List Int) → List (List Int) → Int → Int → Option (Int)
 | 0, _, _, _, _ => none
 | k + 1, x0, x35, x36, x37 => if x37 < x36 then (if 0 ≤ x37 then (if x37 < (x35.length : Int) then (impl_badCounts.l2 k x0 x35 x36 x37 (rd_L2 x35 x37) ((rd_L2 x35 x37).length : Int) 0) else (none)) else (none)) else (impl_badCounts.l3 k x0 (x0.length : Int) 0)
def impl_badCounts.l2 : Nat → List (List Int) → List (List Int) → Int → Int → List Int → Int → Int → Option (Int)
 | 0, _, _, _, _, _, _, _ => none
 | k + 1, x0, x35, x36, x37, x41, x42, x43 => if x43 < x42 then (if 0 ≤ x43 then (if x43 < (x41.length : Int) then (if (rd x41 x43) < 0 then (some 2) else (if (rd x41 x43) > 65535 then (some 2) else (impl_badCounts.l2 k x0 x35 x36 x37 x41 x42 (wrap64 (x43 + 1))))) else (none)) else (none)) else (impl_badCounts.l1 k x0 x35 x36 (wrap64 (x37 + 1)))
def impl_badCounts.l3 : Nat → List (List Int) → Int → Int → Option (Int)
 | 0, _, _, _ => none
 | k + 1, x55, x56, x57 => if x57 < x56 then (if 0 ≤ x57 then (if x57 < (x55.length : Int) then (if 0 < ((rd_L2 x55 x57).length : Int) then (if (rd (rd_L2 x55 x57) 0) = 0 then (if 1 < ((rd_L2 x55 x57).length : Int) then (if (rd (rd_L2 x55 x57) 1) = 0 then (impl_badCounts.l3 k x55 x56 (wrap64 (x57 + 1))) else (some 5)) else (none)) else (some 5)) else (none)) else (none)) else (none)) else (some 0)
end
def impl_badCounts.f (k : Nat) (l0 : List (List Int)) : Option (Int) := impl_badCounts.l0 k l0 l0 (l0.length : Int) 0
set_option maxHeartbeats 8000000 in
set_option maxRecDepth 100000 in
theorem impl_badCounts.calls (k : Nat) (A0 : Option Addr) (c0 : Nat) (l0 : List (List Int)) (r : Int) (w : World) (hr0 : Kd.C (Kd.slice 2 (Kd.int .i64)) w A0 l0.length l0) (hc0 : l0.length ≤ c0) (h : impl_badCounts.f k l0 = some r) :
  Calls Try.prog 66 #[.slice A0 l0.length c0] w fun e w' => e = .returned (.int .i64 r) ∧ Drawn0 w w' := by
 have HR0 := Aside0.mk hr0
 have HC0 := Aside0.mk hc0
 clear hr0 hc0
 have H : (impl_badCounts.l0 k l0 l0 (l0.length : Int) 0) = some r := h
 clear h
 have H' := Aside0.mk H
 clear H
 go_enter Try.func66, Try.ntmps66
 go_wp2
 go_loopg [13] k (fun kq v13 w' => ∃ (x13_1 : Int), v13 = .int .i64 x13_1 ∧ Aside0 (impl_badCounts.l0 kq l0 l0 (l0.length : Int) x13_1 = some r) ∧ Aside0 (kq ≤ k) ∧ Drawn0 w w')
 case atStart => exact ⟨(0), (by first | rfl | (simp; done) | (simp [*]; done)), H', ⟨Nat.le_refl _⟩, by repeat (first | exact Drawn0.refl _ | apply Drawn0.step)⟩
 case round =>
  clear H'
  obtain ⟨x13_1, rfl, HA, HK1, ⟨m1, rfl⟩⟩ := hrel
  cases gk with
  | zero => exact absurd HA.out (by simp [impl_badCounts.l0])
  | succ k1 =>
   have H := HA.out
   clear HA
   simp only [impl_badCounts.l0] at H
   by_cases c2 : x13_1 < (l0.length : Int)
   ·rw [if_pos c2] at H
    have c2b0 : decide (x13_1 < (l0.length : Int)) = true := decide_eq_true c2
    clear c2
    by_cases c3 : 0 ≤ x13_1
    ·rw [if_pos c3] at H
     have c3b0 : decide (0 ≤ x13_1) = true := decide_eq_true c3
     clear c3
     by_cases c4 : x13_1 < (l0.length : Int)
     ·rw [if_pos c4] at H
      have c4b0 : decide (x13_1 < (l0.length : Int)) = true := decide_eq_true c4
      clear c4
      by_cases c5 : ((rd_L2 l0 x13_1).length : Int) < 8
      ·rw [if_pos c5] at H
       have c5b0 : decide (((rd_L2 l0 x13_1).length : Int) < 8) = true := decide_eq_true c5
       have c5b1 : decide ((rd_L2 l0 x13_1).length < 8) = true := decide_eq_true (by omega)
       clear c5
       obtain rfl := Option.some.inj H
       have p113 : 0 ≤ (x13_1 : Int) := of_decide_eq_true (by first | (with_reducible assumption) | assumption)
       have q113 : x13_1 < (l0.length : Int) := of_decide_eq_true (by first | (with_reducible assumption) | assumption)
       obtain ⟨ad113, A113_0, c113_0, e113, hx113_0, hl113_0, hi113_0⟩ := at_L2 HR0.out x13_1 p113 q113
       cases e113
       have HR113_0 := Aside0.mk hi113_0
       have HC113_0 := Aside0.mk hl113_0
       clear hi113_0 hl113_0
       replace p113 := eq_true p113
       replace q113 := eq_true q113
       go_wp2
       go_ret
       exact ⟨by first | rfl | (simp; done) | (simp [*]; done), by repeat (first | exact Drawn0.refl _ | apply Drawn0.step)⟩
      ·rw [if_neg c5] at H
       have c5b0 : decide (((rd_L2 l0 x13_1).length : Int) < 8) = false := decide_eq_false c5
       have c5b1 : decide ((rd_L2 l0 x13_1).length < 8) = false := decide_eq_false (by omega)
       clear c5
       by_cases c6 : ((rd_L2 l0 x13_1).length : Int) > 512
       ·rw [if_pos c6] at H
        have c6b0 : decide (512 < ((rd_L2 l0 x13_1).length : Int)) = true := decide_eq_true c6
        have c6b1 : decide (512 < (rd_L2 l0 x13_1).length) = true := decide_eq_true (by omega)
        clear c6
        obtain rfl := Option.some.inj H
        have p113 : 0 ≤ (x13_1 : Int) := of_decide_eq_true (by first | (with_reducible assumption) | assumption)
        have q113 : x13_1 < (l0.length : Int) := of_decide_eq_true (by first | (with_reducible assumption) | assumption)
        obtain ⟨ad113, A113_0, c113_0, e113, hx113_0, hl113_0, hi113_0⟩ := at_L2 HR0.out x13_1 p113 q113
        cases e113
        have HR113_0 := Aside0.mk hi113_0
        have HC113_0 := Aside0.mk hl113_0
        clear hi113_0 hl113_0
        replace p113 := eq_true p113
        replace q113 := eq_true q113
        go_wp2
        go_ret
        exact ⟨by first | rfl | (simp; done) | (simp [*]; done), by repeat (first | exact Drawn0.refl _ | apply Drawn0.step)⟩
       ·rw [if_neg c6] at H
        have c6b0 : decide (512 < ((rd_L2 l0 x13_1).length : Int)) = false := decide_eq_false c6
        have c6b1 : decide (512 < (rd_L2 l0 x13_1).length) = false := decide_eq_false (by omega)
        clear c6
        by_cases c7 : 0 < (l0.length : Int)
        ·rw [if_pos c7] at H
         have c7b0 : decide (0 < (l0.length : Int)) = true := decide_eq_true c7
         have c7b1 : decide (0 < l0.length) = true := decide_eq_true (by omega)
         clear c7
         by_cases c8 : ((rd_L2 l0 x13_1).length : Int) = ((rd_L2 l0 0).length : Int)
         ·rw [if_pos c8] at H
          have c8b0 : (((rd_L2 l0 x13_1).length : Int) == ((rd_L2 l0 0).length : Int)) = true := beq_iff_eq.mpr c8
          have c8b1 : (((rd_L2 l0 x13_1).length : Int) != ((rd_L2 l0 0).length : Int)) = false := bne_eq_false_iff_eq.mpr c8
          have c8b2 : ((rd_L2 l0 x13_1).length == (rd_L2 l0 0).length) = true := by first | simpa using c8 | (simp at c8 ⊢; omega)
          clear c8
          have H' := Aside0.mk H
          clear H
          have p113 : 0 ≤ (x13_1 : Int) := of_decide_eq_true (by first | (with_reducible assumption) | assumption)
          have q113 : x13_1 < (l0.length : Int) := of_decide_eq_true (by first | (with_reducible assumption) | assumption)
          obtain ⟨ad113, A113_0, c113_0, e113, hx113_0, hl113_0, hi113_0⟩ := at_L2 HR0.out x13_1 p113 q113
          cases e113
          have HR113_0 := Aside0.mk hi113_0
          have HC113_0 := Aside0.mk hl113_0
          clear hi113_0 hl113_0
          replace p113 := eq_true p113
          replace q113 := eq_true q113
          have p114 : 0 ≤ (0 : Int) := (by omega)
          have q114 : 0 < (l0.length : Int) := of_decide_eq_true (by first | (with_reducible assumption) | assumption)
          obtain ⟨ad114, A114_0, c114_0, e114, hx114_0, hl114_0, hi114_0⟩ := at_L2 HR0.out 0 p114 q114
          obtain rfl : ad113 = ad114 := (by injection e114)
          have qi114 : (0 < l0.length) = True := eq_true (by omega)
          (try rw [show ((0 : Int)).toNat = 0 from rfl] at hx114_0)
          (try rw [Addr.add_zero'] at hx114_0)
          have HR114_0 := Aside0.mk hi114_0
          have HC114_0 := Aside0.mk hl114_0
          clear hi114_0 hl114_0
          replace p114 := eq_true p114
          replace q114 := eq_true q114
          go_wp2
          go_roundg k1
          case measure => have := HK1.out; omega
          case rel => exact ⟨(wrap64 (x13_1 + 1)), (by first | rfl | (simp; done) | (simp [*]; done)), H', ⟨by have := HK1.out; omega⟩, by repeat (first | exact Drawn0.refl _ | apply Drawn0.step)⟩
         ·rw [if_neg c8] at H
          have c8b0 : (((rd_L2 l0 x13_1).length : Int) == ((rd_L2 l0 0).length : Int)) = false := beq_eq_false_iff_ne.mpr c8
          have c8b1 : (((rd_L2 l0 x13_1).length : Int) != ((rd_L2 l0 0).length : Int)) = true := bne_iff_ne.mpr c8
          have c8b2 : ((rd_L2 l0 x13_1).length == (rd_L2 l0 0).length) = false := by first | simpa using c8 | (simp at c8 ⊢; omega)
          obtain rfl := Option.some.inj H
          have p113 : 0 ≤ (x13_1 : Int) := of_decide_eq_true (by first | (with_reducible assumption) | assumption)
          have q113 : x13_1 < (l0.length : Int) := of_decide_eq_true (by first | (with_reducible assumption) | assumption)
          obtain ⟨ad113, A113_0, c113_0, e113, hx113_0, hl113_0, hi113_0⟩ := at_L2 HR0.out x13_1 p113 q113
          cases e113
          have HR113_0 := Aside0.mk hi113_0
          have HC113_0 := Aside0.mk hl113_0
          clear hi113_0 hl113_0
          replace p113 := eq_true p113
          replace q113 := eq_true q113
          have p114 : 0 ≤ (0 : Int) := (by omega)
          have q114 : 0 < (l0.length : Int) := of_decide_eq_true (by first | (with_reducible assumption) | assumption)
          obtain ⟨ad114, A114_0, c114_0, e114, hx114_0, hl114_0, hi114_0⟩ := at_L2 HR0.out 0 p114 q114
          obtain rfl : ad113 = ad114 := (by injection e114)
          have qi114 : (0 < l0.length) = True := eq_true (by omega)
          (try rw [show ((0 : Int)).toNat = 0 from rfl] at hx114_0)
          (try rw [Addr.add_zero'] at hx114_0)
          have HR114_0 := Aside0.mk hi114_0
          have HC114_0 := Aside0.mk hl114_0
          clear hi114_0 hl114_0
          replace p114 := eq_true p114
          replace q114 := eq_true q114
          go_wp2
          go_ret
          exact ⟨by first | rfl | (simp; done) | (simp [*]; done), by repeat (first | exact Drawn0.refl _ | apply Drawn0.step)⟩
        ·rw [if_neg c7] at H
         exact absurd H (by simp)
     ·rw [if_neg c4] at H
      exact absurd H (by simp)
    ·rw [if_neg c3] at H
     exact absurd H (by simp)
   ·rw [if_neg c2] at H
    have c2b0 : decide (x13_1 < (l0.length : Int)) = false := decide_eq_false c2
    clear c2
    have H' := Aside0.mk H
    clear H
    go_wp2
    go_loopg [37] k1 (fun kq v37 w' => ∃ (x37_2 : Int), v37 = .int .i64 x37_2 ∧ Aside0 (impl_badCounts.l1 kq l0 l0 (l0.length : Int) x37_2 = some r) ∧ Aside0 (kq ≤ k1) ∧ Drawn0 w w')
    case atStart => exact ⟨(0), (by first | rfl | (simp; done) | (simp [*]; done)), H', ⟨Nat.le_refl _⟩, by repeat (first | exact Drawn0.refl _ | apply Drawn0.step)⟩
    case round =>
     clear H'
     try clear c1
     try clear p1
     try clear q1
     try clear hx1
     try clear qi1
     try clear c2
     try clear c2b0
     try clear p2
     try clear c3
     try clear c3b0
     try clear c4
     try clear c4b0
     try clear c5
     try clear c5b0
     try clear c5b1
     try clear c6
     try clear c6b0
     try clear c6b1
     try clear p6
     try clear c7
     try clear c7b0
     try clear c7b1
     try clear c8
     try clear c8b0
     try clear c8b1
     try clear c8b2
     try clear hx113_0
     try clear hx114_0
     try clear p113
     try clear p114
     try clear q113
     try clear q114
     obtain ⟨x37_2, rfl, HA, HK2, ⟨m2, rfl⟩⟩ := hrel
     cases gk with
     | zero => exact absurd HA.out (by simp [impl_badCounts.l1])
     | succ k2 =>
      have H := HA.out
      clear HA
      simp only [impl_badCounts.l1] at H
      by_cases c9 : x37_2 < (l0.length : Int)
      ·rw [if_pos c9] at H
       have c9b0 : decide (x37_2 < (l0.length : Int)) = true := decide_eq_true c9
       clear c9
       by_cases c10 : 0 ≤ x37_2
       ·rw [if_pos c10] at H
        have c10b0 : decide (0 ≤ x37_2) = true := decide_eq_true c10
        clear c10
        by_cases c11 : x37_2 < (l0.length : Int)
        ·rw [if_pos c11] at H
         have c11b0 : decide (x37_2 < (l0.length : Int)) = true := decide_eq_true c11
         clear c11
         have H' := Aside0.mk H
         clear H
         have p115 : 0 ≤ (x37_2 : Int) := of_decide_eq_true (by first | (with_reducible assumption) | assumption)
         have q115 : x37_2 < (l0.length : Int) := of_decide_eq_true (by first | (with_reducible assumption) | assumption)
         obtain ⟨ad115, A115_0, c115_0, e115, hx115_0, hl115_0, hi115_0⟩ := at_L2 HR0.out x37_2 p115 q115
         cases e115
         have HR115_0 := Aside0.mk hi115_0
         have HC115_0 := Aside0.mk hl115_0
         clear hi115_0 hl115_0
         replace p115 := eq_true p115
         replace q115 := eq_true q115
         go_wp2
         go_loopg [43] k2 (fun kq v43 w' => ∃ (x43_3 : Int), v43 = .int .i64 x43_3 ∧ Aside0 (impl_badCounts.l2 kq l0 l0 (l0.length : Int) x37_2 (rd_L2 l0 x37_2) ((rd_L2 l0 x37_2).length : Int) x43_3 = some r) ∧ Aside0 (kq ≤ k2) ∧ Drawn0 w w')
         case atStart => exact ⟨(0), (by first | rfl | (simp; done) | (simp [*]; done)), H', ⟨Nat.le_refl _⟩, by repeat (first | exact Drawn0.refl _ | apply Drawn0.step)⟩
         case round =>
          clear H'
          try clear c1
          try clear p1
          try clear q1
          try clear hx1
          try clear qi1
          try clear c2
          try clear c2b0
          try clear p2
          try clear c3
          try clear c3b0
          try clear c4
          try clear c4b0
          try clear c5
          try clear c5b0
          try clear c5b1
          try clear c6
          try clear c6b0
          try clear c6b1
          try clear p6
          try clear c7
          try clear c7b0
          try clear c7b1
          try clear c8
          try clear c8b0
          try clear c8b1
          try clear c8b2
          try clear c9
          try clear c9b0
          try clear c10
          try clear c10b0
          try clear c11
          try clear c11b0
          try clear p11
          try clear q11
          try clear hx11
          try clear qi11
          try clear hx113_0
          try clear hx114_0
          try clear hx115_0
          try clear p1
          try clear p113
          try clear p114
          try clear p115
          try clear p2
          try clear p6
          try clear q1
          try clear q113
          try clear q114
          try clear q115
          obtain ⟨x43_3, rfl, HA, HK3, ⟨m3, rfl⟩⟩ := hrel
          cases gk with
          | zero => exact absurd HA.out (by simp [impl_badCounts.l2])
          | succ k3 =>
           have H := HA.out
           clear HA
           simp only [impl_badCounts.l2] at H
           by_cases c12 : x43_3 < ((rd_L2 l0 x37_2).length : Int)
           ·rw [if_pos c12] at H
            have c12b0 : decide (x43_3 < ((rd_L2 l0 x37_2).length : Int)) = true := decide_eq_true c12
            clear c12
            by_cases c13 : 0 ≤ x43_3
            ·rw [if_pos c13] at H
             have c13b0 : decide (0 ≤ x43_3) = true := decide_eq_true c13
             clear c13
             by_cases c14 : x43_3 < ((rd_L2 l0 x37_2).length : Int)
             ·rw [if_pos c14] at H
              have c14b0 : decide (x43_3 < ((rd_L2 l0 x37_2).length : Int)) = true := decide_eq_true c14
              clear c14
              by_cases c15 : (rd (rd_L2 l0 x37_2) x43_3) < 0
              ·rw [if_pos c15] at H
               have c15b0 : decide ((rd (rd_L2 l0 x37_2) x43_3) < 0) = true := decide_eq_true c15
               clear c15
               obtain rfl := Option.some.inj H
               have p116 : 0 ≤ (x43_3 : Int) := of_decide_eq_true (by first | (with_reducible assumption) | assumption)
               have q116 : x43_3 < ((rd_L2 l0 x37_2).length : Int) := of_decide_eq_true (by first | (with_reducible assumption) | assumption)
               obtain ⟨ad116, e116, hx116_0⟩ := Kd.at_int HR115_0.out x43_3 p116 q116
               cases e116
               replace p116 := eq_true p116
               replace q116 := eq_true q116
               go_wp2
               go_ret
               exact ⟨by first | rfl | (simp; done) | (simp [*]; done), by repeat (first | exact Drawn0.refl _ | apply Drawn0.step)⟩
              ·rw [if_neg c15] at H
               have c15b0 : decide ((rd (rd_L2 l0 x37_2) x43_3) < 0) = false := decide_eq_false c15
               clear c15
               by_cases c16 : (rd (rd_L2 l0 x37_2) x43_3) > 65535
               ·rw [if_pos c16] at H
                have c16b0 : decide (65535 < (rd (rd_L2 l0 x37_2) x43_3)) = true := decide_eq_true c16
                clear c16
                obtain rfl := Option.some.inj H
                have p116 : 0 ≤ (x43_3 : Int) := of_decide_eq_true (by first | (with_reducible assumption) | assumption)
                have q116 : x43_3 < ((rd_L2 l0 x37_2).length : Int) := of_decide_eq_true (by first | (with_reducible assumption) | assumption)
                obtain ⟨ad116, e116, hx116_0⟩ := Kd.at_int HR115_0.out x43_3 p116 q116
                cases e116
                replace p116 := eq_true p116
                replace q116 := eq_true q116
                go_wp2
                go_ret
                exact ⟨by first | rfl | (simp; done) | (simp [*]; done), by repeat (first | exact Drawn0.refl _ | apply Drawn0.step)⟩
               ·rw [if_neg c16] at H
                have c16b0 : decide (65535 < (rd (rd_L2 l0 x37_2) x43_3)) = false := decide_eq_false c16
                clear c16
                have H' := Aside0.mk H
                clear H
                have p116 : 0 ≤ (x43_3 : Int) := of_decide_eq_true (by first | (with_reducible assumption) | assumption)
                have q116 : x43_3 < ((rd_L2 l0 x37_2).length : Int) := of_decide_eq_true (by first | (with_reducible assumption) | assumption)
                obtain ⟨ad116, e116, hx116_0⟩ := Kd.at_int HR115_0.out x43_3 p116 q116
                cases e116
                replace p116 := eq_true p116
                replace q116 := eq_true q116
                go_wp2
                go_roundg k3
                case measure => have := HK1.out; have := HK2.out; have := HK3.out; omega
                case rel => exact ⟨(wrap64 (x43_3 + 1)), (by first | rfl | (simp; done) | (simp [*]; done)), H', ⟨by have := HK1.out; have := HK2.out; have := HK3.out; omega⟩, by repeat (first | exact Drawn0.refl _ | apply Drawn0.step)⟩
             ·rw [if_neg c14] at H
              exact absurd H (by simp)
            ·rw [if_neg c13] at H
             exact absurd H (by simp)
           ·rw [if_neg c12] at H
            have c12b0 : decide (x43_3 < ((rd_L2 l0 x37_2).length : Int)) = false := decide_eq_false c12
            clear c12
            have H' := Aside0.mk H
            clear H
            go_wp2
            go_roundg k3
            case measure => have := HK1.out; have := HK2.out; have := HK3.out; omega
            case rel => exact ⟨(wrap64 (x37_2 + 1)), (by first | rfl | (simp; done) | (simp [*]; done)), H', ⟨by have := HK1.out; have := HK2.out; have := HK3.out; omega⟩, by repeat (first | exact Drawn0.refl _ | apply Drawn0.step)⟩
        ·rw [if_neg c11] at H
         exact absurd H (by simp)
       ·rw [if_neg c10] at H
        exact absurd H (by simp)
      ·rw [if_neg c9] at H
       have c9b0 : decide (x37_2 < (l0.length : Int)) = false := decide_eq_false c9
       clear c9
       have H' := Aside0.mk H
       clear H
       go_wp2
       go_loopg [57] k2 (fun kq v57 w' => ∃ (x57_3 : Int), v57 = .int .i64 x57_3 ∧ Aside0 (impl_badCounts.l3 kq l0 (l0.length : Int) x57_3 = some r) ∧ Aside0 (kq ≤ k2) ∧ Drawn0 w w')
       case atStart => exact ⟨(0), (by first | rfl | (simp; done) | (simp [*]; done)), H', ⟨Nat.le_refl _⟩, by repeat (first | exact Drawn0.refl _ | apply Drawn0.step)⟩
       case round =>
        clear H'
        try clear c1
        try clear p1
        try clear q1
        try clear hx1
        try clear qi1
        try clear c2
        try clear c2b0
        try clear p2
        try clear c3
        try clear c3b0
        try clear c4
        try clear c4b0
        try clear c5
        try clear c5b0
        try clear c5b1
        try clear c6
        try clear c6b0
        try clear c6b1
        try clear p6
        try clear c7
        try clear c7b0
        try clear c7b1
        try clear c8
        try clear c8b0
        try clear c8b1
        try clear c8b2
        try clear c9
        try clear c9b0
        try clear c10
        try clear c10b0
        try clear c11
        try clear c11b0
        try clear p11
        try clear q11
        try clear hx11
        try clear qi11
        try clear c12
        try clear c12b0
        try clear c13
        try clear c13b0
        try clear c14
        try clear c14b0
        try clear c15
        try clear c15b0
        try clear c16
        try clear c16b0
        try clear hx113_0
        try clear hx114_0
        try clear hx115_0
        try clear hx116_0
        try clear p1
        try clear p11
        try clear p113
        try clear p114
        try clear p115
        try clear p116
        try clear p2
        try clear p6
        try clear q1
        try clear q11
        try clear q113
        try clear q114
        try clear q115
        try clear q116
        obtain ⟨x57_3, rfl, HA, HK3, ⟨m3, rfl⟩⟩ := hrel
        cases gk with
        | zero => exact absurd HA.out (by simp [impl_badCounts.l3])
        | succ k3 =>
         have H := HA.out
         clear HA
         simp only [impl_badCounts.l3] at H
         by_cases c17 : x57_3 < (l0.length : Int)
         ·rw [if_pos c17] at H
          have c17b0 : decide (x57_3 < (l0.length : Int)) = true := decide_eq_true c17
          clear c17
          by_cases c18 : 0 ≤ x57_3
          ·rw [if_pos c18] at H
           have c18b0 : decide (0 ≤ x57_3) = true := decide_eq_true c18
           clear c18
           by_cases c19 : x57_3 < (l0.length : Int)
           ·rw [if_pos c19] at H
            have c19b0 : decide (x57_3 < (l0.length : Int)) = true := decide_eq_true c19
            clear c19
            by_cases c20 : 0 < ((rd_L2 l0 x57_3).length : Int)
            ·rw [if_pos c20] at H
             have c20b0 : decide (0 < ((rd_L2 l0 x57_3).length : Int)) = true := decide_eq_true c20
             have c20b1 : decide (0 < (rd_L2 l0 x57_3).length) = true := decide_eq_true (by omega)
             clear c20
             by_cases c21 : (rd (rd_L2 l0 x57_3) 0) = 0
             ·rw [if_pos c21] at H
              have c21b0 : ((rd (rd_L2 l0 x57_3) 0) == 0) = true := beq_iff_eq.mpr c21
              have c21b1 : ((rd (rd_L2 l0 x57_3) 0) != 0) = false := bne_eq_false_iff_eq.mpr c21
              clear c21
              by_cases c22 : 1 < ((rd_L2 l0 x57_3).length : Int)
              ·rw [if_pos c22] at H
               have c22b0 : decide (1 < ((rd_L2 l0 x57_3).length : Int)) = true := decide_eq_true c22
               have c22b1 : decide (1 < (rd_L2 l0 x57_3).length) = true := decide_eq_true (by omega)
               clear c22
               by_cases c23 : (rd (rd_L2 l0 x57_3) 1) = 0
               ·rw [if_pos c23] at H
                have c23b0 : ((rd (rd_L2 l0 x57_3) 1) == 0) = true := beq_iff_eq.mpr c23
                have c23b1 : ((rd (rd_L2 l0 x57_3) 1) != 0) = false := bne_eq_false_iff_eq.mpr c23
                clear c23
                have H' := Aside0.mk H
                clear H
                have p117 : 0 ≤ (x57_3 : Int) := of_decide_eq_true (by first | (with_reducible assumption) | assumption)
                have q117 : x57_3 < (l0.length : Int) := of_decide_eq_true (by first | (with_reducible assumption) | assumption)
                obtain ⟨ad117, A117_0, c117_0, e117, hx117_0, hl117_0, hi117_0⟩ := at_L2 HR0.out x57_3 p117 q117
                cases e117
                have HR117_0 := Aside0.mk hi117_0
                have HC117_0 := Aside0.mk hl117_0
                clear hi117_0 hl117_0
                replace p117 := eq_true p117
                replace q117 := eq_true q117
                have p118 : 0 ≤ (0 : Int) := (by omega)
                have q118 : 0 < ((rd_L2 l0 x57_3).length : Int) := of_decide_eq_true (by first | (with_reducible assumption) | assumption)
                obtain ⟨ad118, e118, hx118_0⟩ := Kd.at_int HR117_0.out 0 p118 q118
                cases e118
                have qi118 : (0 < (rd_L2 l0 x57_3).length) = True := eq_true (by omega)
                (try rw [show ((0 : Int)).toNat = 0 from rfl] at hx118_0)
                (try rw [Addr.add_zero'] at hx118_0)
                replace p118 := eq_true p118
                replace q118 := eq_true q118
                have p119 : 0 ≤ (1 : Int) := (by omega)
                have q119 : 1 < ((rd_L2 l0 x57_3).length : Int) := of_decide_eq_true (by first | (with_reducible assumption) | assumption)
                obtain ⟨ad119, e119, hx119_0⟩ := Kd.at_int HR117_0.out 1 p119 q119
                obtain rfl : ad118 = ad119 := (by injection e119)
                (try simp only [show (1 : Int).toNat = 1 from rfl, Nat.reduceMul, Nat.reduceEqDiff, Go.Addr.add, ↓reduceIte] at hx119_0)
                have qi119 : (1 < (rd_L2 l0 x57_3).length) = True := eq_true (by omega)
                (try rw [show ((1 : Int)).toNat = 1 from rfl] at hx119_0)
                replace p119 := eq_true p119
                replace q119 := eq_true q119
                go_wp2
                go_roundg k3
                case measure => have := HK1.out; have := HK2.out; have := HK3.out; omega
                case rel => exact ⟨(wrap64 (x57_3 + 1)), (by first | rfl | (simp; done) | (simp [*]; done)), H', ⟨by have := HK1.out; have := HK2.out; have := HK3.out; omega⟩, by repeat (first | exact Drawn0.refl _ | apply Drawn0.step)⟩
               ·rw [if_neg c23] at H
                have c23b0 : ((rd (rd_L2 l0 x57_3) 1) == 0) = false := beq_eq_false_iff_ne.mpr c23
                have c23b1 : ((rd (rd_L2 l0 x57_3) 1) != 0) = true := bne_iff_ne.mpr c23
                obtain rfl := Option.some.inj H
                have p117 : 0 ≤ (x57_3 : Int) := of_decide_eq_true (by first | (with_reducible assumption) | assumption)
                have q117 : x57_3 < (l0.length : Int) := of_decide_eq_true (by first | (with_reducible assumption) | assumption)
                obtain ⟨ad117, A117_0, c117_0, e117, hx117_0, hl117_0, hi117_0⟩ := at_L2 HR0.out x57_3 p117 q117
                cases e117
                have HR117_0 := Aside0.mk hi117_0
                have HC117_0 := Aside0.mk hl117_0
                clear hi117_0 hl117_0
                replace p117 := eq_true p117
                replace q117 := eq_true q117
                have p118 : 0 ≤ (0 : Int) := (by omega)
                have q118 : 0 < ((rd_L2 l0 x57_3).length : Int) := of_decide_eq_true (by first | (with_reducible assumption) | assumption)
                obtain ⟨ad118, e118, hx118_0⟩ := Kd.at_int HR117_0.out 0 p118 q118
                cases e118
                have qi118 : (0 < (rd_L2 l0 x57_3).length) = True := eq_true (by omega)
                (try rw [show ((0 : Int)).toNat = 0 from rfl] at hx118_0)
                (try rw [Addr.add_zero'] at hx118_0)
                replace p118 := eq_true p118
                replace q118 := eq_true q118
                have p119 : 0 ≤ (1 : Int) := (by omega)
                have q119 : 1 < ((rd_L2 l0 x57_3).length : Int) := of_decide_eq_true (by first | (with_reducible assumption) | assumption)
                obtain ⟨ad119, e119, hx119_0⟩ := Kd.at_int HR117_0.out 1 p119 q119
                obtain rfl : ad118 = ad119 := (by injection e119)
                (try simp only [show (1 : Int).toNat = 1 from rfl, Nat.reduceMul, Nat.reduceEqDiff, Go.Addr.add, ↓reduceIte] at hx119_0)
                have qi119 : (1 < (rd_L2 l0 x57_3).length) = True := eq_true (by omega)
                (try rw [show ((1 : Int)).toNat = 1 from rfl] at hx119_0)
                replace p119 := eq_true p119
                replace q119 := eq_true q119
                go_wp2
                go_ret
                exact ⟨by first | rfl | (simp; done) | (simp [*]; done), by repeat (first | exact Drawn0.refl _ | apply Drawn0.step)⟩
              ·rw [if_neg c22] at H
               exact absurd H (by simp)
             ·rw [if_neg c21] at H
              have c21b0 : ((rd (rd_L2 l0 x57_3) 0) == 0) = false := beq_eq_false_iff_ne.mpr c21
              have c21b1 : ((rd (rd_L2 l0 x57_3) 0) != 0) = true := bne_iff_ne.mpr c21
              obtain rfl := Option.some.inj H
              have p117 : 0 ≤ (x57_3 : Int) := of_decide_eq_true (by first | (with_reducible assumption) | assumption)
              have q117 : x57_3 < (l0.length : Int) := of_decide_eq_true (by first | (with_reducible assumption) | assumption)
              obtain ⟨ad117, A117_0, c117_0, e117, hx117_0, hl117_0, hi117_0⟩ := at_L2 HR0.out x57_3 p117 q117
              cases e117
              have HR117_0 := Aside0.mk hi117_0
              have HC117_0 := Aside0.mk hl117_0
              clear hi117_0 hl117_0
              replace p117 := eq_true p117
              replace q117 := eq_true q117
              have p118 : 0 ≤ (0 : Int) := (by omega)
              have q118 : 0 < ((rd_L2 l0 x57_3).length : Int) := of_decide_eq_true (by first | (with_reducible assumption) | assumption)
              obtain ⟨ad118, e118, hx118_0⟩ := Kd.at_int HR117_0.out 0 p118 q118
              cases e118
              have qi118 : (0 < (rd_L2 l0 x57_3).length) = True := eq_true (by omega)
              (try rw [show ((0 : Int)).toNat = 0 from rfl] at hx118_0)
              (try rw [Addr.add_zero'] at hx118_0)
              replace p118 := eq_true p118
              replace q118 := eq_true q118
              go_wp2
              go_ret
              exact ⟨by first | rfl | (simp; done) | (simp [*]; done), by repeat (first | exact Drawn0.refl _ | apply Drawn0.step)⟩
            ·rw [if_neg c20] at H
             exact absurd H (by simp)
           ·rw [if_neg c19] at H
            exact absurd H (by simp)
          ·rw [if_neg c18] at H
           exact absurd H (by simp)
         ·rw [if_neg c17] at H
          have c17b0 : decide (x57_3 < (l0.length : Int)) = false := decide_eq_false c17
          clear c17
          obtain rfl := Option.some.inj H
          go_wp2
          go_ret
          exact ⟨by first | rfl | (simp; done) | (simp [*]; done), by repeat (first | exact Drawn0.refl _ | apply Drawn0.step)⟩

end Go.Proofs.Ytbimmmmjdimebaa.PFnPlan
