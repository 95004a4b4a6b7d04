-- This text was written by a program of this session (gprint.py, on a turned copy of the print tool).
import Derived.Test.YtbimmmmjdimebaaLaw
import Derived.Test.YtbimmmmjdimebaaPFnPlanx0
import Derived.Test.YtbimmmmjdimebaaPFnPlanx5
namespace Go.Proofs.Ytbimmmmjdimebaa.PFnPlan
open Go.RowKit Go.Proofs.YtbimmmmjdimebaaW.PrintWords Go.Proofs.YtbimmmmjdimebaaW.PrintLast Go.Proofs.YtbimmmmjdimebaaW.PrintMore
attribute [local go_sem] max2_int min2_int max_two min_two max_three min_three max_four min_four   -- for this text's walks alone
set_option linter.unusedVariables false
set_option linter.unusedSimpArgs false

/-! ### spec_l3CheckTwo: function 77 -/
mutual
def spec_l3CheckTwo.j0 : Nat → Int → Int → Bool → Option (Int)
 | 0, _, _, _ => none
 | k + 1, x5, x6, x21 => if x21 = true then (some 1) else (if x5 = 2 then (spec_l3CheckTwo.j1 k x5 x6 true) else (spec_l3CheckTwo.j1 k x5 x6 (x6 == 2)))
def spec_l3CheckTwo.j1 : Nat → Int → Int → Bool → Option (Int)
 | 0, _, _, _ => none
 | k + 1, x5, x6, x27 => if x27 = true then (some 2) else (if x5 = 0 then (some x6) else (some x5))
end
def spec_l3CheckTwo.f (k : Nat) (l0 : List Int) (l1 : List Int) : Option (Int) := if (l0.length : Int) = (l1.length : Int) then ((spec_l3Check.f k l0).bind fun t147 => ((spec_l3Check.f k l1).bind fun t148 => (if t147 = 1 then (spec_l3CheckTwo.j0 k t147 t148 true) else (spec_l3CheckTwo.j0 k t147 t148 (t148 == 1))))) else (some 1)
set_option maxHeartbeats 8000000 in
set_option maxRecDepth 100000 in
theorem spec_l3CheckTwo.calls (k : Nat) (A0 : Option Addr) (c0 : Nat) (l0 : List Int) (A1 : Option Addr) (c1 : Nat) (l1 : List Int) (r : Int) (w : World) (hr0 : Kd.C (Kd.int .i64) w A0 l0.length l0) (hc0 : l0.length ≤ c0) (hr1 : Kd.C (Kd.int .i64) w A1 l1.length l1) (hc1 : l1.length ≤ c1) (h : spec_l3CheckTwo.f k l0 l1 = some r) :
  Calls Try.prog 77 #[.slice A0 l0.length c0, .slice A1 l1.length c1] w fun e w' => e = .returned (.int .i64 r) ∧ Drawn0 w w' := by
 have HR0 := Aside0.mk hr0
 have HC0 := Aside0.mk hc0
 clear hr0 hc0
 have HR1 := Aside0.mk hr1
 have HC1 := Aside0.mk hc1
 clear hr1 hc1
 have H : (if (l0.length : Int) = (l1.length : Int) then ((spec_l3Check.f k l0).bind fun t147 => ((spec_l3Check.f k l1).bind fun t148 => (if t147 = 1 then (spec_l3CheckTwo.j0 k t147 t148 true) else (spec_l3CheckTwo.j0 k t147 t148 (t148 == 1))))) else (some 1)) = some r := h
 clear h
 by_cases c3 : (l0.length : Int) = (l1.length : Int)
 ·rw [if_pos c3] at H
  have c3b0 : ((l0.length : Int) == (l1.length : Int)) = true := beq_iff_eq.mpr c3
  have c3b1 : ((l0.length : Int) != (l1.length : Int)) = false := bne_eq_false_iff_eq.mpr c3
  have c3b2 : (l0.length == l1.length) = true := by first | simpa using c3 | (simp at c3 ⊢; omega)
  clear c3
  replace H := Option.bind_eq_some_iff.mp H
  obtain ⟨t147, A40, H⟩ := H
  replace H : ((spec_l3Check.f k l1).bind fun t148 => (if t147 = 1 then (spec_l3CheckTwo.j0 k t147 t148 true) else (spec_l3CheckTwo.j0 k t147 t148 (t148 == 1)))) = some r := H
  have A4 := Aside0.mk A40
  clear A40
  replace H := Option.bind_eq_some_iff.mp H
  obtain ⟨t148, A50, H⟩ := H
  replace H : (if t147 = 1 then (spec_l3CheckTwo.j0 k t147 t148 true) else (spec_l3CheckTwo.j0 k t147 t148 (t148 == 1))) = some r := H
  have A5 := Aside0.mk A50
  clear A50
  have HC6 := Aside0.mk H
  clear H
  go_enter Try.func77, Try.ntmps77
  go_upto_region 5 with (first | ((with_reducible refine gate_callee (f := 64) rfl ?_); refine goesL_ (some 13) rfl rfl Try.func64 (by kernel_rfl) rfl #[.slice A0 l0.length c0] rfl (by (try simp only [List.map_toArray, List.map_cons, List.map_nil]); first | done | rfl | (simp only [List.length_drop, List.length_take]; rfl)) ?_; (with_reducible refine (spec_l3Check.calls k _ _ l0 t147 _ ?side1 ?side2 A4.out).mono ?_); (case side1 => exact Law.cg (HR0.out)); (case side2 => exact HC0.out); rintro e w' ⟨rfl, ⟨nd, rfl⟩⟩; refine ⟨_, rfl, ?_⟩) | ((with_reducible refine gate_callee (f := 64) rfl ?_); refine goesL_ (some 15) rfl rfl Try.func64 (by kernel_rfl) rfl #[.slice A1 l1.length c1] rfl (by (try simp only [List.map_toArray, List.map_cons, List.map_nil]); first | done | rfl | (simp only [List.length_drop, List.length_take]; rfl)) ?_; (with_reducible refine (spec_l3Check.calls k _ _ l1 t148 _ ?side1 ?side2 A5.out).mono ?_); (case side1 => exact Law.cg (HR1.out)); (case side2 => exact HC1.out); rintro e w' ⟨rfl, ⟨nd, rfl⟩⟩; refine ⟨_, rfl, ?_⟩))
  (try simp only [Act.put, List.setIfInBounds_toArray, List.set_cons_zero, List.set_cons_succ])
  go_cut [21] (fun v21 wc => ∃ (kq : Nat) (x21_5 : Bool), v21 = .bool x21_5 ∧ Aside0 (spec_l3CheckTwo.j0 kq t147 t148 x21_5 = some r) ∧ Aside0 (kq ≤ k) ∧ Drawn0 w wc)
  case first =>
   have H := HC6.out
   clear HC6
   by_cases c7 : t147 = 1
   ·rw [if_pos c7] at H
    have c7b0 : (t147 == 1) = true := beq_iff_eq.mpr c7
    have c7b1 : (t147 != 1) = false := bne_eq_false_iff_eq.mpr c7
    clear c7
    (first | rw [c7b0] | (simp only [i64_w, i32_w]; rw [c7b0]) | skip)
    have H' := Aside0.mk H
    clear H
    go_wp2
    go_meet
    case rel => exact ⟨_, (true), (by first | rfl | (simp; done) | (simp [*]; done)), H', ⟨by first | omega | exact Nat.le_refl _⟩, by repeat (first | exact Drawn0.refl _ | apply Drawn0.step)⟩
   ·rw [if_neg c7] at H
    have c7b0 : (t147 == 1) = false := beq_eq_false_iff_ne.mpr c7
    have c7b1 : (t147 != 1) = true := bne_iff_ne.mpr c7
    (first | rw [c7b0] | (simp only [i64_w, i32_w]; rw [c7b0]) | skip)
    have H' := Aside0.mk H
    clear H
    go_wp2
    go_meet
    case rel => exact ⟨_, ((t148 == 1)), (by first | rfl | (simp; done) | (simp [*]; done)), H', ⟨by first | omega | exact Nat.le_refl _⟩, by repeat (first | exact Drawn0.refl _ | apply Drawn0.step)⟩
  case rest =>
   clear HC6
   try clear c1
   try clear p2
   try clear c3
   try clear c3b0
   try clear c3b1
   try clear c3b2
   try clear c6
   try clear c7
   try clear c7b0
   try clear c7b1
   obtain ⟨kq, x21_5, rfl, HA, HJ5, ⟨mc5, rfl⟩⟩ := hcut
   cases kq with
   | zero => exact absurd HA.out (by simp [spec_l3CheckTwo.j0])
   | succ kj5 =>
    have H := HA.out
    clear HA
    simp only [spec_l3CheckTwo.j0] at H
    by_cases c8 : x21_5 = true
    ·subst c8
     have H1 : (some 1) = some r := by rw [if_pos rfl] at H; exact H
     clear H
     have H := H1
     clear H1
     obtain rfl := Option.some.inj H
     go_wp2
     go_ret
     exact ⟨by first | rfl | (simp; done) | (simp [*]; done), by repeat (first | exact Drawn0.refl _ | apply Drawn0.step)⟩
    ·replace c8 := Bool.eq_false_iff.mpr c8
     subst c8
     have H1 : (if t147 = 2 then (spec_l3CheckTwo.j1 kj5 t147 t148 true) else (spec_l3CheckTwo.j1 kj5 t147 t148 (t148 == 2))) = some r := by rw [if_neg (show ¬ (false = true) by decide)] at H; exact H
     clear H
     have H := H1
     clear H1
     have HC9 := Aside0.mk H
     clear H
     go_upto_region 7 with (fail)
     go_cut [27] (fun v27 wc => ∃ (kq : Nat) (x27_8 : Bool), v27 = .bool x27_8 ∧ Aside0 (spec_l3CheckTwo.j1 kq t147 t148 x27_8 = some r) ∧ Aside0 (kq ≤ kj5) ∧ Drawn0 w wc)
     case first =>
      have H := HC9.out
      clear HC9
      by_cases c10 : t147 = 2
      ·rw [if_pos c10] at H
       have c10b0 : (t147 == 2) = true := beq_iff_eq.mpr c10
       have c10b1 : (t147 != 2) = false := bne_eq_false_iff_eq.mpr c10
       clear c10
       (first | rw [c10b0] | (simp only [i64_w, i32_w]; rw [c10b0]) | skip)
       have H' := Aside0.mk H
       clear H
       go_wp2
       go_meet
       case rel => exact ⟨_, (true), (by first | rfl | (simp; done) | (simp [*]; done)), H', ⟨by have := HJ5.out; first | omega | exact Nat.le_refl _⟩, by repeat (first | exact Drawn0.refl _ | apply Drawn0.step)⟩
      ·rw [if_neg c10] at H
       have c10b0 : (t147 == 2) = false := beq_eq_false_iff_ne.mpr c10
       have c10b1 : (t147 != 2) = true := bne_iff_ne.mpr c10
       (first | rw [c10b0] | (simp only [i64_w, i32_w]; rw [c10b0]) | skip)
       have H' := Aside0.mk H
       clear H
       go_wp2
       go_meet
       case rel => exact ⟨_, ((t148 == 2)), (by first | rfl | (simp; done) | (simp [*]; done)), H', ⟨by have := HJ5.out; first | omega | exact Nat.le_refl _⟩, by repeat (first | exact Drawn0.refl _ | apply Drawn0.step)⟩
     case rest =>
      clear HC9
      try clear c1
      try clear p2
      try clear c3
      try clear c3b0
      try clear c3b1
      try clear c3b2
      try clear c5
      try clear c6
      try clear c7
      try clear c7b0
      try clear c7b1
      try clear c8
      try clear c10
      try clear c10b0
      try clear c10b1
      try clear p2
      obtain ⟨kq, x27_8, rfl, HA, HJ8, ⟨mc8, rfl⟩⟩ := hcut
      cases kq with
      | zero => exact absurd HA.out (by simp [spec_l3CheckTwo.j1])
      | succ kj8 =>
       have H := HA.out
       clear HA
       simp only [spec_l3CheckTwo.j1] at H
       by_cases c11 : x27_8 = true
       ·subst c11
        have H1 : (some 2) = some r := by rw [if_pos rfl] at H; exact H
        clear H
        have H := H1
        clear H1
        obtain rfl := Option.some.inj H
        go_wp2
        go_ret
        exact ⟨by first | rfl | (simp; done) | (simp [*]; done), by repeat (first | exact Drawn0.refl _ | apply Drawn0.step)⟩
       ·replace c11 := Bool.eq_false_iff.mpr c11
        subst c11
        have H1 : (if t147 = 0 then (some t148) else (some t147)) = some r := by rw [if_neg (show ¬ (false = true) by decide)] at H; exact H
        clear H
        have H := H1
        clear H1
        by_cases c12 : t147 = 0
        ·rw [if_pos c12] at H
         have c12b0 : (t147 == 0) = true := beq_iff_eq.mpr c12
         have c12b1 : (t147 != 0) = false := bne_eq_false_iff_eq.mpr c12
         clear c12
         obtain rfl := Option.some.inj H
         go_wp2
         go_ret
         exact ⟨by first | rfl | (simp; done) | (simp [*]; done), by repeat (first | exact Drawn0.refl _ | apply Drawn0.step)⟩
        ·rw [if_neg c12] at H
         have c12b0 : (t147 == 0) = false := beq_eq_false_iff_ne.mpr c12
         have c12b1 : (t147 != 0) = true := bne_iff_ne.mpr c12
         obtain rfl := Option.some.inj H
         go_wp2
         go_ret
         exact ⟨by first | rfl | (simp; done) | (simp [*]; done), by repeat (first | exact Drawn0.refl _ | apply Drawn0.step)⟩
 ·rw [if_neg c3] at H
  have c3b0 : ((l0.length : Int) == (l1.length : Int)) = false := beq_eq_false_iff_ne.mpr c3
  have c3b1 : ((l0.length : Int) != (l1.length : Int)) = true := bne_iff_ne.mpr c3
  have c3b2 : (l0.length == l1.length) = false := by first | simpa using c3 | (simp at c3 ⊢; omega)
  obtain rfl := Option.some.inj H
  go_enter Try.func77, Try.ntmps77
  go_wp2
  go_ret
  exact ⟨by first | rfl | (simp; done) | (simp [*]; done), by repeat (first | exact Drawn0.refl _ | apply Drawn0.step)⟩

/-! ### spec_l3Runs: function 65 -/
mutual
def spec_l3Runs.l0 : Nat → List Int → List (S89) → Int → Option ((List (S89)))
 | 0, _, _, _ => none
 | k + 1, x0, x3, x4 => if x4 < (x0.length : Int) then (if 0 ≤ x4 then (if (rd x0 x4) = 0 then (spec_l3Runs.j1 k x0 x3 x4 true) else (if x4 > 0 then (if 0 ≤ (wrap64 (x4 - 1)) then (if (wrap64 (x4 - 1)) < (x0.length : Int) then (spec_l3Runs.j1 k x0 x3 x4 ((rd x0 (wrap64 (x4 - 1))) == (rd x0 x4))) else (none)) else (none)) else (spec_l3Runs.j1 k x0 x3 x4 false))) else (none)) else (some x3)
def spec_l3Runs.j1 : Nat → List Int → List (S89) → Int → Bool → Option ((List (S89)))
 | 0, _, _, _, _ => none
 | k + 1, x0, x3, x4, x34 => if x34 = true then (spec_l3Runs.l0 k x0 x3 (wrap64 (x4 + 1))) else (spec_l3Runs.l1 k x0 x3 x4 0 x4)
def spec_l3Runs.l1 : Nat → List Int → List (S89) → Int → Int → Int → Option ((List (S89)))
 | 0, _, _, _, _, _ => none
 | k + 1, x0, x3, x4, x5, x6 => if x6 < (x0.length : Int) then (if 0 ≤ x6 then (if 0 ≤ x4 then (if x4 < (x0.length : Int) then (if (rd x0 x6) = (rd x0 x4) then (spec_l3Runs.l1 k x0 x3 x4 (wrap64 (x5 + 1)) (wrap64 (x6 + 1))) else (if x3.length < 5864062014805 then (spec_l3Runs.l0 k x0 (x3 ++ [(⟨x4, x5, rd x0 x4⟩ : S89)]) (wrap64 (x4 + 1))) else (none))) else (none)) else (none)) else (none)) else (if 0 ≤ x4 then (if x4 < (x0.length : Int) then (if x3.length < 5864062014805 then (spec_l3Runs.l0 k x0 (x3 ++ [(⟨x4, x5, rd x0 x4⟩ : S89)]) (wrap64 (x4 + 1))) else (none)) else (none)) else (none))
end
def spec_l3Runs.f (k : Nat) (l0 : List Int) : Option ((List (S89))) := spec_l3Runs.l0 k l0 (([] : List (S89))) 0
set_option maxHeartbeats 8000000 in
set_option maxRecDepth 100000 in
theorem spec_l3Runs.calls (k : Nat) (A0 : Option Addr) (c0 : Nat) (l0 : List Int) (r : List (S89)) (w : World) (hr0 : Kd.C (Kd.int .i64) w A0 l0.length l0) (hc0 : l0.length ≤ c0) (h : spec_l3Runs.f k l0 = some r) :
  Calls Try.prog 65 #[.slice A0 l0.length c0] w fun e w' => ∃ v0_ : Value, e = .returned (v0_) ∧ Kd.R k89 89 w' w.heap.size (fun _ => True) v0_ r ∧ Below w.heap.size w w' := by
 have hu89 := Try.underlying89
 have HR0 := Aside0.mk hr0
 have HC0 := Aside0.mk hc0
 clear hr0 hc0
 have HB := Aside0.mk (Below.refl w.heap.size w)
 have H : (spec_l3Runs.l0 k l0 (([] : List (S89))) 0) = some r := h
 clear h
 obtain ⟨y149, hy149⟩ : ∃ y_ : List (S89), y_ = (([] : List (S89))) := ⟨_, rfl⟩
 replace H : (spec_l3Runs.l0 k l0 y149 0) = some r := by first | (rw [hy149]; with_reducible exact H) | (have H2_ := (Option.bind_some _ _).symm.trans H; rw [hy149]; with_reducible exact H2_) | (have H2_ := (Option.bind_some _ _).symm.trans H; with_reducible exact H2_) | with_reducible exact H | (rw [hy149]; exact H) | exact H
 have Ny149 := Aside0.mk hy149
 clear hy149
 have H' := Aside0.mk H
 clear H
 go_enter Try.func65, Try.ntmps65
 go_wp2_with (first | ((with_reducible refine gate_dst (N := 7) rfl ?_); refine Kd.R_lit k89 _ 89 ?hg (N := 7) ?hd (xs := ([] : List (S89))) (inner := []) (ok := fun _ => True) (okp := fun _ => True) ?hr ?hp (fun _ hk => hk) trivial (Below.refl _ _) (Nat.le_refl _) (by simp) ?_; (case hd => rfl); (case hg => rfl); (case hr => first | (go_simp; done) | (go_simp; rfl)); (case hp => exact (Reps.none _ _)); intro v150 w2 ho3 hb hg_ hnew_; clear hg_ hnew_; (first | rw [← Ny149.out] at ho3 | (simp only [Int.reduceToNat] at ho3; rw [← Ny149.out] at ho3)); have HO151 := Law.rL ho3 HB; replace HB := Law.bS HB hb; clear hb ho3))
 repeat (go_quiet (first | ((with_reducible refine gate_dst (N := 7) rfl ?_); refine Kd.R_lit k89 _ 89 ?hg (N := 7) ?hd (xs := ([] : List (S89))) (inner := []) (ok := fun _ => True) (okp := fun _ => True) ?hr ?hp (fun _ hk => hk) trivial (Below.refl _ _) (Nat.le_refl _) (by simp) ?_; (case hd => rfl); (case hg => rfl); (case hr => first | (go_simp; done) | (go_simp; rfl)); (case hp => exact (Reps.none _ _)); intro v150 w2 ho3 hb hg_ hnew_; clear hg_ hnew_; (first | rw [← Ny149.out] at ho3 | (simp only [Int.reduceToNat] at ho3; rw [← Ny149.out] at ho3)); have HO151 := Law.rL ho3 HB; replace HB := Law.bS HB hb; clear hb ho3)); try go_wp2_with (first | ((with_reducible refine gate_dst (N := 7) rfl ?_); refine Kd.R_lit k89 _ 89 ?hg (N := 7) ?hd (xs := ([] : List (S89))) (inner := []) (ok := fun _ => True) (okp := fun _ => True) ?hr ?hp (fun _ hk => hk) trivial (Below.refl _ _) (Nat.le_refl _) (by simp) ?_; (case hd => rfl); (case hg => rfl); (case hr => first | (go_simp; done) | (go_simp; rfl)); (case hp => exact (Reps.none _ _)); intro v150 w2 ho3 hb hg_ hnew_; clear hg_ hnew_; (first | rw [← Ny149.out] at ho3 | (simp only [Int.reduceToNat] at ho3; rw [← Ny149.out] at ho3)); have HO151 := Law.rL ho3 HB; replace HB := Law.bS HB hb; clear hb ho3)))
 go_loopg [3, 4] k (fun kq v3 v4 w' => ∃ (x3_1 : List (S89)) (x4_1 : Int), v4 = .int .i64 x4_1 ∧ Aside0 (spec_l3Runs.l0 kq l0 x3_1 x4_1 = some r) ∧ Aside0 (kq ≤ k) ∧ Aside0 (Kd.R k89 89 w' w.heap.size (fun _ => True) v3 x3_1) ∧ Aside0 (Below w.heap.size w w'))
 case atStart => exact ⟨(y149), (0), (by first | rfl | (simp; done) | (simp [*]; done)), H', ⟨Nat.le_refl _⟩, ⟨by (with_reducible repeat (first | apply Kd.R_alloc | apply Kd.R_drewN | apply Kd.R_drew)); exact HO151.out⟩, ⟨by repeat (first | (with_reducible first | exact HB.out | apply below_alloc | apply pw_below_drewN | apply below_drew1) | exact HB.out)⟩⟩
 case round =>
  clear H'
  try clear p2
  obtain ⟨x3_1, x4_1, rfl, HA, HK1, HO_3, HB⟩ := hrel
  cases gk with
  | zero => exact absurd HA.out (by simp [spec_l3Runs.l0])
  | succ k1 =>
   have H := HA.out
   clear HA
   simp only [spec_l3Runs.l0] at H
   by_cases c4 : x4_1 < (l0.length : Int)
   ·rw [if_pos c4] at H
    have c4b0 : decide (x4_1 < (l0.length : Int)) = true := decide_eq_true c4
    clear c4
    have HC5 := Aside0.mk H
    clear H
    go_upto_region 5 with (fail)
    repeat (go_quiet (fail); go_upto_region 5 with (fail))
    go_cut [34] (fun v34 wc => ∃ (kq : Nat) (x34_4 : Bool), v34 = .bool x34_4 ∧ Aside0 (spec_l3Runs.j1 kq l0 x3_1 x4_1 x34_4 = some r) ∧ Aside0 (kq ≤ k1) ∧ Aside0 (Kd.R k89 89 wc w.heap.size (fun _ => True) u3 x3_1) ∧ Aside0 (Below w.heap.size w wc))
    case first =>
     have H := HC5.out
     clear HC5
     by_cases c6 : 0 ≤ x4_1
     ·rw [if_pos c6] at H
      have c6b0 : decide (0 ≤ x4_1) = true := decide_eq_true c6
      clear c6
      (first | rw [c6b0] | (simp only [i64_w, i32_w]; rw [c6b0]) | skip)
      by_cases c7 : (rd l0 x4_1) = 0
      ·rw [if_pos c7] at H
       have c7b0 : ((rd l0 x4_1) == 0) = true := beq_iff_eq.mpr c7
       have c7b1 : ((rd l0 x4_1) != 0) = false := bne_eq_false_iff_eq.mpr c7
       clear c7
       have H' := Aside0.mk H
       clear H
       have p152 : 0 ≤ (x4_1 : Int) := of_decide_eq_true (by first | (with_reducible assumption) | assumption)
       have q152 : x4_1 < (l0.length : Int) := of_decide_eq_true (by first | (with_reducible assumption) | assumption)
       obtain ⟨ad152, e152, hx152_0⟩ := Kd.at_int HR0.out x4_1 p152 q152
       cases e152
       replace hx152_0 := (HB.out.cell (World.block_lt_of_cell? w _ hx152_0)).trans hx152_0
       replace p152 := eq_true p152
       replace q152 := eq_true q152
       go_wp2
       repeat (go_quiet (fail); try go_wp2)
       go_meet
       case rel => exact ⟨_, (true), (by first | rfl | (simp; done) | (simp [*]; done)), H', ⟨by have := HK1.out; first | omega | exact Nat.le_refl _⟩, ⟨by (with_reducible repeat (first | apply Kd.R_alloc | apply Kd.R_drewN | apply Kd.R_drew)); exact HO_3.out⟩, ⟨by repeat (first | (with_reducible first | exact HB.out | apply below_alloc | apply pw_below_drewN | apply below_drew1) | exact HB.out)⟩⟩
      ·rw [if_neg c7] at H
       have c7b0 : ((rd l0 x4_1) == 0) = false := beq_eq_false_iff_ne.mpr c7
       have c7b1 : ((rd l0 x4_1) != 0) = true := bne_iff_ne.mpr c7
       by_cases c8 : x4_1 > 0
       ·rw [if_pos c8] at H
        have c8b0 : decide (0 < x4_1) = true := decide_eq_true c8
        clear c8
        obtain ⟨ji9, hji9⟩ : ∃ j_ : Int, (wrap64 (x4_1 - 1)) = j_ := ⟨_, rfl⟩
        replace H : (if 0 ≤ (ji9) then (if (ji9) < (l0.length : Int) then (spec_l3Runs.j1 k1 l0 x3_1 x4_1 ((rd l0 (ji9)) == (rd l0 x4_1))) else (none)) else (none)) = some r := by first | (rw [hji9] at H; exact H) | (simp only [hji9] at H ⊢; exact H)
        have hji9w : (IntKind.i64.wrap (x4_1 - 1)) = ji9 := (i64_w _).trans hji9
        by_cases c10 : 0 ≤ (ji9)
        ·rw [if_pos c10] at H
         have c10b0 : decide (0 ≤ (ji9)) = true := decide_eq_true c10
         clear c10
         by_cases c11 : (ji9) < (l0.length : Int)
         ·rw [if_pos c11] at H
          have c11b0 : decide ((ji9) < (l0.length : Int)) = true := decide_eq_true c11
          clear c11
          have H' := Aside0.mk H
          clear H
          have p152 : 0 ≤ (x4_1 : Int) := of_decide_eq_true (by first | (with_reducible assumption) | assumption)
          have q152 : x4_1 < (l0.length : Int) := of_decide_eq_true (by first | (with_reducible assumption) | assumption)
          obtain ⟨ad152, e152, hx152_0⟩ := Kd.at_int HR0.out x4_1 p152 q152
          cases e152
          replace hx152_0 := (HB.out.cell (World.block_lt_of_cell? w _ hx152_0)).trans hx152_0
          replace p152 := eq_true p152
          replace q152 := eq_true q152
          have p153 : 0 ≤ ((ji9) : Int) := of_decide_eq_true (by first | (with_reducible assumption) | assumption)
          have q153 : (ji9) < (l0.length : Int) := of_decide_eq_true (by first | (with_reducible assumption) | assumption)
          obtain ⟨ad153, e153, hx153_0⟩ := Kd.at_int HR0.out (ji9) p153 q153
          obtain rfl : ad152 = ad153 := (by injection e153)
          replace hx153_0 := (HB.out.cell (World.block_lt_of_cell? w _ hx153_0)).trans hx153_0
          replace p153 := eq_true p153
          replace q153 := eq_true q153
          have p154 : 0 ≤ (x4_1 : Int) := of_decide_eq_true (by first | (with_reducible assumption) | assumption)
          have q154 : x4_1 < (l0.length : Int) := of_decide_eq_true (by first | (with_reducible assumption) | assumption)
          obtain ⟨ad154, e154, hx154_0⟩ := Kd.at_int HR0.out x4_1 p154 q154
          obtain rfl : ad152 = ad154 := (by injection e154)
          replace hx154_0 := (HB.out.cell (World.block_lt_of_cell? w _ hx154_0)).trans hx154_0
          replace p154 := eq_true p154
          replace q154 := eq_true q154
          go_wp2
          repeat (go_quiet (fail); try go_wp2)
          go_meet
          case rel => exact ⟨_, (((rd l0 (ji9)) == (rd l0 x4_1))), (by first | rfl | (simp; done) | (simp only [← hji9] <;> (first | rfl | simp)) | (simp [*]; done)), H', ⟨by have := HK1.out; first | omega | exact Nat.le_refl _⟩, ⟨by (with_reducible repeat (first | apply Kd.R_alloc | apply Kd.R_drewN | apply Kd.R_drew)); exact HO_3.out⟩, ⟨by repeat (first | (with_reducible first | exact HB.out | apply below_alloc | apply pw_below_drewN | apply below_drew1) | exact HB.out)⟩⟩
         ·rw [if_neg c11] at H
          exact absurd H (by simp)
        ·rw [if_neg c10] at H
         exact absurd H (by simp)
       ·rw [if_neg c8] at H
        have c8b0 : decide (0 < x4_1) = false := decide_eq_false c8
        clear c8
        have H' := Aside0.mk H
        clear H
        have p152 : 0 ≤ (x4_1 : Int) := of_decide_eq_true (by first | (with_reducible assumption) | assumption)
        have q152 : x4_1 < (l0.length : Int) := of_decide_eq_true (by first | (with_reducible assumption) | assumption)
        obtain ⟨ad152, e152, hx152_0⟩ := Kd.at_int HR0.out x4_1 p152 q152
        cases e152
        replace hx152_0 := (HB.out.cell (World.block_lt_of_cell? w _ hx152_0)).trans hx152_0
        replace p152 := eq_true p152
        replace q152 := eq_true q152
        go_wp2
        repeat (go_quiet (fail); try go_wp2)
        go_meet
        case rel => exact ⟨_, (false), (by first | rfl | (simp; done) | (simp [*]; done)), H', ⟨by have := HK1.out; first | omega | exact Nat.le_refl _⟩, ⟨by (with_reducible repeat (first | apply Kd.R_alloc | apply Kd.R_drewN | apply Kd.R_drew)); exact HO_3.out⟩, ⟨by repeat (first | (with_reducible first | exact HB.out | apply below_alloc | apply pw_below_drewN | apply below_drew1) | exact HB.out)⟩⟩
     ·rw [if_neg c6] at H
      exact absurd H (by simp)
    case rest =>
     clear HC5
     try clear c1
     try clear p1
     try clear q1
     try clear hx1
     try clear p2
     try clear c4
     try clear c4b0
     try clear c6
     try clear c6b0
     try clear p6
     try clear c7
     try clear c7b0
     try clear c7b1
     try clear c8
     try clear c8b0
     try clear c10
     try clear c10b0
     try clear c11
     try clear c11b0
     try clear hx152_0
     try clear hx153_0
     try clear hx154_0
     try clear p152
     try clear p153
     try clear p154
     try clear p2
     try clear q152
     try clear q153
     try clear q154
     obtain ⟨kq, x34_4, rfl, HA, HJ4, HO_3, HB⟩ := hcut
     cases kq with
     | zero => exact absurd HA.out (by simp [spec_l3Runs.j1])
     | succ kj4 =>
      have H := HA.out
      clear HA
      simp only [spec_l3Runs.j1] at H
      by_cases c12 : x34_4 = true
      ·subst c12
       have H1 : (spec_l3Runs.l0 kj4 l0 x3_1 (wrap64 (x4_1 + 1))) = some r := by rw [if_pos rfl] at H; exact H
       clear H
       have H := H1
       clear H1
       have H' := Aside0.mk H
       clear H
       go_wp2
       repeat (go_quiet (fail); try go_wp2)
       go_roundg kj4
       case measure => have := HK1.out; have := HJ4.out; omega
       case rel => exact ⟨(x3_1), (wrap64 (x4_1 + 1)), (by first | rfl | (simp; done) | (simp [*]; done)), H', ⟨by have := HK1.out; have := HJ4.out; omega⟩, ⟨by (with_reducible repeat (first | apply Kd.R_alloc | apply Kd.R_drewN | apply Kd.R_drew)); exact HO_3.out⟩, ⟨by repeat (first | (with_reducible first | exact HB.out | apply below_alloc | apply pw_below_drewN | apply below_drew1) | exact HB.out)⟩⟩
      ·replace c12 := Bool.eq_false_iff.mpr c12
       subst c12
       have H1 : (spec_l3Runs.l1 kj4 l0 x3_1 x4_1 0 x4_1) = some r := by rw [if_neg (show ¬ (false = true) by decide)] at H; exact H
       clear H
       have H := H1
       clear H1
       have H' := Aside0.mk H
       clear H
       go_wp2
       repeat (go_quiet (fail); try go_wp2)
       go_loopg [5, 6] kj4 (fun kq v5 v6 w' => ∃ (x5_3 : Int) (x6_3 : Int), v5 = .int .i64 x5_3 ∧ v6 = .int .i64 x6_3 ∧ Aside0 (spec_l3Runs.l1 kq l0 x3_1 x4_1 x5_3 x6_3 = some r) ∧ Aside0 (kq ≤ kj4) ∧ Aside0 (Kd.R k89 89 w' w.heap.size (fun _ => True) u3 x3_1) ∧ Aside0 (Below w.heap.size w w'))
       case atStart => exact ⟨(0), (x4_1), (by first | rfl | (simp; done) | (simp [*]; done)), (by first | rfl | (simp; done) | (simp [*]; done)), H', ⟨Nat.le_refl _⟩, ⟨by (with_reducible repeat (first | apply Kd.R_alloc | apply Kd.R_drewN | apply Kd.R_drew)); exact HO_3.out⟩, ⟨by repeat (first | (with_reducible first | exact HB.out | apply below_alloc | apply pw_below_drewN | apply below_drew1) | exact HB.out)⟩⟩
       case round =>
        clear H'
        try clear c1
        try clear p1
        try clear q1
        try clear hx1
        try clear p2
        try clear c4
        try clear c4b0
        try clear c6
        try clear c6b0
        try clear p6
        try clear c7
        try clear c7b0
        try clear c7b1
        try clear c8
        try clear c8b0
        try clear c10
        try clear c10b0
        try clear c11
        try clear c11b0
        try clear c12
        try clear hx152_0
        try clear hx153_0
        try clear hx154_0
        try clear p1
        try clear p152
        try clear p153
        try clear p154
        try clear p2
        try clear p6
        try clear q1
        try clear q152
        try clear q153
        try clear q154
        obtain ⟨x5_3, x6_3, rfl, rfl, HA, HK3, HO_3, HB⟩ := hrel
        cases gk with
        | zero => exact absurd HA.out (by simp [spec_l3Runs.l1])
        | succ k3 =>
         have H := HA.out
         clear HA
         simp only [spec_l3Runs.l1] at H
         by_cases c13 : x6_3 < (l0.length : Int)
         ·rw [if_pos c13] at H
          have c13b0 : decide (x6_3 < (l0.length : Int)) = true := decide_eq_true c13
          clear c13
          by_cases c14 : 0 ≤ x6_3
          ·rw [if_pos c14] at H
           have c14b0 : decide (0 ≤ x6_3) = true := decide_eq_true c14
           clear c14
           by_cases c15 : 0 ≤ x4_1
           ·rw [if_pos c15] at H
            have c15b0 : decide (0 ≤ x4_1) = true := decide_eq_true c15
            clear c15
            by_cases c16 : x4_1 < (l0.length : Int)
            ·rw [if_pos c16] at H
             have c16b0 : decide (x4_1 < (l0.length : Int)) = true := decide_eq_true c16
             clear c16
             by_cases c17 : (rd l0 x6_3) = (rd l0 x4_1)
             ·rw [if_pos c17] at H
              have c17b0 : ((rd l0 x6_3) == (rd l0 x4_1)) = true := beq_iff_eq.mpr c17
              have c17b1 : ((rd l0 x6_3) != (rd l0 x4_1)) = false := bne_eq_false_iff_eq.mpr c17
              clear c17
              have H' := Aside0.mk H
              clear H
              have p155 : 0 ≤ (x6_3 : Int) := of_decide_eq_true (by first | (with_reducible assumption) | assumption)
              have q155 : x6_3 < (l0.length : Int) := of_decide_eq_true (by first | (with_reducible assumption) | assumption)
              obtain ⟨ad155, e155, hx155_0⟩ := Kd.at_int HR0.out x6_3 p155 q155
              cases e155
              replace hx155_0 := (HB.out.cell (World.block_lt_of_cell? w _ hx155_0)).trans hx155_0
              replace p155 := eq_true p155
              replace q155 := eq_true q155
              have p156 : 0 ≤ (x4_1 : Int) := of_decide_eq_true (by first | (with_reducible assumption) | assumption)
              have q156 : x4_1 < (l0.length : Int) := of_decide_eq_true (by first | (with_reducible assumption) | assumption)
              obtain ⟨ad156, e156, hx156_0⟩ := Kd.at_int HR0.out x4_1 p156 q156
              obtain rfl : ad155 = ad156 := (by injection e156)
              replace hx156_0 := (HB.out.cell (World.block_lt_of_cell? w _ hx156_0)).trans hx156_0
              replace p156 := eq_true p156
              replace q156 := eq_true q156
              go_wp2
              repeat (go_quiet (fail); try go_wp2)
              go_roundg k3
              case measure => have := HK1.out; have := HJ4.out; have := HK3.out; omega
              case rel => exact ⟨(wrap64 (x5_3 + 1)), (wrap64 (x6_3 + 1)), (by first | rfl | (simp; done) | (simp [*]; done)), (by first | rfl | (simp; done) | (simp [*]; done)), H', ⟨by have := HK1.out; have := HJ4.out; have := HK3.out; omega⟩, ⟨by (with_reducible repeat (first | apply Kd.R_alloc | apply Kd.R_drewN | apply Kd.R_drew)); exact HO_3.out⟩, ⟨by repeat (first | (with_reducible first | exact HB.out | apply below_alloc | apply pw_below_drewN | apply below_drew1) | exact HB.out)⟩⟩
             ·rw [if_neg c17] at H
              have c17b0 : ((rd l0 x6_3) == (rd l0 x4_1)) = false := beq_eq_false_iff_ne.mpr c17
              have c17b1 : ((rd l0 x6_3) != (rd l0 x4_1)) = true := bne_iff_ne.mpr c17
              by_cases c18 : x3_1.length < 5864062014805
              ·rw [if_pos c18] at H
               have LMc18 := Aside0.mk c18
               clear c18
               obtain ⟨y158, hy158⟩ : ∃ y_ : List (S89), y_ = (x3_1 ++ [(⟨x4_1, x5_3, rd l0 x4_1⟩ : S89)]) := ⟨_, rfl⟩
               replace H : (spec_l3Runs.l0 k3 l0 y158 (wrap64 (x4_1 + 1))) = some r := by first | (rw [hy158]; with_reducible exact H) | (have H2_ := (Option.bind_some _ _).symm.trans H; rw [hy158]; with_reducible exact H2_) | (have H2_ := (Option.bind_some _ _).symm.trans H; with_reducible exact H2_) | with_reducible exact H | (rw [hy158]; exact H) | exact H
               have Ny158 := Aside0.mk hy158
               clear hy158
               have H' := Aside0.mk H
               clear H
               have p155 : 0 ≤ (x6_3 : Int) := of_decide_eq_true (by first | (with_reducible assumption) | assumption)
               have q155 : x6_3 < (l0.length : Int) := of_decide_eq_true (by first | (with_reducible assumption) | assumption)
               obtain ⟨ad155, e155, hx155_0⟩ := Kd.at_int HR0.out x6_3 p155 q155
               cases e155
               replace hx155_0 := (HB.out.cell (World.block_lt_of_cell? w _ hx155_0)).trans hx155_0
               replace p155 := eq_true p155
               replace q155 := eq_true q155
               have p156 : 0 ≤ (x4_1 : Int) := of_decide_eq_true (by first | (with_reducible assumption) | assumption)
               have q156 : x4_1 < (l0.length : Int) := of_decide_eq_true (by first | (with_reducible assumption) | assumption)
               obtain ⟨ad156, e156, hx156_0⟩ := Kd.at_int HR0.out x4_1 p156 q156
               obtain rfl : ad155 = ad156 := (by injection e156)
               replace hx156_0 := (HB.out.cell (World.block_lt_of_cell? w _ hx156_0)).trans hx156_0
               replace p156 := eq_true p156
               replace q156 := eq_true q156
               have p157 : 0 ≤ (x4_1 : Int) := of_decide_eq_true (by first | (with_reducible assumption) | assumption)
               have q157 : x4_1 < (l0.length : Int) := of_decide_eq_true (by first | (with_reducible assumption) | assumption)
               obtain ⟨ad157, e157, hx157_0⟩ := Kd.at_int HR0.out x4_1 p157 q157
               obtain rfl : ad155 = ad157 := (by injection e157)
               replace hx157_0 := (HB.out.cell (World.block_lt_of_cell? w _ hx157_0)).trans hx157_0
               replace p157 := eq_true p157
               replace q157 := eq_true q157
               go_wp2_with (first | ((with_reducible refine gate_builtin (b := .append) (xs := #[.tmp 55, .tmp 63]) rfl ?_); at_builtin; refine Kd.R_append k89 (w0 := w) w.heap.size rfl (.tmp 55) (.tmp 63) 27 89 (.agg #[(.int .i64 0), (.int .i64 0), (.int .i64 0)]) 24 rfl Try.underlying27 info89 rfl (by decide) (by omega) u3 x3_1 (⟨x4_1, x5_3, rd l0 x4_1⟩ : S89) [.int .i64 x4_1, .int .i64 x5_3, .int .i64 (rd l0 x4_1)] (fun _ => True) (fun _ => False) rfl rfl ?aP (fun _ hk => hk.elim) ?aF ?aO ?aB ?aS ?aL ?_; (case aP => exact k89_mkM _ _ _ (⟨x4_1, x5_3, rd l0 x4_1⟩ : S89)); (case aB => exact (Law.bg HB.out)); (case aF => exact (fun _ _ => trivial)); (case aO => exact (Law.rg HO_3.out)); (case aS => exact (below_size (Law.bg HB.out))); (case aL => have := LMc18.out; omega); intro v159 w19 ho hb hg hat; rw [← Ny158.out] at ho; have HO160 := Aside0.mk (ho); replace HB := Aside0.mk (hb); clear HO_3; clear ho hb hg hat))
               repeat (go_quiet (first | ((with_reducible refine gate_builtin (b := .append) (xs := #[.tmp 55, .tmp 63]) rfl ?_); at_builtin; refine Kd.R_append k89 (w0 := w) w.heap.size rfl (.tmp 55) (.tmp 63) 27 89 (.agg #[(.int .i64 0), (.int .i64 0), (.int .i64 0)]) 24 rfl Try.underlying27 info89 rfl (by decide) (by omega) u3 x3_1 (⟨x4_1, x5_3, rd l0 x4_1⟩ : S89) [.int .i64 x4_1, .int .i64 x5_3, .int .i64 (rd l0 x4_1)] (fun _ => True) (fun _ => False) rfl rfl ?aP (fun _ hk => hk.elim) ?aF ?aO ?aB ?aS ?aL ?_; (case aP => exact k89_mkM _ _ _ (⟨x4_1, x5_3, rd l0 x4_1⟩ : S89)); (case aB => exact (Law.bg HB.out)); (case aF => exact (fun _ _ => trivial)); (case aO => exact (Law.rg HO_3.out)); (case aS => exact (below_size (Law.bg HB.out))); (case aL => have := LMc18.out; omega); intro v159 w19 ho hb hg hat; rw [← Ny158.out] at ho; have HO160 := Aside0.mk (ho); replace HB := Aside0.mk (hb); clear HO_3; clear ho hb hg hat)); try go_wp2_with (first | ((with_reducible refine gate_builtin (b := .append) (xs := #[.tmp 55, .tmp 63]) rfl ?_); at_builtin; refine Kd.R_append k89 (w0 := w) w.heap.size rfl (.tmp 55) (.tmp 63) 27 89 (.agg #[(.int .i64 0), (.int .i64 0), (.int .i64 0)]) 24 rfl Try.underlying27 info89 rfl (by decide) (by omega) u3 x3_1 (⟨x4_1, x5_3, rd l0 x4_1⟩ : S89) [.int .i64 x4_1, .int .i64 x5_3, .int .i64 (rd l0 x4_1)] (fun _ => True) (fun _ => False) rfl rfl ?aP (fun _ hk => hk.elim) ?aF ?aO ?aB ?aS ?aL ?_; (case aP => exact k89_mkM _ _ _ (⟨x4_1, x5_3, rd l0 x4_1⟩ : S89)); (case aB => exact (Law.bg HB.out)); (case aF => exact (fun _ _ => trivial)); (case aO => exact (Law.rg HO_3.out)); (case aS => exact (below_size (Law.bg HB.out))); (case aL => have := LMc18.out; omega); intro v159 w19 ho hb hg hat; rw [← Ny158.out] at ho; have HO160 := Aside0.mk (ho); replace HB := Aside0.mk (hb); clear HO_3; clear ho hb hg hat)))
               go_roundg k3
               case measure => have := HK1.out; have := HJ4.out; have := HK3.out; omega
               case rel => exact ⟨(y158), (wrap64 (x4_1 + 1)), (by first | rfl | (simp; done) | (simp [*]; done)), H', ⟨by have := HK1.out; have := HJ4.out; have := HK3.out; omega⟩, ⟨by (with_reducible repeat (first | apply Kd.R_alloc | apply Kd.R_drewN | apply Kd.R_drew)); exact HO160.out⟩, ⟨by repeat (first | (with_reducible first | exact HB.out | apply below_alloc | apply pw_below_drewN | apply below_drew1) | exact HB.out)⟩⟩
              ·rw [if_neg c18] at H
               exact absurd H (by simp)
            ·rw [if_neg c16] at H
             exact absurd H (by simp)
           ·rw [if_neg c15] at H
            exact absurd H (by simp)
          ·rw [if_neg c14] at H
           exact absurd H (by simp)
         ·rw [if_neg c13] at H
          have c13b0 : decide (x6_3 < (l0.length : Int)) = false := decide_eq_false c13
          clear c13
          by_cases c20 : 0 ≤ x4_1
          ·rw [if_pos c20] at H
           have c20b0 : decide (0 ≤ x4_1) = true := decide_eq_true c20
           clear c20
           by_cases c21 : x4_1 < (l0.length : Int)
           ·rw [if_pos c21] at H
            have c21b0 : decide (x4_1 < (l0.length : Int)) = true := decide_eq_true c21
            clear c21
            by_cases c22 : x3_1.length < 5864062014805
            ·rw [if_pos c22] at H
             have LMc22 := Aside0.mk c22
             clear c22
             obtain ⟨y162, hy162⟩ : ∃ y_ : List (S89), y_ = (x3_1 ++ [(⟨x4_1, x5_3, rd l0 x4_1⟩ : S89)]) := ⟨_, rfl⟩
             replace H : (spec_l3Runs.l0 k3 l0 y162 (wrap64 (x4_1 + 1))) = some r := by first | (rw [hy162]; with_reducible exact H) | (have H2_ := (Option.bind_some _ _).symm.trans H; rw [hy162]; with_reducible exact H2_) | (have H2_ := (Option.bind_some _ _).symm.trans H; with_reducible exact H2_) | with_reducible exact H | (rw [hy162]; exact H) | exact H
             have Ny162 := Aside0.mk hy162
             clear hy162
             have H' := Aside0.mk H
             clear H
             have p161 : 0 ≤ (x4_1 : Int) := of_decide_eq_true (by first | (with_reducible assumption) | assumption)
             have q161 : x4_1 < (l0.length : Int) := of_decide_eq_true (by first | (with_reducible assumption) | assumption)
             obtain ⟨ad161, e161, hx161_0⟩ := Kd.at_int HR0.out x4_1 p161 q161
             cases e161
             replace hx161_0 := (HB.out.cell (World.block_lt_of_cell? w _ hx161_0)).trans hx161_0
             replace p161 := eq_true p161
             replace q161 := eq_true q161
             go_wp2_with (first | ((with_reducible refine gate_builtin (b := .append) (xs := #[.tmp 55, .tmp 63]) rfl ?_); at_builtin; refine Kd.R_append k89 (w0 := w) w.heap.size rfl (.tmp 55) (.tmp 63) 27 89 (.agg #[(.int .i64 0), (.int .i64 0), (.int .i64 0)]) 24 rfl Try.underlying27 info89 rfl (by decide) (by omega) u3 x3_1 (⟨x4_1, x5_3, rd l0 x4_1⟩ : S89) [.int .i64 x4_1, .int .i64 x5_3, .int .i64 (rd l0 x4_1)] (fun _ => True) (fun _ => False) rfl rfl ?aP (fun _ hk => hk.elim) ?aF ?aO ?aB ?aS ?aL ?_; (case aP => exact k89_mkM _ _ _ (⟨x4_1, x5_3, rd l0 x4_1⟩ : S89)); (case aB => exact (Law.bg HB.out)); (case aF => exact (fun _ _ => trivial)); (case aO => exact (Law.rg HO_3.out)); (case aS => exact (below_size (Law.bg HB.out))); (case aL => have := LMc22.out; omega); intro v163 w23 ho hb hg hat; rw [← Ny162.out] at ho; have HO164 := Aside0.mk (ho); replace HB := Aside0.mk (hb); clear HO_3; clear ho hb hg hat))
             repeat (go_quiet (first | ((with_reducible refine gate_builtin (b := .append) (xs := #[.tmp 55, .tmp 63]) rfl ?_); at_builtin; refine Kd.R_append k89 (w0 := w) w.heap.size rfl (.tmp 55) (.tmp 63) 27 89 (.agg #[(.int .i64 0), (.int .i64 0), (.int .i64 0)]) 24 rfl Try.underlying27 info89 rfl (by decide) (by omega) u3 x3_1 (⟨x4_1, x5_3, rd l0 x4_1⟩ : S89) [.int .i64 x4_1, .int .i64 x5_3, .int .i64 (rd l0 x4_1)] (fun _ => True) (fun _ => False) rfl rfl ?aP (fun _ hk => hk.elim) ?aF ?aO ?aB ?aS ?aL ?_; (case aP => exact k89_mkM _ _ _ (⟨x4_1, x5_3, rd l0 x4_1⟩ : S89)); (case aB => exact (Law.bg HB.out)); (case aF => exact (fun _ _ => trivial)); (case aO => exact (Law.rg HO_3.out)); (case aS => exact (below_size (Law.bg HB.out))); (case aL => have := LMc22.out; omega); intro v163 w23 ho hb hg hat; rw [← Ny162.out] at ho; have HO164 := Aside0.mk (ho); replace HB := Aside0.mk (hb); clear HO_3; clear ho hb hg hat)); try go_wp2_with (first | ((with_reducible refine gate_builtin (b := .append) (xs := #[.tmp 55, .tmp 63]) rfl ?_); at_builtin; refine Kd.R_append k89 (w0 := w) w.heap.size rfl (.tmp 55) (.tmp 63) 27 89 (.agg #[(.int .i64 0), (.int .i64 0), (.int .i64 0)]) 24 rfl Try.underlying27 info89 rfl (by decide) (by omega) u3 x3_1 (⟨x4_1, x5_3, rd l0 x4_1⟩ : S89) [.int .i64 x4_1, .int .i64 x5_3, .int .i64 (rd l0 x4_1)] (fun _ => True) (fun _ => False) rfl rfl ?aP (fun _ hk => hk.elim) ?aF ?aO ?aB ?aS ?aL ?_; (case aP => exact k89_mkM _ _ _ (⟨x4_1, x5_3, rd l0 x4_1⟩ : S89)); (case aB => exact (Law.bg HB.out)); (case aF => exact (fun _ _ => trivial)); (case aO => exact (Law.rg HO_3.out)); (case aS => exact (below_size (Law.bg HB.out))); (case aL => have := LMc22.out; omega); intro v163 w23 ho hb hg hat; rw [← Ny162.out] at ho; have HO164 := Aside0.mk (ho); replace HB := Aside0.mk (hb); clear HO_3; clear ho hb hg hat)))
             go_roundg k3
             case measure => have := HK1.out; have := HJ4.out; have := HK3.out; omega
             case rel => exact ⟨(y162), (wrap64 (x4_1 + 1)), (by first | rfl | (simp; done) | (simp [*]; done)), H', ⟨by have := HK1.out; have := HJ4.out; have := HK3.out; omega⟩, ⟨by (with_reducible repeat (first | apply Kd.R_alloc | apply Kd.R_drewN | apply Kd.R_drew)); exact HO164.out⟩, ⟨by repeat (first | (with_reducible first | exact HB.out | apply below_alloc | apply pw_below_drewN | apply below_drew1) | exact HB.out)⟩⟩
            ·rw [if_neg c22] at H
             exact absurd H (by simp)
           ·rw [if_neg c21] at H
            exact absurd H (by simp)
          ·rw [if_neg c20] at H
           exact absurd H (by simp)
   ·rw [if_neg c4] at H
    have c4b0 : decide (x4_1 < (l0.length : Int)) = false := decide_eq_false c4
    clear c4
    obtain rfl := Option.some.inj H
    go_wp2
    repeat (go_quiet (fail); try go_wp2)
    go_ret
    exact ⟨_, by first | rfl | (simp [errW_none, errW_some] <;> rfl) | (simp [*, errW_none, errW_some] <;> rfl), by (with_reducible repeat (first | apply Kd.R_alloc | apply Kd.R_drewN | apply Kd.R_drew)); exact HO_3.out, by repeat (first | (with_reducible first | exact HB.out | apply below_alloc | apply pw_below_drewN | apply below_drew1) | exact HB.out)⟩

/-! ### spec_l3Free: function 102 -/
def spec_l3Free.l0 : Nat → List Int → List Int → List Int → Int → Option (List Int)
 | 0, _, _, _, _ => none
 | k + 1, x0, x1, x5, x6 => if x6 < (x0.length : Int) then (if 0 ≤ x6 then (if (rd x0 x6) = 0 then (if x6 < (x1.length : Int) then (if (rd x1 x6) = 0 then (if x5.length < 17592186044416 then (spec_l3Free.l0 k x0 x1 (x5 ++ [x6]) (wrap64 (x6 + 1))) else (none)) else (spec_l3Free.l0 k x0 x1 x5 (wrap64 (x6 + 1)))) else (none)) else (spec_l3Free.l0 k x0 x1 x5 (wrap64 (x6 + 1)))) else (none)) else (some x5)
def spec_l3Free.f (k : Nat) (l0 : List Int) (l1 : List Int) : Option (List Int) := spec_l3Free.l0 k l0 l1 (([] : List Int)) 2
set_option maxHeartbeats 8000000 in
set_option maxRecDepth 100000 in
theorem spec_l3Free.calls (k : Nat) (A0 : Option Addr) (c0 : Nat) (l0 : List Int) (A1 : Option Addr) (c1 : Nat) (l1 : List Int) (r : List Int) (w : World) (hr0 : Kd.C (Kd.int .i64) w A0 l0.length l0) (hc0 : l0.length ≤ c0) (hr1 : Kd.C (Kd.int .i64) w A1 l1.length l1) (hc1 : l1.length ≤ c1) (h : spec_l3Free.f k l0 l1 = some r) :
  Calls Try.prog 102 #[.slice A0 l0.length c0, .slice A1 l1.length c1] w fun e w' => ∃ v0_ : Value, e = .returned (v0_) ∧ Kd.R (Kd.int .i64) 2 w' w.heap.size (fun _ => True) v0_ r ∧ Below w.heap.size w w' := by
 have HR0 := Aside0.mk hr0
 have HC0 := Aside0.mk hc0
 clear hr0 hc0
 have HR1 := Aside0.mk hr1
 have HC1 := Aside0.mk hc1
 clear hr1 hc1
 have HB := Aside0.mk (Below.refl w.heap.size w)
 have H : (spec_l3Free.l0 k l0 l1 (([] : List Int)) 2) = some r := h
 clear h
 obtain ⟨y165, hy165⟩ : ∃ y_ : List Int, y_ = (([] : List Int)) := ⟨_, rfl⟩
 replace H : (spec_l3Free.l0 k l0 l1 y165 2) = some r := by first | (rw [hy165]; with_reducible exact H) | (have H2_ := (Option.bind_some _ _).symm.trans H; rw [hy165]; with_reducible exact H2_) | (have H2_ := (Option.bind_some _ _).symm.trans H; with_reducible exact H2_) | with_reducible exact H | (rw [hy165]; exact H) | exact H
 have Ny165 := Aside0.mk hy165
 clear hy165
 have H' := Aside0.mk H
 clear H
 go_enter Try.func102, Try.ntmps102
 go_wp2_with (first | ((with_reducible refine gate_dst (N := 7) rfl ?_); refine Kd.R_lit (Kd.int .i64) _ 2 ?hg (N := 7) ?hd (xs := ([] : List Int)) (inner := []) (ok := fun _ => True) (okp := fun _ => True) ?hr ?hp (fun _ hk => hk) trivial (Below.refl _ _) (Nat.le_refl _) (by simp) ?_; (case hd => rfl); (case hg => rfl); (case hr => first | (go_simp; done) | (go_simp; rfl)); (case hp => exact (Reps.none _ _)); intro v166 w3 ho4 hb hg_ hnew_; clear hg_ hnew_; (first | rw [← Ny165.out] at ho4 | (simp only [Int.reduceToNat] at ho4; rw [← Ny165.out] at ho4)); have HO167 := Law.rL ho4 HB; replace HB := Law.bS HB hb; clear hb ho4))
 go_loopg [5, 6] k (fun kq v5 v6 w' => ∃ (x5_1 : List Int) (x6_1 : Int), v6 = .int .i64 x6_1 ∧ Aside0 (spec_l3Free.l0 kq l0 l1 x5_1 x6_1 = some r) ∧ Aside0 (kq ≤ k) ∧ Aside0 (Kd.R (Kd.int .i64) 2 w' w.heap.size (fun _ => True) v5 x5_1) ∧ Aside0 (Below w.heap.size w w'))
 case atStart => exact ⟨(y165), (2), (by first | rfl | (simp; done) | (simp [*]; done)), H', ⟨Nat.le_refl _⟩, ⟨by (with_reducible repeat (first | apply Kd.R_alloc | apply Kd.R_drewN | apply Kd.R_drew)); exact HO167.out⟩, ⟨by repeat (first | (with_reducible first | exact HB.out | apply below_alloc | apply pw_below_drewN | apply below_drew1) | exact HB.out)⟩⟩
 case round =>
  clear H'
  try clear c1
  try clear p2
  obtain ⟨x5_1, x6_1, rfl, HA, HK1, HO_5, HB⟩ := hrel
  cases gk with
  | zero => exact absurd HA.out (by simp [spec_l3Free.l0])
  | succ k1 =>
   have H := HA.out
   clear HA
   simp only [spec_l3Free.l0] at H
   by_cases c5 : x6_1 < (l0.length : Int)
   ·rw [if_pos c5] at H
    have c5b0 : decide (x6_1 < (l0.length : Int)) = true := decide_eq_true c5
    clear c5
    by_cases c6 : 0 ≤ x6_1
    ·rw [if_pos c6] at H
     have c6b0 : decide (0 ≤ x6_1) = true := decide_eq_true c6
     clear c6
     by_cases c7 : (rd l0 x6_1) = 0
     ·rw [if_pos c7] at H
      have c7b0 : ((rd l0 x6_1) == 0) = true := beq_iff_eq.mpr c7
      have c7b1 : ((rd l0 x6_1) != 0) = false := bne_eq_false_iff_eq.mpr c7
      clear c7
      by_cases c8 : x6_1 < (l1.length : Int)
      ·rw [if_pos c8] at H
       have c8b0 : decide (x6_1 < (l1.length : Int)) = true := decide_eq_true c8
       clear c8
       by_cases c9 : (rd l1 x6_1) = 0
       ·rw [if_pos c9] at H
        have c9b0 : ((rd l1 x6_1) == 0) = true := beq_iff_eq.mpr c9
        have c9b1 : ((rd l1 x6_1) != 0) = false := bne_eq_false_iff_eq.mpr c9
        clear c9
        by_cases c10 : x5_1.length < 17592186044416
        ·rw [if_pos c10] at H
         have LMc10 := Aside0.mk c10
         clear c10
         obtain ⟨y170, hy170⟩ : ∃ y_ : List Int, y_ = (x5_1 ++ [x6_1]) := ⟨_, rfl⟩
         replace H : (spec_l3Free.l0 k1 l0 l1 y170 (wrap64 (x6_1 + 1))) = some r := by first | (rw [hy170]; with_reducible exact H) | (have H2_ := (Option.bind_some _ _).symm.trans H; rw [hy170]; with_reducible exact H2_) | (have H2_ := (Option.bind_some _ _).symm.trans H; with_reducible exact H2_) | with_reducible exact H | (rw [hy170]; exact H) | exact H
         have Ny170 := Aside0.mk hy170
         clear hy170
         have H' := Aside0.mk H
         clear H
         have p168 : 0 ≤ (x6_1 : Int) := of_decide_eq_true (by first | (with_reducible assumption) | assumption)
         have q168 : x6_1 < (l0.length : Int) := of_decide_eq_true (by first | (with_reducible assumption) | assumption)
         obtain ⟨ad168, e168, hx168_0⟩ := Kd.at_int HR0.out x6_1 p168 q168
         cases e168
         replace hx168_0 := (HB.out.cell (World.block_lt_of_cell? w _ hx168_0)).trans hx168_0
         replace p168 := eq_true p168
         replace q168 := eq_true q168
         have p169 : 0 ≤ (x6_1 : Int) := of_decide_eq_true (by first | (with_reducible assumption) | assumption)
         have q169 : x6_1 < (l1.length : Int) := of_decide_eq_true (by first | (with_reducible assumption) | assumption)
         obtain ⟨ad169, e169, hx169_0⟩ := Kd.at_int HR1.out x6_1 p169 q169
         cases e169
         replace hx169_0 := (HB.out.cell (World.block_lt_of_cell? w _ hx169_0)).trans hx169_0
         replace p169 := eq_true p169
         replace q169 := eq_true q169
         go_wp2_with (first | ((with_reducible refine gate_builtin (b := .append) (xs := #[.tmp 26, .tmp 28]) rfl ?_); at_builtin; refine Kd.R_append (Kd.int .i64) (w0 := w) w.heap.size rfl (.tmp 26) (.tmp 28) 24 2 (.int .i64 0) 8 rfl Try.underlying24 info2 rfl (by decide) (by omega) u5 x5_1 x6_1 [.int .i64 x6_1] (fun _ => True) (fun _ => False) rfl rfl ?aP (fun _ hk => hk.elim) ?aF ?aO ?aB ?aS ?aL ?_; (case aP => exact rfl); (case aB => exact (Law.bg HB.out)); (case aF => exact (fun _ _ => trivial)); (case aO => exact (Law.rg HO_5.out)); (case aS => exact (below_size (Law.bg HB.out))); (case aL => have := LMc10.out; omega); intro v171 w11 ho hb hg hat; rw [← Ny170.out] at ho; have HO172 := Aside0.mk (ho); replace HB := Aside0.mk (hb); clear HO_5; clear ho hb hg hat))
         go_roundg k1
         case measure => have := HK1.out; omega
         case rel => exact ⟨(y170), (wrap64 (x6_1 + 1)), (by first | rfl | (simp; done) | (simp [*]; done)), H', ⟨by have := HK1.out; omega⟩, ⟨by (with_reducible repeat (first | apply Kd.R_alloc | apply Kd.R_drewN | apply Kd.R_drew)); exact HO172.out⟩, ⟨by repeat (first | (with_reducible first | exact HB.out | apply below_alloc | apply pw_below_drewN | apply below_drew1) | exact HB.out)⟩⟩
        ·rw [if_neg c10] at H
         exact absurd H (by simp)
       ·rw [if_neg c9] at H
        have c9b0 : ((rd l1 x6_1) == 0) = false := beq_eq_false_iff_ne.mpr c9
        have c9b1 : ((rd l1 x6_1) != 0) = true := bne_iff_ne.mpr c9
        have H' := Aside0.mk H
        clear H
        have p168 : 0 ≤ (x6_1 : Int) := of_decide_eq_true (by first | (with_reducible assumption) | assumption)
        have q168 : x6_1 < (l0.length : Int) := of_decide_eq_true (by first | (with_reducible assumption) | assumption)
        obtain ⟨ad168, e168, hx168_0⟩ := Kd.at_int HR0.out x6_1 p168 q168
        cases e168
        replace hx168_0 := (HB.out.cell (World.block_lt_of_cell? w _ hx168_0)).trans hx168_0
        replace p168 := eq_true p168
        replace q168 := eq_true q168
        have p169 : 0 ≤ (x6_1 : Int) := of_decide_eq_true (by first | (with_reducible assumption) | assumption)
        have q169 : x6_1 < (l1.length : Int) := of_decide_eq_true (by first | (with_reducible assumption) | assumption)
        obtain ⟨ad169, e169, hx169_0⟩ := Kd.at_int HR1.out x6_1 p169 q169
        cases e169
        replace hx169_0 := (HB.out.cell (World.block_lt_of_cell? w _ hx169_0)).trans hx169_0
        replace p169 := eq_true p169
        replace q169 := eq_true q169
        go_wp2
        go_roundg k1
        case measure => have := HK1.out; omega
        case rel => exact ⟨(x5_1), (wrap64 (x6_1 + 1)), (by first | rfl | (simp; done) | (simp [*]; done)), H', ⟨by have := HK1.out; omega⟩, ⟨by (with_reducible repeat (first | apply Kd.R_alloc | apply Kd.R_drewN | apply Kd.R_drew)); exact HO_5.out⟩, ⟨by repeat (first | (with_reducible first | exact HB.out | apply below_alloc | apply pw_below_drewN | apply below_drew1) | exact HB.out)⟩⟩
      ·rw [if_neg c8] at H
       exact absurd H (by simp)
     ·rw [if_neg c7] at H
      have c7b0 : ((rd l0 x6_1) == 0) = false := beq_eq_false_iff_ne.mpr c7
      have c7b1 : ((rd l0 x6_1) != 0) = true := bne_iff_ne.mpr c7
      have H' := Aside0.mk H
      clear H
      have p168 : 0 ≤ (x6_1 : Int) := of_decide_eq_true (by first | (with_reducible assumption) | assumption)
      have q168 : x6_1 < (l0.length : Int) := of_decide_eq_true (by first | (with_reducible assumption) | assumption)
      obtain ⟨ad168, e168, hx168_0⟩ := Kd.at_int HR0.out x6_1 p168 q168
      cases e168
      replace hx168_0 := (HB.out.cell (World.block_lt_of_cell? w _ hx168_0)).trans hx168_0
      replace p168 := eq_true p168
      replace q168 := eq_true q168
      go_wp2
      go_roundg k1
      case measure => have := HK1.out; omega
      case rel => exact ⟨(x5_1), (wrap64 (x6_1 + 1)), (by first | rfl | (simp; done) | (simp [*]; done)), H', ⟨by have := HK1.out; omega⟩, ⟨by (with_reducible repeat (first | apply Kd.R_alloc | apply Kd.R_drewN | apply Kd.R_drew)); exact HO_5.out⟩, ⟨by repeat (first | (with_reducible first | exact HB.out | apply below_alloc | apply pw_below_drewN | apply below_drew1) | exact HB.out)⟩⟩
    ·rw [if_neg c6] at H
     exact absurd H (by simp)
   ·rw [if_neg c5] at H
    have c5b0 : decide (x6_1 < (l0.length : Int)) = false := decide_eq_false c5
    clear c5
    obtain rfl := Option.some.inj H
    go_wp2
    go_ret
    exact ⟨_, by first | rfl | (simp [errW_none, errW_some] <;> rfl) | (simp [*, errW_none, errW_some] <;> rfl), by (with_reducible repeat (first | apply Kd.R_alloc | apply Kd.R_drewN | apply Kd.R_drew)); exact HO_5.out, by repeat (first | (with_reducible first | exact HB.out | apply below_alloc | apply pw_below_drewN | apply below_drew1) | exact HB.out)⟩

end Go.Proofs.Ytbimmmmjdimebaa.PFnPlan
