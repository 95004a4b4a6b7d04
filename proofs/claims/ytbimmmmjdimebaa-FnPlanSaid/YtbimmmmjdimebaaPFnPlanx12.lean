-- This text was written by a program of this session (gprint.py, on a turned copy of the print tool).
import Derived.Test.YtbimmmmjdimebaaLaw
import Derived.Test.YtbimmmmjdimebaaPFnPlanx0
import Derived.Test.YtbimmmmjdimebaaPFnPlanx3
import Derived.Test.YtbimmmmjdimebaaPFnPlanx5
import Derived.Test.YtbimmmmjdimebaaPFnPlanx7
import Derived.Test.YtbimmmmjdimebaaPFnPlanx8
import Derived.Test.YtbimmmmjdimebaaPFnPlanx10
import Derived.Test.YtbimmmmjdimebaaPFnPlanx11
namespace Go.Proofs.Ytbimmmmjdimebaa.PFnPlan
open Go.RowKit Go.Proofs.YtbimmmmjdimebaaW.PrintWords Go.Proofs.YtbimmmmjdimebaaW.PrintLast Go.Proofs.YtbimmmmjdimebaaW.PrintMore
attribute [local go_sem] max2_int min2_int max_two min_two max_three min_three max_four min_four   -- for this text's walks alone
set_option linter.unusedVariables false
set_option linter.unusedSimpArgs false

/-! ### laws_FnPlan: function 11 -/
mutual
def laws_FnPlan.j0 : Nat → List Int → List Int → Int → List Int → List (S89) → Bool → Option (Bool)
 | 0, _, _, _, _, _, _ => none
 | k + 1, x3, x4, x7, x8, x9, x61 => if x61 = true then (if (x8.length : Int) = 0 then (some ((x9.length : Int) == 0)) else (some false)) else ((laws_fCopyNums.f k x3).bind fun t413 => ((impl_RunsOf.f k t413).bind fun bt416 => ((impl_CountsOf.f k (x3.length : Int) bt416.1).bind fun bt420 => (if bt416.2 = 0 then (if bt420.2 = 0 then (laws_FnPlan.j1 k x3 x4 x7 x8 x9 bt420.1 ((bt420.1.length : Int) != (x3.length : Int))) else (laws_FnPlan.j1 k x3 x4 x7 x8 x9 bt420.1 true)) else (laws_FnPlan.j1 k x3 x4 x7 x8 x9 bt420.1 true)))))
def laws_FnPlan.j1 : Nat → List Int → List Int → Int → List Int → List (S89) → List Int → Bool → Option (Bool)
 | 0, _, _, _, _, _, _, _ => none
 | k + 1, x3, x4, x7, x8, x9, x13, x95 => if x95 = true then (some false) else (laws_FnPlan.l0 k x3 x4 x7 x8 x9 x13 0)
def laws_FnPlan.l0 : Nat → List Int → List Int → Int → List Int → List (S89) → List Int → Int → Option (Bool)
 | 0, _, _, _, _, _, _, _ => none
 | k + 1, x3, x4, x7, x8, x9, x13, x15 => if x15 < (x3.length : Int) then (if 0 ≤ x15 then (if x15 < (x13.length : Int) then (if (rd x13 x15) = (rd x3 x15) then (laws_FnPlan.l0 k x3 x4 x7 x8 x9 x13 (wrap64 (x15 + 1))) else (some false)) else (none)) else (none)) else ((laws_fCopyNums.f k x3).bind fun t426 => ((laws_fCopyNums.f k x4).bind fun t429 => ((impl_Classify.f k t426 t429).bind fun bt432 => (laws_FnPlan.l1 k x3 x4 x7 x8 x9 bt432.1 bt432.2 0 0))))
def laws_FnPlan.l1 : Nat → List Int → List Int → Int → List Int → List (S89) → List Int → Int → Int → Int → Option (Bool)
 | 0, _, _, _, _, _, _, _, _, _ => none
 | k + 1, x3, x4, x7, x8, x9, x16, x17, x18, x19 => if x19 < (x16.length : Int) then (if 0 ≤ x19 then (if (rd x16 x19) = 4 then (laws_FnPlan.l1 k x3 x4 x7 x8 x9 x16 x17 (wrap64 (x18 + 1)) (wrap64 (x19 + 1))) else (laws_FnPlan.l1 k x3 x4 x7 x8 x9 x16 x17 x18 (wrap64 (x19 + 1)))) else (none)) else ((impl_Reserve.f (x3.length : Int)).bind fun t437 => (if x17 = 0 then (if (x16.length : Int) = (x3.length : Int) then (laws_FnPlan.j4 k x3 x4 x7 x8 x9 x18 t437 (decide ((wrap64 (t437 * 20)) < (wrap64 ((x3.length : Int) - 2))))) else (laws_FnPlan.j4 k x3 x4 x7 x8 x9 x18 t437 true)) else (laws_FnPlan.j4 k x3 x4 x7 x8 x9 x18 t437 true)))
def laws_FnPlan.j4 : Nat → List Int → List Int → Int → List Int → List (S89) → Int → Int → Bool → Option (Bool)
 | 0, _, _, _, _, _, _, _, _ => none
 | k + 1, x3, x4, x7, x8, x9, x18, x20, x151 => if x151 = true then (some false) else (if x7 = 7 then (some (decide (x18 < x20))) else ((laws_fCopyNums.f k x3).bind fun t438 => (laws_FnPlan.l2 k x3 x4 x8 x9 t438 0)))
def laws_FnPlan.l2 : Nat → List Int → List Int → List Int → List (S89) → List Int → Int → Option (Bool)
 | 0, _, _, _, _, _, _ => none
 | k + 1, x3, x4, x8, x9, x21, x22 => if x22 < (x8.length : Int) then ((laws_fCopyNums.f k x21).bind fun t449 => ((impl_RunsOf.f k t449).bind fun bt452 => (if x22 > 0 then (laws_FnPlan.j6 k x3 x4 x8 x9 x21 x22 (decide ((bt452.1.length : Int) ≤ (wrap64 (20 * x22))))) else (laws_FnPlan.j6 k x3 x4 x8 x9 x21 x22 false)))) else ((laws_fCopyNums.f k x21).bind fun t441 => ((impl_RunsOf.f k t441).bind fun bt444 => (if (x8.length : Int) > 0 then (if bt444.2 = 0 then ((laws_lRuns.f k bt444.1 x9).bind fun t448 => (if t448 = true then (some (decide ((x9.length : Int) ≤ (wrap64 (20 * (x8.length : Int)))))) else (some false))) else (some false)) else (some false))))
def laws_FnPlan.j6 : Nat → List Int → List Int → List Int → List (S89) → List Int → Int → Bool → Option (Bool)
 | 0, _, _, _, _, _, _, _ => none
 | k + 1, x3, x4, x8, x9, x21, x22, x179 => if x179 = true then (some false) else ((laws_fCopyNums.f k x21).bind fun t456 => ((laws_fCopyNums.f k x4).bind fun t459 => ((impl_LowestFree.f k t456 t459).bind fun bt462 => (if bt462.2 = 0 then (if 0 ≤ x22 then (if x22 < (x8.length : Int) then (if bt462.1 = (rd x8 x22) then (if bt462.1 < 2 then (some false) else (if bt462.1 ≥ (x21.length : Int) then (some false) else (if 0 ≤ bt462.1 then (if bt462.1 < (x3.length : Int) then (if (rd x3 bt462.1) = 0 then (if bt462.1 < (x4.length : Int) then (if (rd x4 bt462.1) = 0 then (if bt462.1 < (x21.length : Int) then (laws_FnPlan.l2 k x3 x4 x8 x9 (x21.set (bt462.1 : Int).toNat 1) (wrap64 (x22 + 1))) else (none)) else (some false)) else (none)) else (some false)) else (none)) else (none)))) else (some false)) else (none)) else (none)) else (some false)))))
end
def laws_FnPlan.f (k : Nat) (l0 : List Int) : Option (Bool) := if (l0.length : Int) > 1048576 then (some true) else ((spec_DrawPlanTable.f k l0).bind fun bt387 => ((spec_PlanTable.f k bt387.1 bt387.2).bind fun bt393 => ((laws_fCopyNums.f k bt387.1).bind fun t400 => ((laws_fCopyNums.f k bt387.2).bind fun t403 => ((impl_PlanTable.f k t400 t403).bind fun bt406 => (if bt406.2.2 = bt393.2.2 then (if bt393.2.2 = 0 then (laws_FnPlan.j0 k bt387.1 bt387.2 bt393.2.2 bt406.1 bt406.2.1 false) else (laws_FnPlan.j0 k bt387.1 bt387.2 bt393.2.2 bt406.1 bt406.2.1 (bt393.2.2 != 7))) else (some false)))))))
set_option maxHeartbeats 8000000 in
set_option maxRecDepth 100000 in
theorem laws_FnPlan.calls (k : Nat) (A0 : Option Addr) (c0 : Nat) (l0 : List Int) (r : Bool) (w : World) (hr0 : Kd.C (Kd.int .u8) w A0 l0.length l0) (hc0 : l0.length ≤ c0) (h : laws_FnPlan.f k l0 = some r) :
  Calls Try.prog 11 #[.slice A0 l0.length c0] w fun e w' => e = .returned (.bool r) ∧ Below w.heap.size w w' := by
 have HR0 := Aside0.mk hr0
 have HC0 := Aside0.mk hc0
 clear hr0 hc0
 have HB := Aside0.mk (Below.refl w.heap.size w)
 have H : (if (l0.length : Int) > 1048576 then (some true) else ((spec_DrawPlanTable.f k l0).bind fun bt387 => ((spec_PlanTable.f k bt387.1 bt387.2).bind fun bt393 => ((laws_fCopyNums.f k bt387.1).bind fun t400 => ((laws_fCopyNums.f k bt387.2).bind fun t403 => ((impl_PlanTable.f k t400 t403).bind fun bt406 => (if bt406.2.2 = bt393.2.2 then (if bt393.2.2 = 0 then (laws_FnPlan.j0 k bt387.1 bt387.2 bt393.2.2 bt406.1 bt406.2.1 false) else (laws_FnPlan.j0 k bt387.1 bt387.2 bt393.2.2 bt406.1 bt406.2.1 (bt393.2.2 != 7))) else (some false)))))))) = some r := h
 clear h
 by_cases c2 : (l0.length : Int) > 1048576
 ·rw [if_pos c2] at H
  have c2b0 : decide (1048576 < (l0.length : Int)) = true := decide_eq_true c2
  have c2b1 : decide (1048576 < l0.length) = true := decide_eq_true (by omega)
  clear c2
  obtain rfl := Option.some.inj H
  go_enter Try.func11, Try.ntmps11
  go_wp2
  repeat (go_quiet (fail); try go_wp2)
  go_ret
  exact ⟨by first | rfl | (simp [errW_none, errW_some] <;> rfl) | (simp [*, errW_none, errW_some] <;> rfl), by repeat (first | (with_reducible first | exact HB.out | apply below_alloc | apply pw_below_drewN | apply below_drew1) | exact HB.out)⟩
 ·rw [if_neg c2] at H
  have c2b0 : decide (1048576 < (l0.length : Int)) = false := decide_eq_false c2
  have c2b1 : decide (1048576 < l0.length) = false := decide_eq_false (by omega)
  clear c2
  replace H := Option.bind_eq_some_iff.mp H
  obtain ⟨⟨t387, t388⟩, A30, H⟩ := H
  replace H : ((spec_PlanTable.f k t387 t388).bind fun bt393 => ((laws_fCopyNums.f k t387).bind fun t400 => ((laws_fCopyNums.f k t388).bind fun t403 => ((impl_PlanTable.f k t400 t403).bind fun bt406 => (if bt406.2.2 = bt393.2.2 then (if bt393.2.2 = 0 then (laws_FnPlan.j0 k t387 t388 bt393.2.2 bt406.1 bt406.2.1 false) else (laws_FnPlan.j0 k t387 t388 bt393.2.2 bt406.1 bt406.2.1 (bt393.2.2 != 7))) else (some false)))))) = some r := H
  have A3 := Aside0.mk A30
  clear A30
  replace H := Option.bind_eq_some_iff.mp H
  obtain ⟨⟨t393, t394, t395⟩, A40, H⟩ := H
  replace H : ((laws_fCopyNums.f k t387).bind fun t400 => ((laws_fCopyNums.f k t388).bind fun t403 => ((impl_PlanTable.f k t400 t403).bind fun bt406 => (if bt406.2.2 = t395 then (if t395 = 0 then (laws_FnPlan.j0 k t387 t388 t395 bt406.1 bt406.2.1 false) else (laws_FnPlan.j0 k t387 t388 t395 bt406.1 bt406.2.1 (t395 != 7))) else (some false))))) = some r := H
  have A4 := Aside0.mk A40
  clear A40
  replace H := Option.bind_eq_some_iff.mp H
  obtain ⟨t400, A50, H⟩ := H
  replace H : ((laws_fCopyNums.f k t388).bind fun t403 => ((impl_PlanTable.f k t400 t403).bind fun bt406 => (if bt406.2.2 = t395 then (if t395 = 0 then (laws_FnPlan.j0 k t387 t388 t395 bt406.1 bt406.2.1 false) else (laws_FnPlan.j0 k t387 t388 t395 bt406.1 bt406.2.1 (t395 != 7))) else (some false)))) = some r := H
  have A5 := Aside0.mk A50
  clear A50
  replace H := Option.bind_eq_some_iff.mp H
  obtain ⟨t403, A60, H⟩ := H
  replace H : ((impl_PlanTable.f k t400 t403).bind fun bt406 => (if bt406.2.2 = t395 then (if t395 = 0 then (laws_FnPlan.j0 k t387 t388 t395 bt406.1 bt406.2.1 false) else (laws_FnPlan.j0 k t387 t388 t395 bt406.1 bt406.2.1 (t395 != 7))) else (some false))) = some r := H
  have A6 := Aside0.mk A60
  clear A60
  replace H := Option.bind_eq_some_iff.mp H
  obtain ⟨⟨t406, t409, t412⟩, A70, H⟩ := H
  replace H : (if t412 = t395 then (if t395 = 0 then (laws_FnPlan.j0 k t387 t388 t395 t406 t409 false) else (laws_FnPlan.j0 k t387 t388 t395 t406 t409 (t395 != 7))) else (some false)) = some r := H
  have A7 := Aside0.mk A70
  clear A70
  by_cases c8 : t412 = t395
  ·rw [if_pos c8] at H
   have c8b0 : (t412 == t395) = true := beq_iff_eq.mpr c8
   have c8b1 : (t412 != t395) = false := bne_eq_false_iff_eq.mpr c8
   clear c8
   have HC9 := Aside0.mk H
   clear H
   go_enter Try.func11, Try.ntmps11
   go_upto_region 8 with (first | (go_at_call 48; (with_reducible refine (spec_DrawPlanTable.calls k _ _ l0 t387 t388 _ ?side1 ?side2 A3.out).mono ?_); (case side1 => exact Law.cg (HR0.out)); (case side2 => exact HC0.out); rintro e w10 ⟨v389, v391, rfl, ho0, ho1, hb⟩; have HO390 := Law.rL ho0 HB; have HO392 := Law.rL ho1 HB; replace HB := Law.bS HB hb; (try clear hb); (try clear ho0); (try clear ho1); obtain ⟨Ao11, co11, eo11⟩ := Kd.R_slice HO390.out; subst eo11; obtain ⟨Ao12, co12, eo12⟩ := Kd.R_slice HO392.out; subst eo12) | (go_at_call 35; (with_reducible refine (spec_PlanTable.calls k _ _ t387 _ _ t388 t393 t394 t395 _ ?side1 ?side2 ?side3 ?side4 A4.out).mono ?_); (case side1 => exact Law.cg ((Kd.R_reads' HO390.out).2.2)); (case side2 => exact (Kd.R_reads' HO390.out).2.1); (case side3 => exact Law.cg ((Kd.R_reads' HO392.out).2.2)); (case side4 => exact (Kd.R_reads' HO392.out).2.1); rintro e w13 ⟨v396, v398, rfl, ho0, ho1, hb⟩; have HO397 := Law.rL (Law.rN (Law.rN ho0 HO390) HO392) HB; have HO399 := Law.rL ho1 HB; replace HO390 := Law.rE HO390 ho0 hb; replace HO392 := Law.rE HO392 ho0 hb; replace HB := Law.bS HB hb; (try clear hb); (try clear ho0); (try clear ho1)) | (go_at_call 49; (with_reducible refine (laws_fCopyNums.calls k _ _ t387 t400 _ ?side1 ?side2 A5.out).mono ?_); (case side1 => exact Law.cg ((Kd.R_reads' HO390.out).2.2)); (case side2 => exact (Kd.R_reads' HO390.out).2.1); rintro e w14 ⟨v401, rfl, ho0, hb⟩; have HO402 := Law.rL (Law.rN (Law.rN (Law.rN ho0 HO390) HO392) HO397) HB; replace HO390 := Law.rE HO390 ho0 hb; replace HO392 := Law.rE HO392 ho0 hb; replace HO397 := Law.rE HO397 ho0 hb; replace HO399 := Law.rB HO399 hb; replace HB := Law.bS HB hb; (try clear hb); (try clear ho0)) | (go_at_call 49; (with_reducible refine (laws_fCopyNums.calls k _ _ t388 t403 _ ?side1 ?side2 A6.out).mono ?_); (case side1 => exact Law.cg ((Kd.R_reads' HO392.out).2.2)); (case side2 => exact (Kd.R_reads' HO392.out).2.1); rintro e w15 ⟨v404, rfl, ho0, hb⟩; have HO405 := Law.rL (Law.rN (Law.rN (Law.rN (Law.rN ho0 HO390) HO392) HO397) HO402) HB; replace HO390 := Law.rE HO390 ho0 hb; replace HO392 := Law.rE HO392 ho0 hb; replace HO397 := Law.rE HO397 ho0 hb; replace HO399 := Law.rB HO399 hb; replace HO402 := Law.rE HO402 ho0 hb; replace HB := Law.bS HB hb; (try clear hb); (try clear ho0); obtain ⟨Ao16, co16, eo16⟩ := Kd.R_slice HO402.out; subst eo16; obtain ⟨Ao17, co17, eo17⟩ := Kd.R_slice HO405.out; subst eo17) | (go_at_call 36; (with_reducible refine (impl_PlanTable.calls k (fun k_ => some k_ = (.slice Ao16 t400.length co16 : Value).ownBlock) _ _ t400 (fun k_ => some k_ = (.slice Ao17 t403.length co17 : Value).ownBlock) _ _ t403 t406 t409 t412 _ ?side1 ?side2 A7.out).mono ?_); (case side1 => exact Kd.R_V (Kd.R_tight rfl (Kd.R_apart' (HO402.out) (Kd.R_typed HO399.out) (by decide)))); (case side2 => exact Kd.R_V (Kd.R_tight rfl (Kd.R_apart' (HO405.out) (Kd.R_typed HO399.out) (by decide)))); rintro e w18 ⟨v407, v410, rfl, ho0, ho1, hb⟩; have HO408 := Law.rL (Law.rN (Law.rN (Law.rN (Law.rN (Law.rN (Kd.R_mono (ok' := fun k_ => True) ho0 (fun _ hk_ => trivial)) HO390) HO392) HO397) HO402) HO405) HB; have HO411 := Law.rL (Law.rN (Kd.R_mono (ok' := fun k_ => True) ho1 (fun _ hk_ => trivial)) HO399) HB; replace HO390 := Law.rE HO390 ho0 hb; replace HO392 := Law.rE HO392 ho0 hb; replace HO397 := Law.rE HO397 ho0 hb; replace HO399 := Law.rE HO399 ho1 hb; replace HO402 := Law.rE HO402 ho0 hb; replace HO405 := Law.rE HO405 ho0 hb; replace HB := Law.bS HB hb; (try clear hb); (try clear ho0); (try clear ho1)))
   repeat (go_quiet (first | (go_at_call 48; (with_reducible refine (spec_DrawPlanTable.calls k _ _ l0 t387 t388 _ ?side1 ?side2 A3.out).mono ?_); (case side1 => exact Law.cg (HR0.out)); (case side2 => exact HC0.out); rintro e w10 ⟨v389, v391, rfl, ho0, ho1, hb⟩; have HO390 := Law.rL ho0 HB; have HO392 := Law.rL ho1 HB; replace HB := Law.bS HB hb; (try clear hb); (try clear ho0); (try clear ho1); obtain ⟨Ao11, co11, eo11⟩ := Kd.R_slice HO390.out; subst eo11; obtain ⟨Ao12, co12, eo12⟩ := Kd.R_slice HO392.out; subst eo12) | (go_at_call 35; (with_reducible refine (spec_PlanTable.calls k _ _ t387 _ _ t388 t393 t394 t395 _ ?side1 ?side2 ?side3 ?side4 A4.out).mono ?_); (case side1 => exact Law.cg ((Kd.R_reads' HO390.out).2.2)); (case side2 => exact (Kd.R_reads' HO390.out).2.1); (case side3 => exact Law.cg ((Kd.R_reads' HO392.out).2.2)); (case side4 => exact (Kd.R_reads' HO392.out).2.1); rintro e w13 ⟨v396, v398, rfl, ho0, ho1, hb⟩; have HO397 := Law.rL (Law.rN (Law.rN ho0 HO390) HO392) HB; have HO399 := Law.rL ho1 HB; replace HO390 := Law.rE HO390 ho0 hb; replace HO392 := Law.rE HO392 ho0 hb; replace HB := Law.bS HB hb; (try clear hb); (try clear ho0); (try clear ho1)) | (go_at_call 49; (with_reducible refine (laws_fCopyNums.calls k _ _ t387 t400 _ ?side1 ?side2 A5.out).mono ?_); (case side1 => exact Law.cg ((Kd.R_reads' HO390.out).2.2)); (case side2 => exact (Kd.R_reads' HO390.out).2.1); rintro e w14 ⟨v401, rfl, ho0, hb⟩; have HO402 := Law.rL (Law.rN (Law.rN (Law.rN ho0 HO390) HO392) HO397) HB; replace HO390 := Law.rE HO390 ho0 hb; replace HO392 := Law.rE HO392 ho0 hb; replace HO397 := Law.rE HO397 ho0 hb; replace HO399 := Law.rB HO399 hb; replace HB := Law.bS HB hb; (try clear hb); (try clear ho0)) | (go_at_call 49; (with_reducible refine (laws_fCopyNums.calls k _ _ t388 t403 _ ?side1 ?side2 A6.out).mono ?_); (case side1 => exact Law.cg ((Kd.R_reads' HO392.out).2.2)); (case side2 => exact (Kd.R_reads' HO392.out).2.1); rintro e w15 ⟨v404, rfl, ho0, hb⟩; have HO405 := Law.rL (Law.rN (Law.rN (Law.rN (Law.rN ho0 HO390) HO392) HO397) HO402) HB; replace HO390 := Law.rE HO390 ho0 hb; replace HO392 := Law.rE HO392 ho0 hb; replace HO397 := Law.rE HO397 ho0 hb; replace HO399 := Law.rB HO399 hb; replace HO402 := Law.rE HO402 ho0 hb; replace HB := Law.bS HB hb; (try clear hb); (try clear ho0); obtain ⟨Ao16, co16, eo16⟩ := Kd.R_slice HO402.out; subst eo16; obtain ⟨Ao17, co17, eo17⟩ := Kd.R_slice HO405.out; subst eo17) | (go_at_call 36; (with_reducible refine (impl_PlanTable.calls k (fun k_ => some k_ = (.slice Ao16 t400.length co16 : Value).ownBlock) _ _ t400 (fun k_ => some k_ = (.slice Ao17 t403.length co17 : Value).ownBlock) _ _ t403 t406 t409 t412 _ ?side1 ?side2 A7.out).mono ?_); (case side1 => exact Kd.R_V (Kd.R_tight rfl (Kd.R_apart' (HO402.out) (Kd.R_typed HO399.out) (by decide)))); (case side2 => exact Kd.R_V (Kd.R_tight rfl (Kd.R_apart' (HO405.out) (Kd.R_typed HO399.out) (by decide)))); rintro e w18 ⟨v407, v410, rfl, ho0, ho1, hb⟩; have HO408 := Law.rL (Law.rN (Law.rN (Law.rN (Law.rN (Law.rN (Kd.R_mono (ok' := fun k_ => True) ho0 (fun _ hk_ => trivial)) HO390) HO392) HO397) HO402) HO405) HB; have HO411 := Law.rL (Law.rN (Kd.R_mono (ok' := fun k_ => True) ho1 (fun _ hk_ => trivial)) HO399) HB; replace HO390 := Law.rE HO390 ho0 hb; replace HO392 := Law.rE HO392 ho0 hb; replace HO397 := Law.rE HO397 ho0 hb; replace HO399 := Law.rE HO399 ho1 hb; replace HO402 := Law.rE HO402 ho0 hb; replace HO405 := Law.rE HO405 ho0 hb; replace HB := Law.bS HB hb; (try clear hb); (try clear ho0); (try clear ho1))); go_upto_region 8 with (first | (go_at_call 48; (with_reducible refine (spec_DrawPlanTable.calls k _ _ l0 t387 t388 _ ?side1 ?side2 A3.out).mono ?_); (case side1 => exact Law.cg (HR0.out)); (case side2 => exact HC0.out); rintro e w10 ⟨v389, v391, rfl, ho0, ho1, hb⟩; have HO390 := Law.rL ho0 HB; have HO392 := Law.rL ho1 HB; replace HB := Law.bS HB hb; (try clear hb); (try clear ho0); (try clear ho1); obtain ⟨Ao11, co11, eo11⟩ := Kd.R_slice HO390.out; subst eo11; obtain ⟨Ao12, co12, eo12⟩ := Kd.R_slice HO392.out; subst eo12) | (go_at_call 35; (with_reducible refine (spec_PlanTable.calls k _ _ t387 _ _ t388 t393 t394 t395 _ ?side1 ?side2 ?side3 ?side4 A4.out).mono ?_); (case side1 => exact Law.cg ((Kd.R_reads' HO390.out).2.2)); (case side2 => exact (Kd.R_reads' HO390.out).2.1); (case side3 => exact Law.cg ((Kd.R_reads' HO392.out).2.2)); (case side4 => exact (Kd.R_reads' HO392.out).2.1); rintro e w13 ⟨v396, v398, rfl, ho0, ho1, hb⟩; have HO397 := Law.rL (Law.rN (Law.rN ho0 HO390) HO392) HB; have HO399 := Law.rL ho1 HB; replace HO390 := Law.rE HO390 ho0 hb; replace HO392 := Law.rE HO392 ho0 hb; replace HB := Law.bS HB hb; (try clear hb); (try clear ho0); (try clear ho1)) | (go_at_call 49; (with_reducible refine (laws_fCopyNums.calls k _ _ t387 t400 _ ?side1 ?side2 A5.out).mono ?_); (case side1 => exact Law.cg ((Kd.R_reads' HO390.out).2.2)); (case side2 => exact (Kd.R_reads' HO390.out).2.1); rintro e w14 ⟨v401, rfl, ho0, hb⟩; have HO402 := Law.rL (Law.rN (Law.rN (Law.rN ho0 HO390) HO392) HO397) HB; replace HO390 := Law.rE HO390 ho0 hb; replace HO392 := Law.rE HO392 ho0 hb; replace HO397 := Law.rE HO397 ho0 hb; replace HO399 := Law.rB HO399 hb; replace HB := Law.bS HB hb; (try clear hb); (try clear ho0)) | (go_at_call 49; (with_reducible refine (laws_fCopyNums.calls k _ _ t388 t403 _ ?side1 ?side2 A6.out).mono ?_); (case side1 => exact Law.cg ((Kd.R_reads' HO392.out).2.2)); (case side2 => exact (Kd.R_reads' HO392.out).2.1); rintro e w15 ⟨v404, rfl, ho0, hb⟩; have HO405 := Law.rL (Law.rN (Law.rN (Law.rN (Law.rN ho0 HO390) HO392) HO397) HO402) HB; replace HO390 := Law.rE HO390 ho0 hb; replace HO392 := Law.rE HO392 ho0 hb; replace HO397 := Law.rE HO397 ho0 hb; replace HO399 := Law.rB HO399 hb; replace HO402 := Law.rE HO402 ho0 hb; replace HB := Law.bS HB hb; (try clear hb); (try clear ho0); obtain ⟨Ao16, co16, eo16⟩ := Kd.R_slice HO402.out; subst eo16; obtain ⟨Ao17, co17, eo17⟩ := Kd.R_slice HO405.out; subst eo17) | (go_at_call 36; (with_reducible refine (impl_PlanTable.calls k (fun k_ => some k_ = (.slice Ao16 t400.length co16 : Value).ownBlock) _ _ t400 (fun k_ => some k_ = (.slice Ao17 t403.length co17 : Value).ownBlock) _ _ t403 t406 t409 t412 _ ?side1 ?side2 A7.out).mono ?_); (case side1 => exact Kd.R_V (Kd.R_tight rfl (Kd.R_apart' (HO402.out) (Kd.R_typed HO399.out) (by decide)))); (case side2 => exact Kd.R_V (Kd.R_tight rfl (Kd.R_apart' (HO405.out) (Kd.R_typed HO399.out) (by decide)))); rintro e w18 ⟨v407, v410, rfl, ho0, ho1, hb⟩; have HO408 := Law.rL (Law.rN (Law.rN (Law.rN (Law.rN (Law.rN (Kd.R_mono (ok' := fun k_ => True) ho0 (fun _ hk_ => trivial)) HO390) HO392) HO397) HO402) HO405) HB; have HO411 := Law.rL (Law.rN (Kd.R_mono (ok' := fun k_ => True) ho1 (fun _ hk_ => trivial)) HO399) HB; replace HO390 := Law.rE HO390 ho0 hb; replace HO392 := Law.rE HO392 ho0 hb; replace HO397 := Law.rE HO397 ho0 hb; replace HO399 := Law.rE HO399 ho1 hb; replace HO402 := Law.rE HO402 ho0 hb; replace HO405 := Law.rE HO405 ho0 hb; replace HB := Law.bS HB hb; (try clear hb); (try clear ho0); (try clear ho1))))
   (try simp only [Act.put, List.setIfInBounds_toArray, List.set_cons_zero, List.set_cons_succ])
   go_cut [61] (fun v61 wc => ∃ (kq : Nat) (x61_8 : Bool), v61 = .bool x61_8 ∧ Aside0 (laws_FnPlan.j0 kq t387 t388 t395 t406 t409 x61_8 = some r) ∧ Aside0 (kq ≤ k) ∧ Aside0 (Kd.R (Kd.int .i64) 2 wc w.heap.size (fun k_ => some k_ ≠ ((.slice Ao12 t388.length co12) : Value).ownBlock ∧ some k_ ≠ (v407 : Value).ownBlock) (.slice Ao11 t387.length co11) t387) ∧ Aside0 (Kd.R (Kd.int .i64) 2 wc w.heap.size (fun k_ => some k_ ≠ ((.slice Ao11 t387.length co11) : Value).ownBlock ∧ some k_ ≠ (v407 : Value).ownBlock) (.slice Ao12 t388.length co12) t388) ∧ Aside0 (Kd.R (Kd.int .i64) 2 wc w.heap.size (fun k_ => some k_ ≠ ((.slice Ao11 t387.length co11) : Value).ownBlock ∧ some k_ ≠ ((.slice Ao12 t388.length co12) : Value).ownBlock) v407 t406) ∧ Aside0 (Kd.R k89 89 wc w.heap.size (fun _ => True) v410 t409) ∧ Aside0 (Below w.heap.size w wc))
   case first =>
    have H := HC9.out
    clear HC9
    by_cases c19 : t395 = 0
    ·rw [if_pos c19] at H
     have c19b0 : (t395 == 0) = true := beq_iff_eq.mpr c19
     have c19b1 : (t395 != 0) = false := bne_eq_false_iff_eq.mpr c19
     clear c19
     (first | rw [c19b0] | (simp only [i64_w, i32_w]; rw [c19b0]) | skip)
     have H' := Aside0.mk H
     clear H
     go_wp2
     repeat (go_quiet (fail); try go_wp2)
     go_meet
     case rel => exact ⟨_, (false), (by first | rfl | (simp; done) | (simp [*]; done)), H', ⟨by first | omega | exact Nat.le_refl _⟩, ⟨by (with_reducible repeat (first | apply Kd.R_alloc | apply Kd.R_drewN | apply Kd.R_drew)); exact Kd.R_mono HO390.out (fun _ hk => ⟨hk.1.1.1.1, hk.2⟩)⟩, ⟨by (with_reducible repeat (first | apply Kd.R_alloc | apply Kd.R_drewN | apply Kd.R_drew)); exact Kd.R_mono HO392.out (fun _ hk => ⟨hk.1.1.1.1, hk.2⟩)⟩, ⟨by (with_reducible repeat (first | apply Kd.R_alloc | apply Kd.R_drewN | apply Kd.R_drew)); exact Kd.R_mono HO408.out (fun _ hk => ⟨hk.1.1.1.1.2, hk.1.1.1.2⟩)⟩, ⟨by (with_reducible repeat (first | apply Kd.R_alloc | apply Kd.R_drewN | apply Kd.R_drew)); exact Kd.R_mono HO411.out (fun _ hk => trivial)⟩, ⟨by repeat (first | (with_reducible first | exact HB.out | apply below_alloc | apply pw_below_drewN | apply below_drew1) | exact HB.out)⟩⟩
    ·rw [if_neg c19] at H
     have c19b0 : (t395 == 0) = false := beq_eq_false_iff_ne.mpr c19
     have c19b1 : (t395 != 0) = true := bne_iff_ne.mpr c19
     (first | rw [c19b0] | (simp only [i64_w, i32_w]; rw [c19b0]) | skip)
     have H' := Aside0.mk H
     clear H
     go_wp2
     repeat (go_quiet (fail); try go_wp2)
     go_meet
     case rel => exact ⟨_, ((t395 != 7)), (by first | rfl | (simp; done) | (simp [*]; done)), H', ⟨by first | omega | exact Nat.le_refl _⟩, ⟨by (with_reducible repeat (first | apply Kd.R_alloc | apply Kd.R_drewN | apply Kd.R_drew)); exact Kd.R_mono HO390.out (fun _ hk => ⟨hk.1.1.1.1, hk.2⟩)⟩, ⟨by (with_reducible repeat (first | apply Kd.R_alloc | apply Kd.R_drewN | apply Kd.R_drew)); exact Kd.R_mono HO392.out (fun _ hk => ⟨hk.1.1.1.1, hk.2⟩)⟩, ⟨by (with_reducible repeat (first | apply Kd.R_alloc | apply Kd.R_drewN | apply Kd.R_drew)); exact Kd.R_mono HO408.out (fun _ hk => ⟨hk.1.1.1.1.2, hk.1.1.1.2⟩)⟩, ⟨by (with_reducible repeat (first | apply Kd.R_alloc | apply Kd.R_drewN | apply Kd.R_drew)); exact Kd.R_mono HO411.out (fun _ hk => trivial)⟩, ⟨by repeat (first | (with_reducible first | exact HB.out | apply below_alloc | apply pw_below_drewN | apply below_drew1) | exact HB.out)⟩⟩
   case rest => as_aux_lemma =>
    clear HC9
    try clear c1
    try clear c2
    try clear c2b0
    try clear c2b1
    try clear p2
    try clear c8
    try clear c8b0
    try clear c8b1
    try clear c11
    try clear c19
    try clear c19b0
    try clear c19b1
    obtain ⟨kq, x61_8, rfl, HA, HJ8, HO_3, HO_4, HO_8, HO_9, HB⟩ := hcut
    cases kq with
    | zero => exact absurd HA.out (by simp [laws_FnPlan.j0])
    | succ kj8 =>
     have H := HA.out
     clear HA
     simp only [laws_FnPlan.j0] at H
     by_cases c20 : x61_8 = true
     ·subst c20
      have H1 : (if (t406.length : Int) = 0 then (some ((t409.length : Int) == 0)) else (some false)) = some r := by rw [if_pos rfl] at H; exact H
      clear H
      have H := H1
      clear H1
      by_cases c21 : (t406.length : Int) = 0
      ·rw [if_pos c21] at H
       have c21b0 : ((t406.length : Int) == 0) = true := beq_iff_eq.mpr c21
       have c21b1 : ((t406.length : Int) != 0) = false := bne_eq_false_iff_eq.mpr c21
       clear c21
       obtain rfl := Option.some.inj H
       obtain ⟨Ao22, co22, eo22⟩ := Kd.R_slice HO_8.out
       subst eo22
       obtain ⟨Ao23, co23, eo23⟩ := Kd.R_slice HO_9.out
       subst eo23
       go_wp2
       repeat (go_quiet (fail); try go_wp2)
       go_ret
       exact ⟨by first | rfl | (simp [errW_none, errW_some] <;> rfl) | (simp [*, errW_none, errW_some] <;> rfl), by repeat (first | (with_reducible first | exact HB.out | apply below_alloc | apply pw_below_drewN | apply below_drew1) | exact HB.out)⟩
      ·rw [if_neg c21] at H
       have c21b0 : ((t406.length : Int) == 0) = false := beq_eq_false_iff_ne.mpr c21
       have c21b1 : ((t406.length : Int) != 0) = true := bne_iff_ne.mpr c21
       have c21b2 : ¬ (t406 = []) := fun h_ => c21 (by rw [h_]; rfl)
       obtain rfl := Option.some.inj H
       obtain ⟨Ao24, co24, eo24⟩ := Kd.R_slice HO_8.out
       subst eo24
       go_wp2
       repeat (go_quiet (fail); try go_wp2)
       go_ret
       exact ⟨by first | rfl | (simp [errW_none, errW_some] <;> rfl) | (simp [*, errW_none, errW_some] <;> rfl), by repeat (first | (with_reducible first | exact HB.out | apply below_alloc | apply pw_below_drewN | apply below_drew1) | exact HB.out)⟩
     ·replace c20 := Bool.eq_false_iff.mpr c20
      subst c20
      have H1 : ((laws_fCopyNums.f kj8 t387).bind fun t413 => ((impl_RunsOf.f kj8 t413).bind fun bt416 => ((impl_CountsOf.f kj8 (t387.length : Int) bt416.1).bind fun bt420 => (if bt416.2 = 0 then (if bt420.2 = 0 then (laws_FnPlan.j1 kj8 t387 t388 t395 t406 t409 bt420.1 ((bt420.1.length : Int) != (t387.length : Int))) else (laws_FnPlan.j1 kj8 t387 t388 t395 t406 t409 bt420.1 true)) else (laws_FnPlan.j1 kj8 t387 t388 t395 t406 t409 bt420.1 true))))) = some r := by rw [if_neg (show ¬ (false = true) by decide)] at H; exact H
      clear H
      have H := H1
      clear H1
      replace H := Option.bind_eq_some_iff.mp H
      obtain ⟨t413, A250, H⟩ := H
      replace H : ((impl_RunsOf.f kj8 t413).bind fun bt416 => ((impl_CountsOf.f kj8 (t387.length : Int) bt416.1).bind fun bt420 => (if bt416.2 = 0 then (if bt420.2 = 0 then (laws_FnPlan.j1 kj8 t387 t388 t395 t406 t409 bt420.1 ((bt420.1.length : Int) != (t387.length : Int))) else (laws_FnPlan.j1 kj8 t387 t388 t395 t406 t409 bt420.1 true)) else (laws_FnPlan.j1 kj8 t387 t388 t395 t406 t409 bt420.1 true)))) = some r := H
      have A25 := Aside0.mk A250
      clear A250
      replace H := Option.bind_eq_some_iff.mp H
      obtain ⟨⟨t416, t419⟩, A260, H⟩ := H
      replace H : ((impl_CountsOf.f kj8 (t387.length : Int) t416).bind fun bt420 => (if t419 = 0 then (if bt420.2 = 0 then (laws_FnPlan.j1 kj8 t387 t388 t395 t406 t409 bt420.1 ((bt420.1.length : Int) != (t387.length : Int))) else (laws_FnPlan.j1 kj8 t387 t388 t395 t406 t409 bt420.1 true)) else (laws_FnPlan.j1 kj8 t387 t388 t395 t406 t409 bt420.1 true))) = some r := H
      have A26 := Aside0.mk A260
      clear A260
      replace H := Option.bind_eq_some_iff.mp H
      obtain ⟨⟨t420, t421⟩, A270, H⟩ := H
      replace H : (if t419 = 0 then (if t421 = 0 then (laws_FnPlan.j1 kj8 t387 t388 t395 t406 t409 t420 ((t420.length : Int) != (t387.length : Int))) else (laws_FnPlan.j1 kj8 t387 t388 t395 t406 t409 t420 true)) else (laws_FnPlan.j1 kj8 t387 t388 t395 t406 t409 t420 true)) = some r := H
      have A27 := Aside0.mk A270
      clear A270
      have HC28 := Aside0.mk H
      clear H
      go_upto_region 12 with (first | (go_at_call 49; (with_reducible refine (laws_fCopyNums.calls kj8 _ _ t387 t413 _ ?side1 ?side2 A25.out).mono ?_); (case side1 => exact Law.cg ((Kd.R_reads' HO_3.out).2.2)); (case side2 => exact (Kd.R_reads' HO_3.out).2.1); rintro e w29 ⟨v414, rfl, ho0, hb⟩; have HO415 := Law.rL (Law.rN (Law.rN (Law.rN ho0 HO_3) HO_4) HO_8) HB; replace HO_3 := Law.rE HO_3 ho0 hb; replace HO_4 := Law.rE HO_4 ho0 hb; replace HO_8 := Law.rE HO_8 ho0 hb; replace HO_9 := Law.rB HO_9 hb; replace HB := Law.bS HB hb; (try clear hb); (try clear ho0); obtain ⟨Ao30, co30, eo30⟩ := Kd.R_slice HO415.out; subst eo30) | (go_at_call 24; (with_reducible refine (impl_RunsOf.calls kj8 (fun k_ => some k_ = (.slice Ao30 t413.length co30 : Value).ownBlock) _ _ t413 t416 t419 _ ?side1 A26.out).mono ?_); (case side1 => exact Kd.R_V (Kd.R_tight rfl (Kd.R_apart' (HO415.out) (Kd.R_typed HO_9.out) (by decide)))); rintro e w31 ⟨v417, rfl, ho0, hb⟩; have HO418 := Law.rL (Law.rN (Kd.R_mono (ok' := fun k_ => True) ho0 (fun _ hk_ => trivial)) HO_9) HB; replace HO_3 := Law.rB HO_3 hb; replace HO_4 := Law.rB HO_4 hb; replace HO_8 := Law.rB HO_8 hb; replace HO_9 := Law.rE HO_9 ho0 hb; replace HO415 := Law.rB HO415 hb; replace HB := Law.bS HB hb; (try clear hb); (try clear ho0); obtain ⟨Ao32, co32, eo32⟩ := Kd.R_slice HO418.out; subst eo32) | (go_at_call 16; (with_reducible refine (impl_CountsOf.calls kj8 (t387.length : Int) _ _ t416 t420 t421 _ ?side1 ?side2 A27.out).mono ?_); (case side1 => exact Law.cg ((Kd.R_reads' HO418.out).2.2)); (case side2 => exact (Kd.R_reads' HO418.out).2.1); rintro e w33 ⟨v422, rfl, ho0, hb⟩; have HO423 := Law.rL (Law.rN (Law.rN (Law.rN (Law.rN ho0 HO_3) HO_4) HO_8) HO415) HB; replace HO_3 := Law.rE HO_3 ho0 hb; replace HO_4 := Law.rE HO_4 ho0 hb; replace HO_8 := Law.rE HO_8 ho0 hb; replace HO_9 := Law.rB HO_9 hb; replace HO415 := Law.rE HO415 ho0 hb; replace HO418 := Law.rB HO418 hb; replace HB := Law.bS HB hb; (try clear hb); (try clear ho0)))
      repeat (go_quiet (first | (go_at_call 49; (with_reducible refine (laws_fCopyNums.calls kj8 _ _ t387 t413 _ ?side1 ?side2 A25.out).mono ?_); (case side1 => exact Law.cg ((Kd.R_reads' HO_3.out).2.2)); (case side2 => exact (Kd.R_reads' HO_3.out).2.1); rintro e w29 ⟨v414, rfl, ho0, hb⟩; have HO415 := Law.rL (Law.rN (Law.rN (Law.rN ho0 HO_3) HO_4) HO_8) HB; replace HO_3 := Law.rE HO_3 ho0 hb; replace HO_4 := Law.rE HO_4 ho0 hb; replace HO_8 := Law.rE HO_8 ho0 hb; replace HO_9 := Law.rB HO_9 hb; replace HB := Law.bS HB hb; (try clear hb); (try clear ho0); obtain ⟨Ao30, co30, eo30⟩ := Kd.R_slice HO415.out; subst eo30) | (go_at_call 24; (with_reducible refine (impl_RunsOf.calls kj8 (fun k_ => some k_ = (.slice Ao30 t413.length co30 : Value).ownBlock) _ _ t413 t416 t419 _ ?side1 A26.out).mono ?_); (case side1 => exact Kd.R_V (Kd.R_tight rfl (Kd.R_apart' (HO415.out) (Kd.R_typed HO_9.out) (by decide)))); rintro e w31 ⟨v417, rfl, ho0, hb⟩; have HO418 := Law.rL (Law.rN (Kd.R_mono (ok' := fun k_ => True) ho0 (fun _ hk_ => trivial)) HO_9) HB; replace HO_3 := Law.rB HO_3 hb; replace HO_4 := Law.rB HO_4 hb; replace HO_8 := Law.rB HO_8 hb; replace HO_9 := Law.rE HO_9 ho0 hb; replace HO415 := Law.rB HO415 hb; replace HB := Law.bS HB hb; (try clear hb); (try clear ho0); obtain ⟨Ao32, co32, eo32⟩ := Kd.R_slice HO418.out; subst eo32) | (go_at_call 16; (with_reducible refine (impl_CountsOf.calls kj8 (t387.length : Int) _ _ t416 t420 t421 _ ?side1 ?side2 A27.out).mono ?_); (case side1 => exact Law.cg ((Kd.R_reads' HO418.out).2.2)); (case side2 => exact (Kd.R_reads' HO418.out).2.1); rintro e w33 ⟨v422, rfl, ho0, hb⟩; have HO423 := Law.rL (Law.rN (Law.rN (Law.rN (Law.rN ho0 HO_3) HO_4) HO_8) HO415) HB; replace HO_3 := Law.rE HO_3 ho0 hb; replace HO_4 := Law.rE HO_4 ho0 hb; replace HO_8 := Law.rE HO_8 ho0 hb; replace HO_9 := Law.rB HO_9 hb; replace HO415 := Law.rE HO415 ho0 hb; replace HO418 := Law.rB HO418 hb; replace HB := Law.bS HB hb; (try clear hb); (try clear ho0))); go_upto_region 12 with (first | (go_at_call 49; (with_reducible refine (laws_fCopyNums.calls kj8 _ _ t387 t413 _ ?side1 ?side2 A25.out).mono ?_); (case side1 => exact Law.cg ((Kd.R_reads' HO_3.out).2.2)); (case side2 => exact (Kd.R_reads' HO_3.out).2.1); rintro e w29 ⟨v414, rfl, ho0, hb⟩; have HO415 := Law.rL (Law.rN (Law.rN (Law.rN ho0 HO_3) HO_4) HO_8) HB; replace HO_3 := Law.rE HO_3 ho0 hb; replace HO_4 := Law.rE HO_4 ho0 hb; replace HO_8 := Law.rE HO_8 ho0 hb; replace HO_9 := Law.rB HO_9 hb; replace HB := Law.bS HB hb; (try clear hb); (try clear ho0); obtain ⟨Ao30, co30, eo30⟩ := Kd.R_slice HO415.out; subst eo30) | (go_at_call 24; (with_reducible refine (impl_RunsOf.calls kj8 (fun k_ => some k_ = (.slice Ao30 t413.length co30 : Value).ownBlock) _ _ t413 t416 t419 _ ?side1 A26.out).mono ?_); (case side1 => exact Kd.R_V (Kd.R_tight rfl (Kd.R_apart' (HO415.out) (Kd.R_typed HO_9.out) (by decide)))); rintro e w31 ⟨v417, rfl, ho0, hb⟩; have HO418 := Law.rL (Law.rN (Kd.R_mono (ok' := fun k_ => True) ho0 (fun _ hk_ => trivial)) HO_9) HB; replace HO_3 := Law.rB HO_3 hb; replace HO_4 := Law.rB HO_4 hb; replace HO_8 := Law.rB HO_8 hb; replace HO_9 := Law.rE HO_9 ho0 hb; replace HO415 := Law.rB HO415 hb; replace HB := Law.bS HB hb; (try clear hb); (try clear ho0); obtain ⟨Ao32, co32, eo32⟩ := Kd.R_slice HO418.out; subst eo32) | (go_at_call 16; (with_reducible refine (impl_CountsOf.calls kj8 (t387.length : Int) _ _ t416 t420 t421 _ ?side1 ?side2 A27.out).mono ?_); (case side1 => exact Law.cg ((Kd.R_reads' HO418.out).2.2)); (case side2 => exact (Kd.R_reads' HO418.out).2.1); rintro e w33 ⟨v422, rfl, ho0, hb⟩; have HO423 := Law.rL (Law.rN (Law.rN (Law.rN (Law.rN ho0 HO_3) HO_4) HO_8) HO415) HB; replace HO_3 := Law.rE HO_3 ho0 hb; replace HO_4 := Law.rE HO_4 ho0 hb; replace HO_8 := Law.rE HO_8 ho0 hb; replace HO_9 := Law.rB HO_9 hb; replace HO415 := Law.rE HO415 ho0 hb; replace HO418 := Law.rB HO418 hb; replace HB := Law.bS HB hb; (try clear hb); (try clear ho0))))
      (try simp only [Act.put, List.setIfInBounds_toArray, List.set_cons_zero, List.set_cons_succ])
      go_cut [95] (fun v95 wc => ∃ (kq : Nat) (x95_27 : Bool), v95 = .bool x95_27 ∧ Aside0 (laws_FnPlan.j1 kq t387 t388 t395 t406 t409 t420 x95_27 = some r) ∧ Aside0 (kq ≤ kj8) ∧ Aside0 (Kd.R (Kd.int .i64) 2 wc w.heap.size (fun k_ => some k_ ≠ ((.slice Ao12 t388.length co12) : Value).ownBlock ∧ some k_ ≠ (v407 : Value).ownBlock ∧ some k_ ≠ (v422 : Value).ownBlock) (.slice Ao11 t387.length co11) t387) ∧ Aside0 (Kd.R (Kd.int .i64) 2 wc w.heap.size (fun k_ => some k_ ≠ ((.slice Ao11 t387.length co11) : Value).ownBlock ∧ some k_ ≠ (v407 : Value).ownBlock ∧ some k_ ≠ (v422 : Value).ownBlock) (.slice Ao12 t388.length co12) t388) ∧ Aside0 (Kd.R (Kd.int .i64) 2 wc w.heap.size (fun k_ => some k_ ≠ ((.slice Ao11 t387.length co11) : Value).ownBlock ∧ some k_ ≠ ((.slice Ao12 t388.length co12) : Value).ownBlock ∧ some k_ ≠ (v422 : Value).ownBlock) v407 t406) ∧ Aside0 (Kd.R k89 89 wc w.heap.size (fun _ => True) v410 t409) ∧ Aside0 (Kd.R (Kd.int .i64) 2 wc w.heap.size (fun k_ => some k_ ≠ ((.slice Ao11 t387.length co11) : Value).ownBlock ∧ some k_ ≠ ((.slice Ao12 t388.length co12) : Value).ownBlock ∧ some k_ ≠ (v407 : Value).ownBlock) v422 t420) ∧ Aside0 (Below w.heap.size w wc))
      case first =>
       have H := HC28.out
       clear HC28
       by_cases c34 : t419 = 0
       ·rw [if_pos c34] at H
        have c34b0 : (t419 == 0) = true := beq_iff_eq.mpr c34
        have c34b1 : (t419 != 0) = false := bne_eq_false_iff_eq.mpr c34
        clear c34
        (first | rw [c34b0] | (simp only [i64_w, i32_w]; rw [c34b0]) | skip)
        by_cases c35 : t421 = 0
        ·rw [if_pos c35] at H
         have c35b0 : (t421 == 0) = true := beq_iff_eq.mpr c35
         have c35b1 : (t421 != 0) = false := bne_eq_false_iff_eq.mpr c35
         clear c35
         have H' := Aside0.mk H
         clear H
         obtain ⟨Ao36, co36, eo36⟩ := Kd.R_slice HO423.out
         subst eo36
         go_wp2
         repeat (go_quiet (fail); try go_wp2)
         go_meet
         case rel => exact ⟨_, (((t420.length : Int) != (t387.length : Int))), (by first | rfl | (simp; done) | (simp [*]; done)), H', ⟨by have := HJ8.out; first | omega | exact Nat.le_refl _⟩, ⟨by (with_reducible repeat (first | apply Kd.R_alloc | apply Kd.R_drewN | apply Kd.R_drew)); exact Kd.R_mono HO_3.out (fun _ hk => ⟨hk.1.1.1, ⟨hk.1.1.2, hk.2⟩⟩)⟩, ⟨by (with_reducible repeat (first | apply Kd.R_alloc | apply Kd.R_drewN | apply Kd.R_drew)); exact Kd.R_mono HO_4.out (fun _ hk => ⟨hk.1.1.1, ⟨hk.1.1.2, hk.2⟩⟩)⟩, ⟨by (with_reducible repeat (first | apply Kd.R_alloc | apply Kd.R_drewN | apply Kd.R_drew)); exact Kd.R_mono HO_8.out (fun _ hk => ⟨hk.1.1.1, ⟨hk.1.1.2, hk.2⟩⟩)⟩, ⟨by (with_reducible repeat (first | apply Kd.R_alloc | apply Kd.R_drewN | apply Kd.R_drew)); exact Kd.R_mono HO_9.out (fun _ hk => trivial)⟩, ⟨by (with_reducible repeat (first | apply Kd.R_alloc | apply Kd.R_drewN | apply Kd.R_drew)); exact Kd.R_mono HO423.out (fun _ hk => ⟨hk.1.1.1.2, ⟨hk.1.1.2, hk.1.2⟩⟩)⟩, ⟨by repeat (first | (with_reducible first | exact HB.out | apply below_alloc | apply pw_below_drewN | apply below_drew1) | exact HB.out)⟩⟩
        ·rw [if_neg c35] at H
         have c35b0 : (t421 == 0) = false := beq_eq_false_iff_ne.mpr c35
         have c35b1 : (t421 != 0) = true := bne_iff_ne.mpr c35
         have H' := Aside0.mk H
         clear H
         go_wp2
         repeat (go_quiet (fail); try go_wp2)
         go_meet
         case rel => exact ⟨_, (true), (by first | rfl | (simp; done) | (simp [*]; done)), H', ⟨by have := HJ8.out; first | omega | exact Nat.le_refl _⟩, ⟨by (with_reducible repeat (first | apply Kd.R_alloc | apply Kd.R_drewN | apply Kd.R_drew)); exact Kd.R_mono HO_3.out (fun _ hk => ⟨hk.1.1.1, ⟨hk.1.1.2, hk.2⟩⟩)⟩, ⟨by (with_reducible repeat (first | apply Kd.R_alloc | apply Kd.R_drewN | apply Kd.R_drew)); exact Kd.R_mono HO_4.out (fun _ hk => ⟨hk.1.1.1, ⟨hk.1.1.2, hk.2⟩⟩)⟩, ⟨by (with_reducible repeat (first | apply Kd.R_alloc | apply Kd.R_drewN | apply Kd.R_drew)); exact Kd.R_mono HO_8.out (fun _ hk => ⟨hk.1.1.1, ⟨hk.1.1.2, hk.2⟩⟩)⟩, ⟨by (with_reducible repeat (first | apply Kd.R_alloc | apply Kd.R_drewN | apply Kd.R_drew)); exact Kd.R_mono HO_9.out (fun _ hk => trivial)⟩, ⟨by (with_reducible repeat (first | apply Kd.R_alloc | apply Kd.R_drewN | apply Kd.R_drew)); exact Kd.R_mono HO423.out (fun _ hk => ⟨hk.1.1.1.2, ⟨hk.1.1.2, hk.1.2⟩⟩)⟩, ⟨by repeat (first | (with_reducible first | exact HB.out | apply below_alloc | apply pw_below_drewN | apply below_drew1) | exact HB.out)⟩⟩
       ·rw [if_neg c34] at H
        have c34b0 : (t419 == 0) = false := beq_eq_false_iff_ne.mpr c34
        have c34b1 : (t419 != 0) = true := bne_iff_ne.mpr c34
        (first | rw [c34b0] | (simp only [i64_w, i32_w]; rw [c34b0]) | skip)
        have H' := Aside0.mk H
        clear H
        go_wp2
        repeat (go_quiet (fail); try go_wp2)
        go_meet
        case rel => exact ⟨_, (true), (by first | rfl | (simp; done) | (simp [*]; done)), H', ⟨by have := HJ8.out; first | omega | exact Nat.le_refl _⟩, ⟨by (with_reducible repeat (first | apply Kd.R_alloc | apply Kd.R_drewN | apply Kd.R_drew)); exact Kd.R_mono HO_3.out (fun _ hk => ⟨hk.1.1.1, ⟨hk.1.1.2, hk.2⟩⟩)⟩, ⟨by (with_reducible repeat (first | apply Kd.R_alloc | apply Kd.R_drewN | apply Kd.R_drew)); exact Kd.R_mono HO_4.out (fun _ hk => ⟨hk.1.1.1, ⟨hk.1.1.2, hk.2⟩⟩)⟩, ⟨by (with_reducible repeat (first | apply Kd.R_alloc | apply Kd.R_drewN | apply Kd.R_drew)); exact Kd.R_mono HO_8.out (fun _ hk => ⟨hk.1.1.1, ⟨hk.1.1.2, hk.2⟩⟩)⟩, ⟨by (with_reducible repeat (first | apply Kd.R_alloc | apply Kd.R_drewN | apply Kd.R_drew)); exact Kd.R_mono HO_9.out (fun _ hk => trivial)⟩, ⟨by (with_reducible repeat (first | apply Kd.R_alloc | apply Kd.R_drewN | apply Kd.R_drew)); exact Kd.R_mono HO423.out (fun _ hk => ⟨hk.1.1.1.2, ⟨hk.1.1.2, hk.1.2⟩⟩)⟩, ⟨by repeat (first | (with_reducible first | exact HB.out | apply below_alloc | apply pw_below_drewN | apply below_drew1) | exact HB.out)⟩⟩
      case rest => as_aux_lemma =>
       clear HC28
       try clear c1
       try clear c2
       try clear c2b0
       try clear c2b1
       try clear p2
       try clear c3
       try clear c8
       try clear c8b0
       try clear c8b1
       try clear c11
       try clear c19
       try clear c19b0
       try clear c19b1
       try clear c20
       try clear c21
       try clear c21b0
       try clear c21b1
       try clear c21b2
       try clear c34
       try clear c34b0
       try clear c34b1
       try clear c35
       try clear c35b0
       try clear c35b1
       try clear p2
       obtain ⟨kq, x95_27, rfl, HA, HJ27, HO_3, HO_4, HO_8, HO_9, HO_13, HB⟩ := hcut
       cases kq with
       | zero => exact absurd HA.out (by simp [laws_FnPlan.j1])
       | succ kj27 =>
        have H := HA.out
        clear HA
        simp only [laws_FnPlan.j1] at H
        by_cases c37 : x95_27 = true
        ·subst c37
         have H1 : (some false) = some r := by rw [if_pos rfl] at H; exact H
         clear H
         have H := H1
         clear H1
         obtain rfl := Option.some.inj H
         go_wp2
         repeat (go_quiet (fail); try go_wp2)
         go_ret
         exact ⟨by first | rfl | (simp [errW_none, errW_some] <;> rfl) | (simp [*, errW_none, errW_some] <;> rfl), by repeat (first | (with_reducible first | exact HB.out | apply below_alloc | apply pw_below_drewN | apply below_drew1) | exact HB.out)⟩
        ·replace c37 := Bool.eq_false_iff.mpr c37
         subst c37
         have H1 : (laws_FnPlan.l0 kj27 t387 t388 t395 t406 t409 t420 0) = some r := by rw [if_neg (show ¬ (false = true) by decide)] at H; exact H
         clear H
         have H := H1
         clear H1
         have H' := Aside0.mk H
         clear H
         go_wp2
         repeat (go_quiet (fail); try go_wp2)
         go_loopg [15] kj27 (fun kq v15 w' => ∃ (x15_3 : Int), v15 = .int .i64 x15_3 ∧ Aside0 (laws_FnPlan.l0 kq t387 t388 t395 t406 t409 t420 x15_3 = some r) ∧ Aside0 (kq ≤ kj27) ∧ Aside0 (Kd.R (Kd.int .i64) 2 w' w.heap.size (fun k_ => some k_ ≠ ((.slice Ao12 t388.length co12) : Value).ownBlock ∧ some k_ ≠ (v407 : Value).ownBlock ∧ some k_ ≠ (v422 : Value).ownBlock) (.slice Ao11 t387.length co11) t387) ∧ Aside0 (Kd.R (Kd.int .i64) 2 w' w.heap.size (fun k_ => some k_ ≠ ((.slice Ao11 t387.length co11) : Value).ownBlock ∧ some k_ ≠ (v407 : Value).ownBlock ∧ some k_ ≠ (v422 : Value).ownBlock) (.slice Ao12 t388.length co12) t388) ∧ Aside0 (Kd.R (Kd.int .i64) 2 w' w.heap.size (fun k_ => some k_ ≠ ((.slice Ao11 t387.length co11) : Value).ownBlock ∧ some k_ ≠ ((.slice Ao12 t388.length co12) : Value).ownBlock ∧ some k_ ≠ (v422 : Value).ownBlock) v407 t406) ∧ Aside0 (Kd.R k89 89 w' w.heap.size (fun _ => True) v410 t409) ∧ Aside0 (Kd.R (Kd.int .i64) 2 w' w.heap.size (fun k_ => some k_ ≠ ((.slice Ao11 t387.length co11) : Value).ownBlock ∧ some k_ ≠ ((.slice Ao12 t388.length co12) : Value).ownBlock ∧ some k_ ≠ (v407 : Value).ownBlock) v422 t420) ∧ Aside0 (Below w.heap.size w w'))
         case atStart => exact ⟨(0), (by first | rfl | (simp; done) | (simp [*]; done)), H', ⟨Nat.le_refl _⟩, ⟨by (with_reducible repeat (first | apply Kd.R_alloc | apply Kd.R_drewN | apply Kd.R_drew)); exact HO_3.out⟩, ⟨by (with_reducible repeat (first | apply Kd.R_alloc | apply Kd.R_drewN | apply Kd.R_drew)); exact HO_4.out⟩, ⟨by (with_reducible repeat (first | apply Kd.R_alloc | apply Kd.R_drewN | apply Kd.R_drew)); exact HO_8.out⟩, ⟨by (with_reducible repeat (first | apply Kd.R_alloc | apply Kd.R_drewN | apply Kd.R_drew)); exact HO_9.out⟩, ⟨by (with_reducible repeat (first | apply Kd.R_alloc | apply Kd.R_drewN | apply Kd.R_drew)); exact HO_13.out⟩, ⟨by repeat (first | (with_reducible first | exact HB.out | apply below_alloc | apply pw_below_drewN | apply below_drew1) | exact HB.out)⟩⟩
         case round => as_aux_lemma =>
          clear H'
          try clear c1
          try clear c2
          try clear c2b0
          try clear c2b1
          try clear p2
          try clear c3
          try clear c8
          try clear c8b0
          try clear c8b1
          try clear c11
          try clear c19
          try clear c19b0
          try clear c19b1
          try clear c20
          try clear c21
          try clear c21b0
          try clear c21b1
          try clear c21b2
          try clear c34
          try clear c34b0
          try clear c34b1
          try clear c35
          try clear c35b0
          try clear c35b1
          try clear c37
          try clear p2
          obtain ⟨x15_3, rfl, HA, HK3, HO_3, HO_4, HO_8, HO_9, HO_13, HB⟩ := hrel
          cases gk with
          | zero => exact absurd HA.out (by simp [laws_FnPlan.l0])
          | succ k3 =>
           have H := HA.out
           clear HA
           simp only [laws_FnPlan.l0] at H
           by_cases c38 : x15_3 < (t387.length : Int)
           ·rw [if_pos c38] at H
            have c38b0 : decide (x15_3 < (t387.length : Int)) = true := decide_eq_true c38
            clear c38
            by_cases c39 : 0 ≤ x15_3
            ·rw [if_pos c39] at H
             have c39b0 : decide (0 ≤ x15_3) = true := decide_eq_true c39
             clear c39
             by_cases c40 : x15_3 < (t420.length : Int)
             ·rw [if_pos c40] at H
              have c40b0 : decide (x15_3 < (t420.length : Int)) = true := decide_eq_true c40
              clear c40
              by_cases c41 : (rd t420 x15_3) = (rd t387 x15_3)
              ·rw [if_pos c41] at H
               have c41b0 : ((rd t420 x15_3) == (rd t387 x15_3)) = true := beq_iff_eq.mpr c41
               have c41b1 : ((rd t420 x15_3) != (rd t387 x15_3)) = false := bne_eq_false_iff_eq.mpr c41
               clear c41
               have H' := Aside0.mk H
               clear H
               obtain ⟨Ao42, co42, eo42⟩ := Kd.R_slice HO_13.out
               subst eo42
               have p424 : 0 ≤ (x15_3 : Int) := of_decide_eq_true (by first | (with_reducible assumption) | assumption)
               have q424 : x15_3 < (t420.length : Int) := of_decide_eq_true (by first | (with_reducible assumption) | assumption)
               obtain ⟨ad424, e424, hx424_0⟩ := Kd.at_int (Kd.R_reads' HO_13.out).2.2 x15_3 p424 q424
               cases e424
               replace p424 := eq_true p424
               replace q424 := eq_true q424
               have p425 : 0 ≤ (x15_3 : Int) := of_decide_eq_true (by first | (with_reducible assumption) | assumption)
               have q425 : x15_3 < (t387.length : Int) := of_decide_eq_true (by first | (with_reducible assumption) | assumption)
               obtain ⟨ad425, e425, hx425_0⟩ := Kd.at_int (Kd.R_reads' HO_3.out).2.2 x15_3 p425 q425
               cases e425
               replace p425 := eq_true p425
               replace q425 := eq_true q425
               go_wp2
               repeat (go_quiet (fail); try go_wp2)
               go_roundg k3
               case measure => have := HJ8.out; have := HJ27.out; have := HK3.out; omega
               case rel => exact ⟨(wrap64 (x15_3 + 1)), (by first | rfl | (simp; done) | (simp [*]; done)), H', ⟨by have := HJ8.out; have := HJ27.out; have := HK3.out; omega⟩, ⟨by (with_reducible repeat (first | apply Kd.R_alloc | apply Kd.R_drewN | apply Kd.R_drew)); exact HO_3.out⟩, ⟨by (with_reducible repeat (first | apply Kd.R_alloc | apply Kd.R_drewN | apply Kd.R_drew)); exact HO_4.out⟩, ⟨by (with_reducible repeat (first | apply Kd.R_alloc | apply Kd.R_drewN | apply Kd.R_drew)); exact HO_8.out⟩, ⟨by (with_reducible repeat (first | apply Kd.R_alloc | apply Kd.R_drewN | apply Kd.R_drew)); exact HO_9.out⟩, ⟨by (with_reducible repeat (first | apply Kd.R_alloc | apply Kd.R_drewN | apply Kd.R_drew)); exact HO_13.out⟩, ⟨by repeat (first | (with_reducible first | exact HB.out | apply below_alloc | apply pw_below_drewN | apply below_drew1) | exact HB.out)⟩⟩
              ·rw [if_neg c41] at H
               have c41b0 : ((rd t420 x15_3) == (rd t387 x15_3)) = false := beq_eq_false_iff_ne.mpr c41
               have c41b1 : ((rd t420 x15_3) != (rd t387 x15_3)) = true := bne_iff_ne.mpr c41
               obtain rfl := Option.some.inj H
               obtain ⟨Ao43, co43, eo43⟩ := Kd.R_slice HO_13.out
               subst eo43
               have p424 : 0 ≤ (x15_3 : Int) := of_decide_eq_true (by first | (with_reducible assumption) | assumption)
               have q424 : x15_3 < (t420.length : Int) := of_decide_eq_true (by first | (with_reducible assumption) | assumption)
               obtain ⟨ad424, e424, hx424_0⟩ := Kd.at_int (Kd.R_reads' HO_13.out).2.2 x15_3 p424 q424
               cases e424
               replace p424 := eq_true p424
               replace q424 := eq_true q424
               have p425 : 0 ≤ (x15_3 : Int) := of_decide_eq_true (by first | (with_reducible assumption) | assumption)
               have q425 : x15_3 < (t387.length : Int) := of_decide_eq_true (by first | (with_reducible assumption) | assumption)
               obtain ⟨ad425, e425, hx425_0⟩ := Kd.at_int (Kd.R_reads' HO_3.out).2.2 x15_3 p425 q425
               cases e425
               replace p425 := eq_true p425
               replace q425 := eq_true q425
               go_wp2
               repeat (go_quiet (fail); try go_wp2)
               go_ret
               exact ⟨by first | rfl | (simp [errW_none, errW_some] <;> rfl) | (simp [*, errW_none, errW_some] <;> rfl), by repeat (first | (with_reducible first | exact HB.out | apply below_alloc | apply pw_below_drewN | apply below_drew1) | exact HB.out)⟩
             ·rw [if_neg c40] at H
              exact absurd H (by simp)
            ·rw [if_neg c39] at H
             exact absurd H (by simp)
           ·rw [if_neg c38] at H
            have c38b0 : decide (x15_3 < (t387.length : Int)) = false := decide_eq_false c38
            clear c38
            replace H := Option.bind_eq_some_iff.mp H
            obtain ⟨t426, A440, H⟩ := H
            replace H : ((laws_fCopyNums.f k3 t388).bind fun t429 => ((impl_Classify.f k3 t426 t429).bind fun bt432 => (laws_FnPlan.l1 k3 t387 t388 t395 t406 t409 bt432.1 bt432.2 0 0))) = some r := H
            have A44 := Aside0.mk A440
            clear A440
            replace H := Option.bind_eq_some_iff.mp H
            obtain ⟨t429, A450, H⟩ := H
            replace H : ((impl_Classify.f k3 t426 t429).bind fun bt432 => (laws_FnPlan.l1 k3 t387 t388 t395 t406 t409 bt432.1 bt432.2 0 0)) = some r := H
            have A45 := Aside0.mk A450
            clear A450
            replace H := Option.bind_eq_some_iff.mp H
            obtain ⟨⟨t432, t435⟩, A460, H⟩ := H
            replace H : (laws_FnPlan.l1 k3 t387 t388 t395 t406 t409 t432 t435 0 0) = some r := H
            have A46 := Aside0.mk A460
            clear A460
            have H' := Aside0.mk H
            clear H
            go_wp2_with (first | (go_at_call 49; (with_reducible refine (laws_fCopyNums.calls k3 _ _ t387 t426 _ ?side1 ?side2 A44.out).mono ?_); (case side1 => exact Law.cg ((Kd.R_reads' HO_3.out).2.2)); (case side2 => exact (Kd.R_reads' HO_3.out).2.1); rintro e w47 ⟨v427, rfl, ho0, hb⟩; have HO428 := Law.rL (Law.rN (Law.rN (Law.rN (Law.rN ho0 HO_3) HO_4) HO_8) HO_13) HB; replace HO_3 := Law.rE HO_3 ho0 hb; replace HO_4 := Law.rE HO_4 ho0 hb; replace HO_8 := Law.rE HO_8 ho0 hb; replace HO_9 := Law.rB HO_9 hb; replace HO_13 := Law.rE HO_13 ho0 hb; replace HB := Law.bS HB hb; (try clear hb); (try clear ho0)) | (go_at_call 49; (with_reducible refine (laws_fCopyNums.calls k3 _ _ t388 t429 _ ?side1 ?side2 A45.out).mono ?_); (case side1 => exact Law.cg ((Kd.R_reads' HO_4.out).2.2)); (case side2 => exact (Kd.R_reads' HO_4.out).2.1); rintro e w48 ⟨v430, rfl, ho0, hb⟩; have HO431 := Law.rL (Law.rN (Law.rN (Law.rN (Law.rN (Law.rN ho0 HO_3) HO_4) HO_8) HO_13) HO428) HB; replace HO_3 := Law.rE HO_3 ho0 hb; replace HO_4 := Law.rE HO_4 ho0 hb; replace HO_8 := Law.rE HO_8 ho0 hb; replace HO_9 := Law.rB HO_9 hb; replace HO_13 := Law.rE HO_13 ho0 hb; replace HO428 := Law.rE HO428 ho0 hb; replace HB := Law.bS HB hb; (try clear hb); (try clear ho0); obtain ⟨Ao49, co49, eo49⟩ := Kd.R_slice HO428.out; subst eo49; obtain ⟨Ao50, co50, eo50⟩ := Kd.R_slice HO431.out; subst eo50) | (go_at_call 50; (with_reducible refine (impl_Classify.calls k3 (fun k_ => some k_ = (.slice Ao49 t426.length co49 : Value).ownBlock) _ _ t426 (fun k_ => some k_ = (.slice Ao50 t429.length co50 : Value).ownBlock) _ _ t429 t432 t435 _ ?side1 ?side2 A46.out).mono ?_); (case side1 => exact Kd.R_V (Kd.R_tight rfl (Kd.R_apart' (HO428.out) (Kd.R_typed HO_9.out) (by decide)))); (case side2 => exact Kd.R_V (Kd.R_tight rfl (Kd.R_apart' (HO431.out) (Kd.R_typed HO_9.out) (by decide)))); rintro e w51 ⟨v433, rfl, ho0, hb⟩; have HO434 := Law.rL (Law.rN (Law.rN (Law.rN (Law.rN (Law.rN (Law.rN (Kd.R_mono (ok' := fun k_ => True) ho0 (fun _ hk_ => trivial)) HO_3) HO_4) HO_8) HO_13) HO428) HO431) HB; replace HO_3 := Law.rE HO_3 ho0 hb; replace HO_4 := Law.rE HO_4 ho0 hb; replace HO_8 := Law.rE HO_8 ho0 hb; replace HO_9 := Law.rB HO_9 hb; replace HO_13 := Law.rE HO_13 ho0 hb; replace HO428 := Law.rE HO428 ho0 hb; replace HO431 := Law.rE HO431 ho0 hb; replace HB := Law.bS HB hb; (try clear hb); (try clear ho0)))
            repeat (go_quiet (first | (go_at_call 49; (with_reducible refine (laws_fCopyNums.calls k3 _ _ t387 t426 _ ?side1 ?side2 A44.out).mono ?_); (case side1 => exact Law.cg ((Kd.R_reads' HO_3.out).2.2)); (case side2 => exact (Kd.R_reads' HO_3.out).2.1); rintro e w47 ⟨v427, rfl, ho0, hb⟩; have HO428 := Law.rL (Law.rN (Law.rN (Law.rN (Law.rN ho0 HO_3) HO_4) HO_8) HO_13) HB; replace HO_3 := Law.rE HO_3 ho0 hb; replace HO_4 := Law.rE HO_4 ho0 hb; replace HO_8 := Law.rE HO_8 ho0 hb; replace HO_9 := Law.rB HO_9 hb; replace HO_13 := Law.rE HO_13 ho0 hb; replace HB := Law.bS HB hb; (try clear hb); (try clear ho0)) | (go_at_call 49; (with_reducible refine (laws_fCopyNums.calls k3 _ _ t388 t429 _ ?side1 ?side2 A45.out).mono ?_); (case side1 => exact Law.cg ((Kd.R_reads' HO_4.out).2.2)); (case side2 => exact (Kd.R_reads' HO_4.out).2.1); rintro e w48 ⟨v430, rfl, ho0, hb⟩; have HO431 := Law.rL (Law.rN (Law.rN (Law.rN (Law.rN (Law.rN ho0 HO_3) HO_4) HO_8) HO_13) HO428) HB; replace HO_3 := Law.rE HO_3 ho0 hb; replace HO_4 := Law.rE HO_4 ho0 hb; replace HO_8 := Law.rE HO_8 ho0 hb; replace HO_9 := Law.rB HO_9 hb; replace HO_13 := Law.rE HO_13 ho0 hb; replace HO428 := Law.rE HO428 ho0 hb; replace HB := Law.bS HB hb; (try clear hb); (try clear ho0); obtain ⟨Ao49, co49, eo49⟩ := Kd.R_slice HO428.out; subst eo49; obtain ⟨Ao50, co50, eo50⟩ := Kd.R_slice HO431.out; subst eo50) | (go_at_call 50; (with_reducible refine (impl_Classify.calls k3 (fun k_ => some k_ = (.slice Ao49 t426.length co49 : Value).ownBlock) _ _ t426 (fun k_ => some k_ = (.slice Ao50 t429.length co50 : Value).ownBlock) _ _ t429 t432 t435 _ ?side1 ?side2 A46.out).mono ?_); (case side1 => exact Kd.R_V (Kd.R_tight rfl (Kd.R_apart' (HO428.out) (Kd.R_typed HO_9.out) (by decide)))); (case side2 => exact Kd.R_V (Kd.R_tight rfl (Kd.R_apart' (HO431.out) (Kd.R_typed HO_9.out) (by decide)))); rintro e w51 ⟨v433, rfl, ho0, hb⟩; have HO434 := Law.rL (Law.rN (Law.rN (Law.rN (Law.rN (Law.rN (Law.rN (Kd.R_mono (ok' := fun k_ => True) ho0 (fun _ hk_ => trivial)) HO_3) HO_4) HO_8) HO_13) HO428) HO431) HB; replace HO_3 := Law.rE HO_3 ho0 hb; replace HO_4 := Law.rE HO_4 ho0 hb; replace HO_8 := Law.rE HO_8 ho0 hb; replace HO_9 := Law.rB HO_9 hb; replace HO_13 := Law.rE HO_13 ho0 hb; replace HO428 := Law.rE HO428 ho0 hb; replace HO431 := Law.rE HO431 ho0 hb; replace HB := Law.bS HB hb; (try clear hb); (try clear ho0))); try go_wp2_with (first | (go_at_call 49; (with_reducible refine (laws_fCopyNums.calls k3 _ _ t387 t426 _ ?side1 ?side2 A44.out).mono ?_); (case side1 => exact Law.cg ((Kd.R_reads' HO_3.out).2.2)); (case side2 => exact (Kd.R_reads' HO_3.out).2.1); rintro e w47 ⟨v427, rfl, ho0, hb⟩; have HO428 := Law.rL (Law.rN (Law.rN (Law.rN (Law.rN ho0 HO_3) HO_4) HO_8) HO_13) HB; replace HO_3 := Law.rE HO_3 ho0 hb; replace HO_4 := Law.rE HO_4 ho0 hb; replace HO_8 := Law.rE HO_8 ho0 hb; replace HO_9 := Law.rB HO_9 hb; replace HO_13 := Law.rE HO_13 ho0 hb; replace HB := Law.bS HB hb; (try clear hb); (try clear ho0)) | (go_at_call 49; (with_reducible refine (laws_fCopyNums.calls k3 _ _ t388 t429 _ ?side1 ?side2 A45.out).mono ?_); (case side1 => exact Law.cg ((Kd.R_reads' HO_4.out).2.2)); (case side2 => exact (Kd.R_reads' HO_4.out).2.1); rintro e w48 ⟨v430, rfl, ho0, hb⟩; have HO431 := Law.rL (Law.rN (Law.rN (Law.rN (Law.rN (Law.rN ho0 HO_3) HO_4) HO_8) HO_13) HO428) HB; replace HO_3 := Law.rE HO_3 ho0 hb; replace HO_4 := Law.rE HO_4 ho0 hb; replace HO_8 := Law.rE HO_8 ho0 hb; replace HO_9 := Law.rB HO_9 hb; replace HO_13 := Law.rE HO_13 ho0 hb; replace HO428 := Law.rE HO428 ho0 hb; replace HB := Law.bS HB hb; (try clear hb); (try clear ho0); obtain ⟨Ao49, co49, eo49⟩ := Kd.R_slice HO428.out; subst eo49; obtain ⟨Ao50, co50, eo50⟩ := Kd.R_slice HO431.out; subst eo50) | (go_at_call 50; (with_reducible refine (impl_Classify.calls k3 (fun k_ => some k_ = (.slice Ao49 t426.length co49 : Value).ownBlock) _ _ t426 (fun k_ => some k_ = (.slice Ao50 t429.length co50 : Value).ownBlock) _ _ t429 t432 t435 _ ?side1 ?side2 A46.out).mono ?_); (case side1 => exact Kd.R_V (Kd.R_tight rfl (Kd.R_apart' (HO428.out) (Kd.R_typed HO_9.out) (by decide)))); (case side2 => exact Kd.R_V (Kd.R_tight rfl (Kd.R_apart' (HO431.out) (Kd.R_typed HO_9.out) (by decide)))); rintro e w51 ⟨v433, rfl, ho0, hb⟩; have HO434 := Law.rL (Law.rN (Law.rN (Law.rN (Law.rN (Law.rN (Law.rN (Kd.R_mono (ok' := fun k_ => True) ho0 (fun _ hk_ => trivial)) HO_3) HO_4) HO_8) HO_13) HO428) HO431) HB; replace HO_3 := Law.rE HO_3 ho0 hb; replace HO_4 := Law.rE HO_4 ho0 hb; replace HO_8 := Law.rE HO_8 ho0 hb; replace HO_9 := Law.rB HO_9 hb; replace HO_13 := Law.rE HO_13 ho0 hb; replace HO428 := Law.rE HO428 ho0 hb; replace HO431 := Law.rE HO431 ho0 hb; replace HB := Law.bS HB hb; (try clear hb); (try clear ho0))))
            go_loopg [18, 19] k3 (fun kq v18 v19 w' => ∃ (x18_4 : Int) (x19_4 : Int), v18 = .int .i64 x18_4 ∧ v19 = .int .i64 x19_4 ∧ Aside0 (laws_FnPlan.l1 kq t387 t388 t395 t406 t409 t432 t435 x18_4 x19_4 = some r) ∧ Aside0 (kq ≤ k3) ∧ Aside0 (Kd.R (Kd.int .i64) 2 w' w.heap.size (fun k_ => some k_ ≠ ((.slice Ao12 t388.length co12) : Value).ownBlock ∧ some k_ ≠ (v407 : Value).ownBlock ∧ some k_ ≠ (v433 : Value).ownBlock) (.slice Ao11 t387.length co11) t387) ∧ Aside0 (Kd.R (Kd.int .i64) 2 w' w.heap.size (fun k_ => some k_ ≠ ((.slice Ao11 t387.length co11) : Value).ownBlock ∧ some k_ ≠ (v407 : Value).ownBlock ∧ some k_ ≠ (v433 : Value).ownBlock) (.slice Ao12 t388.length co12) t388) ∧ Aside0 (Kd.R (Kd.int .i64) 2 w' w.heap.size (fun k_ => some k_ ≠ ((.slice Ao11 t387.length co11) : Value).ownBlock ∧ some k_ ≠ ((.slice Ao12 t388.length co12) : Value).ownBlock ∧ some k_ ≠ (v433 : Value).ownBlock) v407 t406) ∧ Aside0 (Kd.R k89 89 w' w.heap.size (fun _ => True) v410 t409) ∧ Aside0 (Kd.R (Kd.int .i64) 2 w' w.heap.size (fun k_ => some k_ ≠ ((.slice Ao11 t387.length co11) : Value).ownBlock ∧ some k_ ≠ ((.slice Ao12 t388.length co12) : Value).ownBlock ∧ some k_ ≠ (v407 : Value).ownBlock) v433 t432) ∧ Aside0 (Below w.heap.size w w'))
            case atStart => exact ⟨(0), (0), (by first | rfl | (simp; done) | (simp [*]; done)), (by first | rfl | (simp; done) | (simp [*]; done)), H', ⟨Nat.le_refl _⟩, ⟨by (with_reducible repeat (first | apply Kd.R_alloc | apply Kd.R_drewN | apply Kd.R_drew)); exact Kd.R_mono HO_3.out (fun _ hk => ⟨hk.1.1.1.1, ⟨hk.1.1.1.2.1, hk.2⟩⟩)⟩, ⟨by (with_reducible repeat (first | apply Kd.R_alloc | apply Kd.R_drewN | apply Kd.R_drew)); exact Kd.R_mono HO_4.out (fun _ hk => ⟨hk.1.1.1.1, ⟨hk.1.1.1.2.1, hk.2⟩⟩)⟩, ⟨by (with_reducible repeat (first | apply Kd.R_alloc | apply Kd.R_drewN | apply Kd.R_drew)); exact Kd.R_mono HO_8.out (fun _ hk => ⟨hk.1.1.1.1, ⟨hk.1.1.1.2.1, hk.2⟩⟩)⟩, ⟨by (with_reducible repeat (first | apply Kd.R_alloc | apply Kd.R_drewN | apply Kd.R_drew)); exact HO_9.out⟩, ⟨by (with_reducible repeat (first | apply Kd.R_alloc | apply Kd.R_drewN | apply Kd.R_drew)); exact Kd.R_mono HO434.out (fun _ hk => ⟨hk.1.1.1.1.1.2, ⟨hk.1.1.1.1.2, hk.1.1.1.2⟩⟩)⟩, ⟨by repeat (first | (with_reducible first | exact HB.out | apply below_alloc | apply pw_below_drewN | apply below_drew1) | exact HB.out)⟩⟩
            case round => as_aux_lemma =>
             clear H'
             try clear c1
             try clear c2
             try clear c2b0
             try clear c2b1
             try clear p2
             try clear c3
             try clear c4
             try clear p4
             try clear q4
             try clear hx4
             try clear p6
             try clear c8
             try clear c8b0
             try clear c8b1
             try clear c11
             try clear c19
             try clear c19b0
             try clear c19b1
             try clear c20
             try clear c21
             try clear c21b0
             try clear c21b1
             try clear c21b2
             try clear c34
             try clear c34b0
             try clear c34b1
             try clear c35
             try clear c35b0
             try clear c35b1
             try clear c37
             try clear c38
             try clear c38b0
             try clear c39
             try clear c39b0
             try clear c40
             try clear c40b0
             try clear c41
             try clear c41b0
             try clear c41b1
             try clear p42
             try clear q42
             try clear hx42
             try clear hx424_0
             try clear hx425_0
             try clear p2
             try clear p424
             try clear p425
             try clear q424
             try clear q425
             obtain ⟨x18_4, x19_4, rfl, rfl, HA, HK4, HO_3, HO_4, HO_8, HO_9, HO_16, HB⟩ := hrel
             cases gk with
             | zero => exact absurd HA.out (by simp [laws_FnPlan.l1])
             | succ k4 =>
              have H := HA.out
              clear HA
              simp only [laws_FnPlan.l1] at H
              by_cases c52 : x19_4 < (t432.length : Int)
              ·rw [if_pos c52] at H
               have c52b0 : decide (x19_4 < (t432.length : Int)) = true := decide_eq_true c52
               clear c52
               by_cases c53 : 0 ≤ x19_4
               ·rw [if_pos c53] at H
                have c53b0 : decide (0 ≤ x19_4) = true := decide_eq_true c53
                clear c53
                by_cases c54 : (rd t432 x19_4) = 4
                ·rw [if_pos c54] at H
                 have c54b0 : ((rd t432 x19_4) == 4) = true := beq_iff_eq.mpr c54
                 have c54b1 : ((rd t432 x19_4) != 4) = false := bne_eq_false_iff_eq.mpr c54
                 clear c54
                 have H' := Aside0.mk H
                 clear H
                 obtain ⟨Ao55, co55, eo55⟩ := Kd.R_slice HO_16.out
                 subst eo55
                 have p436 : 0 ≤ (x19_4 : Int) := of_decide_eq_true (by first | (with_reducible assumption) | assumption)
                 have q436 : x19_4 < (t432.length : Int) := of_decide_eq_true (by first | (with_reducible assumption) | assumption)
                 obtain ⟨ad436, e436, hx436_0⟩ := Kd.at_int (Kd.R_reads' HO_16.out).2.2 x19_4 p436 q436
                 cases e436
                 replace p436 := eq_true p436
                 replace q436 := eq_true q436
                 go_wp2
                 repeat (go_quiet (fail); try go_wp2)
                 go_roundg k4
                 case measure => have := HJ8.out; have := HJ27.out; have := HK3.out; have := HK4.out; omega
                 case rel => exact ⟨(wrap64 (x18_4 + 1)), (wrap64 (x19_4 + 1)), (by first | rfl | (simp; done) | (simp [*]; done)), (by first | rfl | (simp; done) | (simp [*]; done)), H', ⟨by have := HJ8.out; have := HJ27.out; have := HK3.out; have := HK4.out; omega⟩, ⟨by (with_reducible repeat (first | apply Kd.R_alloc | apply Kd.R_drewN | apply Kd.R_drew)); exact HO_3.out⟩, ⟨by (with_reducible repeat (first | apply Kd.R_alloc | apply Kd.R_drewN | apply Kd.R_drew)); exact HO_4.out⟩, ⟨by (with_reducible repeat (first | apply Kd.R_alloc | apply Kd.R_drewN | apply Kd.R_drew)); exact HO_8.out⟩, ⟨by (with_reducible repeat (first | apply Kd.R_alloc | apply Kd.R_drewN | apply Kd.R_drew)); exact HO_9.out⟩, ⟨by (with_reducible repeat (first | apply Kd.R_alloc | apply Kd.R_drewN | apply Kd.R_drew)); exact HO_16.out⟩, ⟨by repeat (first | (with_reducible first | exact HB.out | apply below_alloc | apply pw_below_drewN | apply below_drew1) | exact HB.out)⟩⟩
                ·rw [if_neg c54] at H
                 have c54b0 : ((rd t432 x19_4) == 4) = false := beq_eq_false_iff_ne.mpr c54
                 have c54b1 : ((rd t432 x19_4) != 4) = true := bne_iff_ne.mpr c54
                 have H' := Aside0.mk H
                 clear H
                 obtain ⟨Ao56, co56, eo56⟩ := Kd.R_slice HO_16.out
                 subst eo56
                 have p436 : 0 ≤ (x19_4 : Int) := of_decide_eq_true (by first | (with_reducible assumption) | assumption)
                 have q436 : x19_4 < (t432.length : Int) := of_decide_eq_true (by first | (with_reducible assumption) | assumption)
                 obtain ⟨ad436, e436, hx436_0⟩ := Kd.at_int (Kd.R_reads' HO_16.out).2.2 x19_4 p436 q436
                 cases e436
                 replace p436 := eq_true p436
                 replace q436 := eq_true q436
                 go_wp2
                 repeat (go_quiet (fail); try go_wp2)
                 go_roundg k4
                 case measure => have := HJ8.out; have := HJ27.out; have := HK3.out; have := HK4.out; omega
                 case rel => exact ⟨(x18_4), (wrap64 (x19_4 + 1)), (by first | rfl | (simp; done) | (simp [*]; done)), (by first | rfl | (simp; done) | (simp [*]; done)), H', ⟨by have := HJ8.out; have := HJ27.out; have := HK3.out; have := HK4.out; omega⟩, ⟨by (with_reducible repeat (first | apply Kd.R_alloc | apply Kd.R_drewN | apply Kd.R_drew)); exact HO_3.out⟩, ⟨by (with_reducible repeat (first | apply Kd.R_alloc | apply Kd.R_drewN | apply Kd.R_drew)); exact HO_4.out⟩, ⟨by (with_reducible repeat (first | apply Kd.R_alloc | apply Kd.R_drewN | apply Kd.R_drew)); exact HO_8.out⟩, ⟨by (with_reducible repeat (first | apply Kd.R_alloc | apply Kd.R_drewN | apply Kd.R_drew)); exact HO_9.out⟩, ⟨by (with_reducible repeat (first | apply Kd.R_alloc | apply Kd.R_drewN | apply Kd.R_drew)); exact HO_16.out⟩, ⟨by repeat (first | (with_reducible first | exact HB.out | apply below_alloc | apply pw_below_drewN | apply below_drew1) | exact HB.out)⟩⟩
               ·rw [if_neg c53] at H
                exact absurd H (by simp)
              ·rw [if_neg c52] at H
               have c52b0 : decide (x19_4 < (t432.length : Int)) = false := decide_eq_false c52
               clear c52
               replace H := Option.bind_eq_some_iff.mp H
               obtain ⟨t437, A570, H⟩ := H
               replace H : (if t435 = 0 then (if (t432.length : Int) = (t387.length : Int) then (laws_FnPlan.j4 k4 t387 t388 t395 t406 t409 x18_4 t437 (decide ((wrap64 (t437 * 20)) < (wrap64 ((t387.length : Int) - 2))))) else (laws_FnPlan.j4 k4 t387 t388 t395 t406 t409 x18_4 t437 true)) else (laws_FnPlan.j4 k4 t387 t388 t395 t406 t409 x18_4 t437 true)) = some r := H
               have A57 := Aside0.mk A570
               clear A570
               have HC58 := Aside0.mk H
               clear H
               obtain ⟨Ao59, co59, eo59⟩ := Kd.R_slice HO_16.out
               subst eo59
               go_upto_region 27 with (first | (go_at_call 51; (with_reducible refine (impl_Reserve.calls (t387.length : Int) t437 _ A57.out).mono ?_); rintro e w' ⟨rfl, ⟨nd, rfl⟩⟩; (try first | exact ⟨rfl, _, World.drewN_drewN _ _ _⟩ | exact ⟨rfl, _, Eq.trans (World.drewN_drewN _ _ _) (congrArg (World.drewN _) (Nat.add_assoc _ _ _))⟩)))
               repeat (go_quiet (first | (go_at_call 51; (with_reducible refine (impl_Reserve.calls (t387.length : Int) t437 _ A57.out).mono ?_); rintro e w' ⟨rfl, ⟨nd, rfl⟩⟩; (try first | exact ⟨rfl, _, World.drewN_drewN _ _ _⟩ | exact ⟨rfl, _, Eq.trans (World.drewN_drewN _ _ _) (congrArg (World.drewN _) (Nat.add_assoc _ _ _))⟩))); go_upto_region 27 with (first | (go_at_call 51; (with_reducible refine (impl_Reserve.calls (t387.length : Int) t437 _ A57.out).mono ?_); rintro e w' ⟨rfl, ⟨nd, rfl⟩⟩; (try first | exact ⟨rfl, _, World.drewN_drewN _ _ _⟩ | exact ⟨rfl, _, Eq.trans (World.drewN_drewN _ _ _) (congrArg (World.drewN _) (Nat.add_assoc _ _ _))⟩))))
               (try simp only [Act.put, List.setIfInBounds_toArray, List.set_cons_zero, List.set_cons_succ])
               go_cut [151] (fun v151 wc => ∃ (kq : Nat) (x151_57 : Bool), v151 = .bool x151_57 ∧ Aside0 (laws_FnPlan.j4 kq t387 t388 t395 t406 t409 x18_4 t437 x151_57 = some r) ∧ Aside0 (kq ≤ k4) ∧ Aside0 (Kd.R (Kd.int .i64) 2 wc w.heap.size (fun k_ => some k_ ≠ ((.slice Ao12 t388.length co12) : Value).ownBlock ∧ some k_ ≠ (v407 : Value).ownBlock) (.slice Ao11 t387.length co11) t387) ∧ Aside0 (Kd.R (Kd.int .i64) 2 wc w.heap.size (fun k_ => some k_ ≠ ((.slice Ao11 t387.length co11) : Value).ownBlock ∧ some k_ ≠ (v407 : Value).ownBlock) (.slice Ao12 t388.length co12) t388) ∧ Aside0 (Kd.R (Kd.int .i64) 2 wc w.heap.size (fun k_ => some k_ ≠ ((.slice Ao11 t387.length co11) : Value).ownBlock ∧ some k_ ≠ ((.slice Ao12 t388.length co12) : Value).ownBlock) v407 t406) ∧ Aside0 (Kd.R k89 89 wc w.heap.size (fun _ => True) v410 t409) ∧ Aside0 (Below w.heap.size w wc))
               case first =>
                have H := HC58.out
                clear HC58
                by_cases c60 : t435 = 0
                ·rw [if_pos c60] at H
                 have c60b0 : (t435 == 0) = true := beq_iff_eq.mpr c60
                 have c60b1 : (t435 != 0) = false := bne_eq_false_iff_eq.mpr c60
                 clear c60
                 (first | rw [c60b0] | (simp only [i64_w, i32_w]; rw [c60b0]) | skip)
                 by_cases c61 : (t432.length : Int) = (t387.length : Int)
                 ·rw [if_pos c61] at H
                  have c61b0 : ((t432.length : Int) == (t387.length : Int)) = true := beq_iff_eq.mpr c61
                  have c61b1 : ((t432.length : Int) != (t387.length : Int)) = false := bne_eq_false_iff_eq.mpr c61
                  have c61b2 : (t432.length == t387.length) = true := by first | simpa using c61 | (simp at c61 ⊢; omega)
                  clear c61
                  have H' := Aside0.mk H
                  clear H
                  go_wp2
                  repeat (go_quiet (fail); try go_wp2)
                  go_meet
                  case rel => exact ⟨_, (decide ((wrap64 (t437 * 20)) < (wrap64 ((t387.length : Int) - 2)))), (by first | rfl | (simp; done) | (simp [*]; done)), H', ⟨by have := HJ8.out; have := HJ27.out; have := HK3.out; have := HK4.out; first | omega | exact Nat.le_refl _⟩, ⟨by (with_reducible repeat (first | apply Kd.R_alloc | apply Kd.R_drewN | apply Kd.R_drew)); exact Kd.R_mono HO_3.out (fun _ hk => ⟨hk.1, hk.2.1⟩)⟩, ⟨by (with_reducible repeat (first | apply Kd.R_alloc | apply Kd.R_drewN | apply Kd.R_drew)); exact Kd.R_mono HO_4.out (fun _ hk => ⟨hk.1, hk.2.1⟩)⟩, ⟨by (with_reducible repeat (first | apply Kd.R_alloc | apply Kd.R_drewN | apply Kd.R_drew)); exact Kd.R_mono HO_8.out (fun _ hk => ⟨hk.1, hk.2.1⟩)⟩, ⟨by (with_reducible repeat (first | apply Kd.R_alloc | apply Kd.R_drewN | apply Kd.R_drew)); exact HO_9.out⟩, ⟨by repeat (first | (with_reducible first | exact HB.out | apply below_alloc | apply pw_below_drewN | apply below_drew1) | exact HB.out)⟩⟩
                 ·rw [if_neg c61] at H
                  have c61b0 : ((t432.length : Int) == (t387.length : Int)) = false := beq_eq_false_iff_ne.mpr c61
                  have c61b1 : ((t432.length : Int) != (t387.length : Int)) = true := bne_iff_ne.mpr c61
                  have c61b2 : (t432.length == t387.length) = false := by first | simpa using c61 | (simp at c61 ⊢; omega)
                  have H' := Aside0.mk H
                  clear H
                  go_wp2
                  repeat (go_quiet (fail); try go_wp2)
                  go_meet
                  case rel => exact ⟨_, (true), (by first | rfl | (simp; done) | (simp [*]; done)), H', ⟨by have := HJ8.out; have := HJ27.out; have := HK3.out; have := HK4.out; first | omega | exact Nat.le_refl _⟩, ⟨by (with_reducible repeat (first | apply Kd.R_alloc | apply Kd.R_drewN | apply Kd.R_drew)); exact Kd.R_mono HO_3.out (fun _ hk => ⟨hk.1, hk.2.1⟩)⟩, ⟨by (with_reducible repeat (first | apply Kd.R_alloc | apply Kd.R_drewN | apply Kd.R_drew)); exact Kd.R_mono HO_4.out (fun _ hk => ⟨hk.1, hk.2.1⟩)⟩, ⟨by (with_reducible repeat (first | apply Kd.R_alloc | apply Kd.R_drewN | apply Kd.R_drew)); exact Kd.R_mono HO_8.out (fun _ hk => ⟨hk.1, hk.2.1⟩)⟩, ⟨by (with_reducible repeat (first | apply Kd.R_alloc | apply Kd.R_drewN | apply Kd.R_drew)); exact HO_9.out⟩, ⟨by repeat (first | (with_reducible first | exact HB.out | apply below_alloc | apply pw_below_drewN | apply below_drew1) | exact HB.out)⟩⟩
                ·rw [if_neg c60] at H
                 have c60b0 : (t435 == 0) = false := beq_eq_false_iff_ne.mpr c60
                 have c60b1 : (t435 != 0) = true := bne_iff_ne.mpr c60
                 (first | rw [c60b0] | (simp only [i64_w, i32_w]; rw [c60b0]) | skip)
                 have H' := Aside0.mk H
                 clear H
                 go_wp2
                 repeat (go_quiet (fail); try go_wp2)
                 go_meet
                 case rel => exact ⟨_, (true), (by first | rfl | (simp; done) | (simp [*]; done)), H', ⟨by have := HJ8.out; have := HJ27.out; have := HK3.out; have := HK4.out; first | omega | exact Nat.le_refl _⟩, ⟨by (with_reducible repeat (first | apply Kd.R_alloc | apply Kd.R_drewN | apply Kd.R_drew)); exact Kd.R_mono HO_3.out (fun _ hk => ⟨hk.1, hk.2.1⟩)⟩, ⟨by (with_reducible repeat (first | apply Kd.R_alloc | apply Kd.R_drewN | apply Kd.R_drew)); exact Kd.R_mono HO_4.out (fun _ hk => ⟨hk.1, hk.2.1⟩)⟩, ⟨by (with_reducible repeat (first | apply Kd.R_alloc | apply Kd.R_drewN | apply Kd.R_drew)); exact Kd.R_mono HO_8.out (fun _ hk => ⟨hk.1, hk.2.1⟩)⟩, ⟨by (with_reducible repeat (first | apply Kd.R_alloc | apply Kd.R_drewN | apply Kd.R_drew)); exact HO_9.out⟩, ⟨by repeat (first | (with_reducible first | exact HB.out | apply below_alloc | apply pw_below_drewN | apply below_drew1) | exact HB.out)⟩⟩
               case rest => as_aux_lemma =>
                clear HC58
                try clear c1
                try clear c2
                try clear c2b0
                try clear c2b1
                try clear p2
                try clear c3
                try clear c4
                try clear p4
                try clear q4
                try clear hx4
                try clear c5
                try clear c6
                try clear p6
                try clear c8
                try clear c8b0
                try clear c8b1
                try clear c11
                try clear c19
                try clear c19b0
                try clear c19b1
                try clear c20
                try clear c21
                try clear c21b0
                try clear c21b1
                try clear c21b2
                try clear c34
                try clear c34b0
                try clear c34b1
                try clear c35
                try clear c35b0
                try clear c35b1
                try clear c37
                try clear c38
                try clear c38b0
                try clear c39
                try clear c39b0
                try clear c40
                try clear c40b0
                try clear c41
                try clear c41b0
                try clear c41b1
                try clear p42
                try clear q42
                try clear hx42
                try clear p43
                try clear q43
                try clear hx43
                try clear c52
                try clear c52b0
                try clear c53
                try clear c53b0
                try clear c54
                try clear c54b0
                try clear c54b1
                try clear c60
                try clear c60b0
                try clear c60b1
                try clear c61
                try clear c61b0
                try clear c61b1
                try clear c61b2
                try clear hx424_0
                try clear hx425_0
                try clear hx436_0
                try clear p2
                try clear p4
                try clear p42
                try clear p424
                try clear p425
                try clear p436
                try clear p6
                try clear q4
                try clear q42
                try clear q424
                try clear q425
                try clear q436
                obtain ⟨kq, x151_57, rfl, HA, HJ57, HO_3, HO_4, HO_8, HO_9, HB⟩ := hcut
                cases kq with
                | zero => exact absurd HA.out (by simp [laws_FnPlan.j4])
                | succ kj57 =>
                 have H := HA.out
                 clear HA
                 simp only [laws_FnPlan.j4] at H
                 by_cases c62 : x151_57 = true
                 ·subst c62
                  have H1 : (some false) = some r := by rw [if_pos rfl] at H; exact H
                  clear H
                  have H := H1
                  clear H1
                  obtain rfl := Option.some.inj H
                  go_wp2
                  repeat (go_quiet (fail); try go_wp2)
                  go_ret
                  exact ⟨by first | rfl | (simp [errW_none, errW_some] <;> rfl) | (simp [*, errW_none, errW_some] <;> rfl), by repeat (first | (with_reducible first | exact HB.out | apply below_alloc | apply pw_below_drewN | apply below_drew1) | exact HB.out)⟩
                 ·replace c62 := Bool.eq_false_iff.mpr c62
                  subst c62
                  have H1 : (if t395 = 7 then (some (decide (x18_4 < t437))) else ((laws_fCopyNums.f kj57 t387).bind fun t438 => (laws_FnPlan.l2 kj57 t387 t388 t406 t409 t438 0))) = some r := by rw [if_neg (show ¬ (false = true) by decide)] at H; exact H
                  clear H
                  have H := H1
                  clear H1
                  by_cases c63 : t395 = 7
                  ·rw [if_pos c63] at H
                   have c63b0 : (t395 == 7) = true := beq_iff_eq.mpr c63
                   have c63b1 : (t395 != 7) = false := bne_eq_false_iff_eq.mpr c63
                   clear c63
                   obtain rfl := Option.some.inj H
                   go_wp2
                   repeat (go_quiet (fail); try go_wp2)
                   go_ret
                   exact ⟨by first | rfl | (simp [errW_none, errW_some] <;> rfl) | (simp [*, errW_none, errW_some] <;> rfl), by repeat (first | (with_reducible first | exact HB.out | apply below_alloc | apply pw_below_drewN | apply below_drew1) | exact HB.out)⟩
                  ·rw [if_neg c63] at H
                   have c63b0 : (t395 == 7) = false := beq_eq_false_iff_ne.mpr c63
                   have c63b1 : (t395 != 7) = true := bne_iff_ne.mpr c63
                   replace H := Option.bind_eq_some_iff.mp H
                   obtain ⟨t438, A640, H⟩ := H
                   replace H : (laws_FnPlan.l2 kj57 t387 t388 t406 t409 t438 0) = some r := H
                   have A64 := Aside0.mk A640
                   clear A640
                   have H' := Aside0.mk H
                   clear H
                   go_wp2_with (first | (go_at_call 49; (with_reducible refine (laws_fCopyNums.calls kj57 _ _ t387 t438 _ ?side1 ?side2 A64.out).mono ?_); (case side1 => exact Law.cg ((Kd.R_reads' HO_3.out).2.2)); (case side2 => exact (Kd.R_reads' HO_3.out).2.1); rintro e w65 ⟨v439, rfl, ho0, hb⟩; have HO440 := Law.rL (Law.rN (Law.rN (Law.rN ho0 HO_3) HO_4) HO_8) HB; replace HO_3 := Law.rE HO_3 ho0 hb; replace HO_4 := Law.rE HO_4 ho0 hb; replace HO_8 := Law.rE HO_8 ho0 hb; replace HO_9 := Law.rB HO_9 hb; replace HB := Law.bS HB hb; (try clear hb); (try clear ho0)))
                   repeat (go_quiet (first | (go_at_call 49; (with_reducible refine (laws_fCopyNums.calls kj57 _ _ t387 t438 _ ?side1 ?side2 A64.out).mono ?_); (case side1 => exact Law.cg ((Kd.R_reads' HO_3.out).2.2)); (case side2 => exact (Kd.R_reads' HO_3.out).2.1); rintro e w65 ⟨v439, rfl, ho0, hb⟩; have HO440 := Law.rL (Law.rN (Law.rN (Law.rN ho0 HO_3) HO_4) HO_8) HB; replace HO_3 := Law.rE HO_3 ho0 hb; replace HO_4 := Law.rE HO_4 ho0 hb; replace HO_8 := Law.rE HO_8 ho0 hb; replace HO_9 := Law.rB HO_9 hb; replace HB := Law.bS HB hb; (try clear hb); (try clear ho0))); try go_wp2_with (first | (go_at_call 49; (with_reducible refine (laws_fCopyNums.calls kj57 _ _ t387 t438 _ ?side1 ?side2 A64.out).mono ?_); (case side1 => exact Law.cg ((Kd.R_reads' HO_3.out).2.2)); (case side2 => exact (Kd.R_reads' HO_3.out).2.1); rintro e w65 ⟨v439, rfl, ho0, hb⟩; have HO440 := Law.rL (Law.rN (Law.rN (Law.rN ho0 HO_3) HO_4) HO_8) HB; replace HO_3 := Law.rE HO_3 ho0 hb; replace HO_4 := Law.rE HO_4 ho0 hb; replace HO_8 := Law.rE HO_8 ho0 hb; replace HO_9 := Law.rB HO_9 hb; replace HB := Law.bS HB hb; (try clear hb); (try clear ho0))))
                   go_loopg [22] kj57 (fun kq v22 w' => ∃ (x21_6 : List Int) (x22_6 : Int), v22 = .int .i64 x22_6 ∧ Aside0 (laws_FnPlan.l2 kq t387 t388 t406 t409 x21_6 x22_6 = some r) ∧ Aside0 (kq ≤ kj57) ∧ Aside0 (Kd.R (Kd.int .i64) 2 w' w.heap.size (fun k_ => some k_ ≠ ((.slice Ao12 t388.length co12) : Value).ownBlock ∧ some k_ ≠ (v407 : Value).ownBlock ∧ some k_ ≠ (v439 : Value).ownBlock) (.slice Ao11 t387.length co11) t387) ∧ Aside0 (Kd.R (Kd.int .i64) 2 w' w.heap.size (fun k_ => some k_ ≠ ((.slice Ao11 t387.length co11) : Value).ownBlock ∧ some k_ ≠ (v407 : Value).ownBlock ∧ some k_ ≠ (v439 : Value).ownBlock) (.slice Ao12 t388.length co12) t388) ∧ Aside0 (Kd.R (Kd.int .i64) 2 w' w.heap.size (fun k_ => some k_ ≠ ((.slice Ao11 t387.length co11) : Value).ownBlock ∧ some k_ ≠ ((.slice Ao12 t388.length co12) : Value).ownBlock ∧ some k_ ≠ (v439 : Value).ownBlock) v407 t406) ∧ Aside0 (Kd.R k89 89 w' w.heap.size (fun _ => True) v410 t409) ∧ Aside0 (Kd.R (Kd.int .i64) 2 w' w.heap.size (fun k_ => some k_ ≠ ((.slice Ao11 t387.length co11) : Value).ownBlock ∧ some k_ ≠ ((.slice Ao12 t388.length co12) : Value).ownBlock ∧ some k_ ≠ (v407 : Value).ownBlock) v439 x21_6) ∧ Aside0 (Below w.heap.size w w'))
                   case atStart => exact ⟨(t438), (0), (by first | rfl | (simp; done) | (simp [*]; done)), H', ⟨Nat.le_refl _⟩, ⟨by (with_reducible repeat (first | apply Kd.R_alloc | apply Kd.R_drewN | apply Kd.R_drew)); exact Kd.R_mono HO_3.out (fun _ hk => ⟨hk.1.1, ⟨hk.1.2, hk.2⟩⟩)⟩, ⟨by (with_reducible repeat (first | apply Kd.R_alloc | apply Kd.R_drewN | apply Kd.R_drew)); exact Kd.R_mono HO_4.out (fun _ hk => ⟨hk.1.1, ⟨hk.1.2, hk.2⟩⟩)⟩, ⟨by (with_reducible repeat (first | apply Kd.R_alloc | apply Kd.R_drewN | apply Kd.R_drew)); exact Kd.R_mono HO_8.out (fun _ hk => ⟨hk.1.1, ⟨hk.1.2, hk.2⟩⟩)⟩, ⟨by (with_reducible repeat (first | apply Kd.R_alloc | apply Kd.R_drewN | apply Kd.R_drew)); exact HO_9.out⟩, ⟨by (with_reducible repeat (first | apply Kd.R_alloc | apply Kd.R_drewN | apply Kd.R_drew)); exact Kd.R_mono HO440.out (fun _ hk => ⟨hk.1.1.2, ⟨hk.1.2, hk.2⟩⟩)⟩, ⟨by repeat (first | (with_reducible first | exact HB.out | apply below_alloc | apply pw_below_drewN | apply below_drew1) | exact HB.out)⟩⟩
                   case round => as_aux_lemma =>
                    clear H'
                    try clear c1
                    try clear c2
                    try clear c2b0
                    try clear c2b1
                    try clear p2
                    try clear c3
                    try clear c4
                    try clear p4
                    try clear q4
                    try clear hx4
                    try clear c5
                    try clear c6
                    try clear p6
                    try clear c8
                    try clear c8b0
                    try clear c8b1
                    try clear c11
                    try clear c19
                    try clear c19b0
                    try clear c19b1
                    try clear c20
                    try clear c21
                    try clear c21b0
                    try clear c21b1
                    try clear c21b2
                    try clear c34
                    try clear c34b0
                    try clear c34b1
                    try clear c35
                    try clear c35b0
                    try clear c35b1
                    try clear c37
                    try clear c38
                    try clear c38b0
                    try clear c39
                    try clear c39b0
                    try clear c40
                    try clear c40b0
                    try clear c41
                    try clear c41b0
                    try clear c41b1
                    try clear p42
                    try clear q42
                    try clear hx42
                    try clear p43
                    try clear q43
                    try clear hx43
                    try clear c52
                    try clear c52b0
                    try clear c53
                    try clear c53b0
                    try clear c54
                    try clear c54b0
                    try clear c54b1
                    try clear c60
                    try clear c60b0
                    try clear c60b1
                    try clear c61
                    try clear c61b0
                    try clear c61b1
                    try clear c61b2
                    try clear c62
                    try clear c63
                    try clear c63b0
                    try clear c63b1
                    try clear p64
                    try clear hx424_0
                    try clear hx425_0
                    try clear hx436_0
                    try clear p2
                    try clear p4
                    try clear p42
                    try clear p424
                    try clear p425
                    try clear p43
                    try clear p436
                    try clear p6
                    try clear q4
                    try clear q42
                    try clear q424
                    try clear q425
                    try clear q43
                    try clear q436
                    obtain ⟨x21_6, x22_6, rfl, HA, HK6, HO_3, HO_4, HO_8, HO_9, HO_21, HB⟩ := hrel
                    cases gk with
                    | zero => exact absurd HA.out (by simp [laws_FnPlan.l2])
                    | succ k6 =>
                     have H := HA.out
                     clear HA
                     simp only [laws_FnPlan.l2] at H
                     by_cases c66 : x22_6 < (t406.length : Int)
                     ·rw [if_pos c66] at H
                      have c66b0 : decide (x22_6 < (t406.length : Int)) = true := decide_eq_true c66
                      clear c66
                      replace H := Option.bind_eq_some_iff.mp H
                      obtain ⟨t449, A670, H⟩ := H
                      replace H : ((impl_RunsOf.f k6 t449).bind fun bt452 => (if x22_6 > 0 then (laws_FnPlan.j6 k6 t387 t388 t406 t409 x21_6 x22_6 (decide ((bt452.1.length : Int) ≤ (wrap64 (20 * x22_6))))) else (laws_FnPlan.j6 k6 t387 t388 t406 t409 x21_6 x22_6 false))) = some r := H
                      have A67 := Aside0.mk A670
                      clear A670
                      replace H := Option.bind_eq_some_iff.mp H
                      obtain ⟨⟨t452, t455⟩, A680, H⟩ := H
                      replace H : (if x22_6 > 0 then (laws_FnPlan.j6 k6 t387 t388 t406 t409 x21_6 x22_6 (decide ((t452.length : Int) ≤ (wrap64 (20 * x22_6))))) else (laws_FnPlan.j6 k6 t387 t388 t406 t409 x21_6 x22_6 false)) = some r := H
                      have A68 := Aside0.mk A680
                      clear A680
                      have HC69 := Aside0.mk H
                      clear H
                      obtain ⟨Ao70, co70, eo70⟩ := Kd.R_slice HO_8.out
                      subst eo70
                      obtain ⟨Ao71, co71, eo71⟩ := Kd.R_slice HO_21.out
                      subst eo71
                      go_upto_region 36 with (first | (go_at_call 49; (with_reducible refine (laws_fCopyNums.calls k6 _ _ x21_6 t449 _ ?side1 ?side2 A67.out).mono ?_); (case side1 => exact Law.cg ((Kd.R_reads' HO_21.out).2.2)); (case side2 => exact (Kd.R_reads' HO_21.out).2.1); rintro e w72 ⟨v450, rfl, ho0, hb⟩; have HO451 := Law.rL (Law.rN (Law.rN (Law.rN (Law.rN ho0 HO_3) HO_4) HO_8) HO_21) HB; replace HO_3 := Law.rE HO_3 ho0 hb; replace HO_4 := Law.rE HO_4 ho0 hb; replace HO_8 := Law.rE HO_8 ho0 hb; replace HO_9 := Law.rB HO_9 hb; replace HO_21 := Law.rE HO_21 ho0 hb; replace HB := Law.bS HB hb; (try clear hb); (try clear ho0); obtain ⟨Ao73, co73, eo73⟩ := Kd.R_slice HO451.out; subst eo73) | (go_at_call 24; (with_reducible refine (impl_RunsOf.calls k6 (fun k_ => some k_ = (.slice Ao73 t449.length co73 : Value).ownBlock) _ _ t449 t452 t455 _ ?side1 A68.out).mono ?_); (case side1 => exact Kd.R_V (Kd.R_tight rfl (Kd.R_apart' (HO451.out) (Kd.R_typed HO_9.out) (by decide)))); rintro e w74 ⟨v453, rfl, ho0, hb⟩; have HO454 := Law.rL (Law.rN (Kd.R_mono (ok' := fun k_ => True) ho0 (fun _ hk_ => trivial)) HO_9) HB; replace HO_3 := Law.rB HO_3 hb; replace HO_4 := Law.rB HO_4 hb; replace HO_8 := Law.rB HO_8 hb; replace HO_9 := Law.rE HO_9 ho0 hb; replace HO_21 := Law.rB HO_21 hb; replace HO451 := Law.rB HO451 hb; replace HB := Law.bS HB hb; (try clear hb); (try clear ho0)))
                      repeat (go_quiet (first | (go_at_call 49; (with_reducible refine (laws_fCopyNums.calls k6 _ _ x21_6 t449 _ ?side1 ?side2 A67.out).mono ?_); (case side1 => exact Law.cg ((Kd.R_reads' HO_21.out).2.2)); (case side2 => exact (Kd.R_reads' HO_21.out).2.1); rintro e w72 ⟨v450, rfl, ho0, hb⟩; have HO451 := Law.rL (Law.rN (Law.rN (Law.rN (Law.rN ho0 HO_3) HO_4) HO_8) HO_21) HB; replace HO_3 := Law.rE HO_3 ho0 hb; replace HO_4 := Law.rE HO_4 ho0 hb; replace HO_8 := Law.rE HO_8 ho0 hb; replace HO_9 := Law.rB HO_9 hb; replace HO_21 := Law.rE HO_21 ho0 hb; replace HB := Law.bS HB hb; (try clear hb); (try clear ho0); obtain ⟨Ao73, co73, eo73⟩ := Kd.R_slice HO451.out; subst eo73) | (go_at_call 24; (with_reducible refine (impl_RunsOf.calls k6 (fun k_ => some k_ = (.slice Ao73 t449.length co73 : Value).ownBlock) _ _ t449 t452 t455 _ ?side1 A68.out).mono ?_); (case side1 => exact Kd.R_V (Kd.R_tight rfl (Kd.R_apart' (HO451.out) (Kd.R_typed HO_9.out) (by decide)))); rintro e w74 ⟨v453, rfl, ho0, hb⟩; have HO454 := Law.rL (Law.rN (Kd.R_mono (ok' := fun k_ => True) ho0 (fun _ hk_ => trivial)) HO_9) HB; replace HO_3 := Law.rB HO_3 hb; replace HO_4 := Law.rB HO_4 hb; replace HO_8 := Law.rB HO_8 hb; replace HO_9 := Law.rE HO_9 ho0 hb; replace HO_21 := Law.rB HO_21 hb; replace HO451 := Law.rB HO451 hb; replace HB := Law.bS HB hb; (try clear hb); (try clear ho0))); go_upto_region 36 with (first | (go_at_call 49; (with_reducible refine (laws_fCopyNums.calls k6 _ _ x21_6 t449 _ ?side1 ?side2 A67.out).mono ?_); (case side1 => exact Law.cg ((Kd.R_reads' HO_21.out).2.2)); (case side2 => exact (Kd.R_reads' HO_21.out).2.1); rintro e w72 ⟨v450, rfl, ho0, hb⟩; have HO451 := Law.rL (Law.rN (Law.rN (Law.rN (Law.rN ho0 HO_3) HO_4) HO_8) HO_21) HB; replace HO_3 := Law.rE HO_3 ho0 hb; replace HO_4 := Law.rE HO_4 ho0 hb; replace HO_8 := Law.rE HO_8 ho0 hb; replace HO_9 := Law.rB HO_9 hb; replace HO_21 := Law.rE HO_21 ho0 hb; replace HB := Law.bS HB hb; (try clear hb); (try clear ho0); obtain ⟨Ao73, co73, eo73⟩ := Kd.R_slice HO451.out; subst eo73) | (go_at_call 24; (with_reducible refine (impl_RunsOf.calls k6 (fun k_ => some k_ = (.slice Ao73 t449.length co73 : Value).ownBlock) _ _ t449 t452 t455 _ ?side1 A68.out).mono ?_); (case side1 => exact Kd.R_V (Kd.R_tight rfl (Kd.R_apart' (HO451.out) (Kd.R_typed HO_9.out) (by decide)))); rintro e w74 ⟨v453, rfl, ho0, hb⟩; have HO454 := Law.rL (Law.rN (Kd.R_mono (ok' := fun k_ => True) ho0 (fun _ hk_ => trivial)) HO_9) HB; replace HO_3 := Law.rB HO_3 hb; replace HO_4 := Law.rB HO_4 hb; replace HO_8 := Law.rB HO_8 hb; replace HO_9 := Law.rE HO_9 ho0 hb; replace HO_21 := Law.rB HO_21 hb; replace HO451 := Law.rB HO451 hb; replace HB := Law.bS HB hb; (try clear hb); (try clear ho0))))
                      (try simp only [Act.put, List.setIfInBounds_toArray, List.set_cons_zero, List.set_cons_succ])
                      go_cut [179] (fun v179 wc => ∃ (kq : Nat) (x179_68 : Bool), v179 = .bool x179_68 ∧ Aside0 (laws_FnPlan.j6 kq t387 t388 t406 t409 x21_6 x22_6 x179_68 = some r) ∧ Aside0 (kq ≤ k6) ∧ Aside0 (Kd.R (Kd.int .i64) 2 wc w.heap.size (fun k_ => some k_ ≠ ((.slice Ao12 t388.length co12) : Value).ownBlock ∧ some k_ ≠ ((.slice Ao70 t406.length co70) : Value).ownBlock ∧ some k_ ≠ ((.slice Ao71 x21_6.length co71) : Value).ownBlock) (.slice Ao11 t387.length co11) t387) ∧ Aside0 (Kd.R (Kd.int .i64) 2 wc w.heap.size (fun k_ => some k_ ≠ ((.slice Ao11 t387.length co11) : Value).ownBlock ∧ some k_ ≠ ((.slice Ao70 t406.length co70) : Value).ownBlock ∧ some k_ ≠ ((.slice Ao71 x21_6.length co71) : Value).ownBlock) (.slice Ao12 t388.length co12) t388) ∧ Aside0 (Kd.R (Kd.int .i64) 2 wc w.heap.size (fun k_ => some k_ ≠ ((.slice Ao11 t387.length co11) : Value).ownBlock ∧ some k_ ≠ ((.slice Ao12 t388.length co12) : Value).ownBlock ∧ some k_ ≠ ((.slice Ao71 x21_6.length co71) : Value).ownBlock) (.slice Ao70 t406.length co70) t406) ∧ Aside0 (Kd.R k89 89 wc w.heap.size (fun _ => True) v410 t409) ∧ Aside0 (Kd.R (Kd.int .i64) 2 wc w.heap.size (fun k_ => some k_ ≠ ((.slice Ao11 t387.length co11) : Value).ownBlock ∧ some k_ ≠ ((.slice Ao12 t388.length co12) : Value).ownBlock ∧ some k_ ≠ ((.slice Ao70 t406.length co70) : Value).ownBlock) (.slice Ao71 x21_6.length co71) x21_6) ∧ Aside0 (Below w.heap.size w wc))
                      case first =>
                       have H := HC69.out
                       clear HC69
                       by_cases c75 : x22_6 > 0
                       ·rw [if_pos c75] at H
                        have c75b0 : decide (0 < x22_6) = true := decide_eq_true c75
                        clear c75
                        (first | rw [c75b0] | (simp only [i64_w, i32_w]; rw [c75b0]) | skip)
                        have H' := Aside0.mk H
                        clear H
                        obtain ⟨Ao76, co76, eo76⟩ := Kd.R_slice HO454.out
                        subst eo76
                        go_wp2
                        repeat (go_quiet (fail); try go_wp2)
                        go_meet
                        case rel => exact ⟨_, (decide ((t452.length : Int) ≤ (wrap64 (20 * x22_6)))), (by first | rfl | (simp; done) | (simp [*]; done)), H', ⟨by have := HJ8.out; have := HJ27.out; have := HK3.out; have := HK4.out; have := HJ57.out; have := HK6.out; first | omega | exact Nat.le_refl _⟩, ⟨by (with_reducible repeat (first | apply Kd.R_alloc | apply Kd.R_drewN | apply Kd.R_drew)); exact Kd.R_mono HO_3.out (fun _ hk => ⟨hk.1.1, ⟨hk.1.2.1, hk.1.2.2⟩⟩)⟩, ⟨by (with_reducible repeat (first | apply Kd.R_alloc | apply Kd.R_drewN | apply Kd.R_drew)); exact Kd.R_mono HO_4.out (fun _ hk => ⟨hk.1.1, ⟨hk.1.2.1, hk.1.2.2⟩⟩)⟩, ⟨by (with_reducible repeat (first | apply Kd.R_alloc | apply Kd.R_drewN | apply Kd.R_drew)); exact Kd.R_mono HO_8.out (fun _ hk => ⟨hk.1.1, ⟨hk.1.2.1, hk.1.2.2⟩⟩)⟩, ⟨by (with_reducible repeat (first | apply Kd.R_alloc | apply Kd.R_drewN | apply Kd.R_drew)); exact Kd.R_mono HO_9.out (fun _ hk => trivial)⟩, ⟨by (with_reducible repeat (first | apply Kd.R_alloc | apply Kd.R_drewN | apply Kd.R_drew)); exact Kd.R_mono HO_21.out (fun _ hk => ⟨hk.1.1, ⟨hk.1.2.1, hk.1.2.2⟩⟩)⟩, ⟨by repeat (first | (with_reducible first | exact HB.out | apply below_alloc | apply pw_below_drewN | apply below_drew1) | exact HB.out)⟩⟩
                       ·rw [if_neg c75] at H
                        have c75b0 : decide (0 < x22_6) = false := decide_eq_false c75
                        clear c75
                        (first | rw [c75b0] | (simp only [i64_w, i32_w]; rw [c75b0]) | skip)
                        have H' := Aside0.mk H
                        clear H
                        go_wp2
                        repeat (go_quiet (fail); try go_wp2)
                        go_meet
                        case rel => exact ⟨_, (false), (by first | rfl | (simp; done) | (simp [*]; done)), H', ⟨by have := HJ8.out; have := HJ27.out; have := HK3.out; have := HK4.out; have := HJ57.out; have := HK6.out; first | omega | exact Nat.le_refl _⟩, ⟨by (with_reducible repeat (first | apply Kd.R_alloc | apply Kd.R_drewN | apply Kd.R_drew)); exact Kd.R_mono HO_3.out (fun _ hk => ⟨hk.1.1, ⟨hk.1.2.1, hk.1.2.2⟩⟩)⟩, ⟨by (with_reducible repeat (first | apply Kd.R_alloc | apply Kd.R_drewN | apply Kd.R_drew)); exact Kd.R_mono HO_4.out (fun _ hk => ⟨hk.1.1, ⟨hk.1.2.1, hk.1.2.2⟩⟩)⟩, ⟨by (with_reducible repeat (first | apply Kd.R_alloc | apply Kd.R_drewN | apply Kd.R_drew)); exact Kd.R_mono HO_8.out (fun _ hk => ⟨hk.1.1, ⟨hk.1.2.1, hk.1.2.2⟩⟩)⟩, ⟨by (with_reducible repeat (first | apply Kd.R_alloc | apply Kd.R_drewN | apply Kd.R_drew)); exact Kd.R_mono HO_9.out (fun _ hk => trivial)⟩, ⟨by (with_reducible repeat (first | apply Kd.R_alloc | apply Kd.R_drewN | apply Kd.R_drew)); exact Kd.R_mono HO_21.out (fun _ hk => ⟨hk.1.1, ⟨hk.1.2.1, hk.1.2.2⟩⟩)⟩, ⟨by repeat (first | (with_reducible first | exact HB.out | apply below_alloc | apply pw_below_drewN | apply below_drew1) | exact HB.out)⟩⟩
                      case rest => as_aux_lemma =>
                       clear HC69
                       try clear c1
                       try clear c2
                       try clear c2b0
                       try clear c2b1
                       try clear p2
                       try clear c3
                       try clear c4
                       try clear p4
                       try clear q4
                       try clear hx4
                       try clear c5
                       try clear c6
                       try clear p6
                       try clear c7
                       try clear c8
                       try clear c8b0
                       try clear c8b1
                       try clear c11
                       try clear c19
                       try clear c19b0
                       try clear c19b1
                       try clear c20
                       try clear c21
                       try clear c21b0
                       try clear c21b1
                       try clear c21b2
                       try clear c34
                       try clear c34b0
                       try clear c34b1
                       try clear c35
                       try clear c35b0
                       try clear c35b1
                       try clear c37
                       try clear c38
                       try clear c38b0
                       try clear c39
                       try clear c39b0
                       try clear c40
                       try clear c40b0
                       try clear c41
                       try clear c41b0
                       try clear c41b1
                       try clear p42
                       try clear q42
                       try clear hx42
                       try clear p43
                       try clear q43
                       try clear hx43
                       try clear c52
                       try clear c52b0
                       try clear c53
                       try clear c53b0
                       try clear c54
                       try clear c54b0
                       try clear c54b1
                       try clear c60
                       try clear c60b0
                       try clear c60b1
                       try clear c61
                       try clear c61b0
                       try clear c61b1
                       try clear c61b2
                       try clear c62
                       try clear c63
                       try clear c63b0
                       try clear c63b1
                       try clear p64
                       try clear c66
                       try clear c66b0
                       try clear c75
                       try clear c75b0
                       try clear hx424_0
                       try clear hx425_0
                       try clear hx436_0
                       try clear p2
                       try clear p4
                       try clear p42
                       try clear p424
                       try clear p425
                       try clear p43
                       try clear p436
                       try clear p6
                       try clear p64
                       try clear q4
                       try clear q42
                       try clear q424
                       try clear q425
                       try clear q43
                       try clear q436
                       obtain ⟨kq, x179_68, rfl, HA, HJ68, HO_3, HO_4, HO_8, HO_9, HO_21, HB⟩ := hcut
                       cases kq with
                       | zero => exact absurd HA.out (by simp [laws_FnPlan.j6])
                       | succ kj68 =>
                        have H := HA.out
                        clear HA
                        simp only [laws_FnPlan.j6] at H
                        by_cases c77 : x179_68 = true
                        ·subst c77
                         have H1 : (some false) = some r := by rw [if_pos rfl] at H; exact H
                         clear H
                         have H := H1
                         clear H1
                         obtain rfl := Option.some.inj H
                         go_wp2
                         repeat (go_quiet (fail); try go_wp2)
                         go_ret
                         exact ⟨by first | rfl | (simp [errW_none, errW_some] <;> rfl) | (simp [*, errW_none, errW_some] <;> rfl), by repeat (first | (with_reducible first | exact HB.out | apply below_alloc | apply pw_below_drewN | apply below_drew1) | exact HB.out)⟩
                        ·replace c77 := Bool.eq_false_iff.mpr c77
                         subst c77
                         have H1 : ((laws_fCopyNums.f kj68 x21_6).bind fun t456 => ((laws_fCopyNums.f kj68 t388).bind fun t459 => ((impl_LowestFree.f kj68 t456 t459).bind fun bt462 => (if bt462.2 = 0 then (if 0 ≤ x22_6 then (if x22_6 < (t406.length : Int) then (if bt462.1 = (rd t406 x22_6) then (if bt462.1 < 2 then (some false) else (if bt462.1 ≥ (x21_6.length : Int) then (some false) else (if 0 ≤ bt462.1 then (if bt462.1 < (t387.length : Int) then (if (rd t387 bt462.1) = 0 then (if bt462.1 < (t388.length : Int) then (if (rd t388 bt462.1) = 0 then (if bt462.1 < (x21_6.length : Int) then (laws_FnPlan.l2 kj68 t387 t388 t406 t409 (x21_6.set (bt462.1 : Int).toNat 1) (wrap64 (x22_6 + 1))) else (none)) else (some false)) else (none)) else (some false)) else (none)) else (none)))) else (some false)) else (none)) else (none)) else (some false))))) = some r := by rw [if_neg (show ¬ (false = true) by decide)] at H; exact H
                         clear H
                         have H := H1
                         clear H1
                         replace H := Option.bind_eq_some_iff.mp H
                         obtain ⟨t456, A780, H⟩ := H
                         replace H : ((laws_fCopyNums.f kj68 t388).bind fun t459 => ((impl_LowestFree.f kj68 t456 t459).bind fun bt462 => (if bt462.2 = 0 then (if 0 ≤ x22_6 then (if x22_6 < (t406.length : Int) then (if bt462.1 = (rd t406 x22_6) then (if bt462.1 < 2 then (some false) else (if bt462.1 ≥ (x21_6.length : Int) then (some false) else (if 0 ≤ bt462.1 then (if bt462.1 < (t387.length : Int) then (if (rd t387 bt462.1) = 0 then (if bt462.1 < (t388.length : Int) then (if (rd t388 bt462.1) = 0 then (if bt462.1 < (x21_6.length : Int) then (laws_FnPlan.l2 kj68 t387 t388 t406 t409 (x21_6.set (bt462.1 : Int).toNat 1) (wrap64 (x22_6 + 1))) else (none)) else (some false)) else (none)) else (some false)) else (none)) else (none)))) else (some false)) else (none)) else (none)) else (some false)))) = some r := H
                         have A78 := Aside0.mk A780
                         clear A780
                         replace H := Option.bind_eq_some_iff.mp H
                         obtain ⟨t459, A790, H⟩ := H
                         replace H : ((impl_LowestFree.f kj68 t456 t459).bind fun bt462 => (if bt462.2 = 0 then (if 0 ≤ x22_6 then (if x22_6 < (t406.length : Int) then (if bt462.1 = (rd t406 x22_6) then (if bt462.1 < 2 then (some false) else (if bt462.1 ≥ (x21_6.length : Int) then (some false) else (if 0 ≤ bt462.1 then (if bt462.1 < (t387.length : Int) then (if (rd t387 bt462.1) = 0 then (if bt462.1 < (t388.length : Int) then (if (rd t388 bt462.1) = 0 then (if bt462.1 < (x21_6.length : Int) then (laws_FnPlan.l2 kj68 t387 t388 t406 t409 (x21_6.set (bt462.1 : Int).toNat 1) (wrap64 (x22_6 + 1))) else (none)) else (some false)) else (none)) else (some false)) else (none)) else (none)))) else (some false)) else (none)) else (none)) else (some false))) = some r := H
                         have A79 := Aside0.mk A790
                         clear A790
                         replace H := Option.bind_eq_some_iff.mp H
                         obtain ⟨⟨t462, t463⟩, A800, H⟩ := H
                         replace H : (if t463 = 0 then (if 0 ≤ x22_6 then (if x22_6 < (t406.length : Int) then (if t462 = (rd t406 x22_6) then (if t462 < 2 then (some false) else (if t462 ≥ (x21_6.length : Int) then (some false) else (if 0 ≤ t462 then (if t462 < (t387.length : Int) then (if (rd t387 t462) = 0 then (if t462 < (t388.length : Int) then (if (rd t388 t462) = 0 then (if t462 < (x21_6.length : Int) then (laws_FnPlan.l2 kj68 t387 t388 t406 t409 (x21_6.set (t462 : Int).toNat 1) (wrap64 (x22_6 + 1))) else (none)) else (some false)) else (none)) else (some false)) else (none)) else (none)))) else (some false)) else (none)) else (none)) else (some false)) = some r := H
                         have A80 := Aside0.mk A800
                         clear A800
                         by_cases c81 : t463 = 0
                         ·rw [if_pos c81] at H
                          have c81b0 : (t463 == 0) = true := beq_iff_eq.mpr c81
                          have c81b1 : (t463 != 0) = false := bne_eq_false_iff_eq.mpr c81
                          clear c81
                          by_cases c82 : 0 ≤ x22_6
                          ·rw [if_pos c82] at H
                           have c82b0 : decide (0 ≤ x22_6) = true := decide_eq_true c82
                           clear c82
                           by_cases c83 : x22_6 < (t406.length : Int)
                           ·rw [if_pos c83] at H
                            have c83b0 : decide (x22_6 < (t406.length : Int)) = true := decide_eq_true c83
                            clear c83
                            by_cases c84 : t462 = (rd t406 x22_6)
                            ·rw [if_pos c84] at H
                             have c84b0 : (t462 == (rd t406 x22_6)) = true := beq_iff_eq.mpr c84
                             have c84b1 : (t462 != (rd t406 x22_6)) = false := bne_eq_false_iff_eq.mpr c84
                             clear c84
                             by_cases c85 : t462 < 2
                             ·rw [if_pos c85] at H
                              have c85b0 : decide (t462 < 2) = true := decide_eq_true c85
                              clear c85
                              obtain rfl := Option.some.inj H
                              go_wp2_with (first | (go_at_call 49; (with_reducible refine (laws_fCopyNums.calls kj68 _ _ x21_6 t456 _ ?side1 ?side2 A78.out).mono ?_); (case side1 => exact Law.cg ((Kd.R_reads' HO_21.out).2.2)); (case side2 => exact (Kd.R_reads' HO_21.out).2.1); rintro e w86 ⟨v457, rfl, ho0, hb⟩; have HO458 := Law.rL (Law.rN (Law.rN (Law.rN (Law.rN ho0 HO_3) HO_4) HO_8) HO_21) HB; replace HO_3 := Law.rE HO_3 ho0 hb; replace HO_4 := Law.rE HO_4 ho0 hb; replace HO_8 := Law.rE HO_8 ho0 hb; replace HO_9 := Law.rB HO_9 hb; replace HO_21 := Law.rE HO_21 ho0 hb; replace HB := Law.bS HB hb; (try clear hb); (try clear ho0)) | (go_at_call 49; (with_reducible refine (laws_fCopyNums.calls kj68 _ _ t388 t459 _ ?side1 ?side2 A79.out).mono ?_); (case side1 => exact Law.cg ((Kd.R_reads' HO_4.out).2.2)); (case side2 => exact (Kd.R_reads' HO_4.out).2.1); rintro e w87 ⟨v460, rfl, ho0, hb⟩; have HO461 := Law.rL (Law.rN (Law.rN (Law.rN (Law.rN (Law.rN ho0 HO_3) HO_4) HO_8) HO_21) HO458) HB; replace HO_3 := Law.rE HO_3 ho0 hb; replace HO_4 := Law.rE HO_4 ho0 hb; replace HO_8 := Law.rE HO_8 ho0 hb; replace HO_9 := Law.rB HO_9 hb; replace HO_21 := Law.rE HO_21 ho0 hb; replace HO458 := Law.rE HO458 ho0 hb; replace HB := Law.bS HB hb; (try clear hb); (try clear ho0); obtain ⟨Ao88, co88, eo88⟩ := Kd.R_slice HO458.out; subst eo88; obtain ⟨Ao89, co89, eo89⟩ := Kd.R_slice HO461.out; subst eo89) | (go_at_call 52; (with_reducible refine (impl_LowestFree.calls kj68 _ _ t456 _ _ t459 t462 t463 _ ?side1 ?side2 ?side3 ?side4 A80.out).mono ?_); (case side1 => exact Law.cg ((Kd.R_reads' HO458.out).2.2)); (case side2 => exact (Kd.R_reads' HO458.out).2.1); (case side3 => exact Law.cg ((Kd.R_reads' HO461.out).2.2)); (case side4 => exact (Kd.R_reads' HO461.out).2.1); rintro e w90 ⟨rfl, hb⟩; replace HO_3 := Law.rB HO_3 hb; replace HO_4 := Law.rB HO_4 hb; replace HO_8 := Law.rB HO_8 hb; replace HO_9 := Law.rB HO_9 hb; replace HO_21 := Law.rB HO_21 hb; replace HO458 := Law.rB HO458 hb; replace HO461 := Law.rB HO461 hb; replace HB := Law.bS HB hb; (try clear hb); have p464 : 0 ≤ (x22_6 : Int) := of_decide_eq_true (by first | (with_reducible assumption) | assumption); have q464 : x22_6 < (t406.length : Int) := of_decide_eq_true (by first | (with_reducible assumption) | assumption); obtain ⟨ad464, e464, hx464_0⟩ := Kd.at_int (Kd.R_reads' HO_8.out).2.2 x22_6 p464 q464; cases e464; replace p464 := eq_true p464; replace q464 := eq_true q464))
                              repeat (go_quiet (first | (go_at_call 49; (with_reducible refine (laws_fCopyNums.calls kj68 _ _ x21_6 t456 _ ?side1 ?side2 A78.out).mono ?_); (case side1 => exact Law.cg ((Kd.R_reads' HO_21.out).2.2)); (case side2 => exact (Kd.R_reads' HO_21.out).2.1); rintro e w86 ⟨v457, rfl, ho0, hb⟩; have HO458 := Law.rL (Law.rN (Law.rN (Law.rN (Law.rN ho0 HO_3) HO_4) HO_8) HO_21) HB; replace HO_3 := Law.rE HO_3 ho0 hb; replace HO_4 := Law.rE HO_4 ho0 hb; replace HO_8 := Law.rE HO_8 ho0 hb; replace HO_9 := Law.rB HO_9 hb; replace HO_21 := Law.rE HO_21 ho0 hb; replace HB := Law.bS HB hb; (try clear hb); (try clear ho0)) | (go_at_call 49; (with_reducible refine (laws_fCopyNums.calls kj68 _ _ t388 t459 _ ?side1 ?side2 A79.out).mono ?_); (case side1 => exact Law.cg ((Kd.R_reads' HO_4.out).2.2)); (case side2 => exact (Kd.R_reads' HO_4.out).2.1); rintro e w87 ⟨v460, rfl, ho0, hb⟩; have HO461 := Law.rL (Law.rN (Law.rN (Law.rN (Law.rN (Law.rN ho0 HO_3) HO_4) HO_8) HO_21) HO458) HB; replace HO_3 := Law.rE HO_3 ho0 hb; replace HO_4 := Law.rE HO_4 ho0 hb; replace HO_8 := Law.rE HO_8 ho0 hb; replace HO_9 := Law.rB HO_9 hb; replace HO_21 := Law.rE HO_21 ho0 hb; replace HO458 := Law.rE HO458 ho0 hb; replace HB := Law.bS HB hb; (try clear hb); (try clear ho0); obtain ⟨Ao88, co88, eo88⟩ := Kd.R_slice HO458.out; subst eo88; obtain ⟨Ao89, co89, eo89⟩ := Kd.R_slice HO461.out; subst eo89) | (go_at_call 52; (with_reducible refine (impl_LowestFree.calls kj68 _ _ t456 _ _ t459 t462 t463 _ ?side1 ?side2 ?side3 ?side4 A80.out).mono ?_); (case side1 => exact Law.cg ((Kd.R_reads' HO458.out).2.2)); (case side2 => exact (Kd.R_reads' HO458.out).2.1); (case side3 => exact Law.cg ((Kd.R_reads' HO461.out).2.2)); (case side4 => exact (Kd.R_reads' HO461.out).2.1); rintro e w90 ⟨rfl, hb⟩; replace HO_3 := Law.rB HO_3 hb; replace HO_4 := Law.rB HO_4 hb; replace HO_8 := Law.rB HO_8 hb; replace HO_9 := Law.rB HO_9 hb; replace HO_21 := Law.rB HO_21 hb; replace HO458 := Law.rB HO458 hb; replace HO461 := Law.rB HO461 hb; replace HB := Law.bS HB hb; (try clear hb); have p464 : 0 ≤ (x22_6 : Int) := of_decide_eq_true (by first | (with_reducible assumption) | assumption); have q464 : x22_6 < (t406.length : Int) := of_decide_eq_true (by first | (with_reducible assumption) | assumption); obtain ⟨ad464, e464, hx464_0⟩ := Kd.at_int (Kd.R_reads' HO_8.out).2.2 x22_6 p464 q464; cases e464; replace p464 := eq_true p464; replace q464 := eq_true q464)); try go_wp2_with (first | (go_at_call 49; (with_reducible refine (laws_fCopyNums.calls kj68 _ _ x21_6 t456 _ ?side1 ?side2 A78.out).mono ?_); (case side1 => exact Law.cg ((Kd.R_reads' HO_21.out).2.2)); (case side2 => exact (Kd.R_reads' HO_21.out).2.1); rintro e w86 ⟨v457, rfl, ho0, hb⟩; have HO458 := Law.rL (Law.rN (Law.rN (Law.rN (Law.rN ho0 HO_3) HO_4) HO_8) HO_21) HB; replace HO_3 := Law.rE HO_3 ho0 hb; replace HO_4 := Law.rE HO_4 ho0 hb; replace HO_8 := Law.rE HO_8 ho0 hb; replace HO_9 := Law.rB HO_9 hb; replace HO_21 := Law.rE HO_21 ho0 hb; replace HB := Law.bS HB hb; (try clear hb); (try clear ho0)) | (go_at_call 49; (with_reducible refine (laws_fCopyNums.calls kj68 _ _ t388 t459 _ ?side1 ?side2 A79.out).mono ?_); (case side1 => exact Law.cg ((Kd.R_reads' HO_4.out).2.2)); (case side2 => exact (Kd.R_reads' HO_4.out).2.1); rintro e w87 ⟨v460, rfl, ho0, hb⟩; have HO461 := Law.rL (Law.rN (Law.rN (Law.rN (Law.rN (Law.rN ho0 HO_3) HO_4) HO_8) HO_21) HO458) HB; replace HO_3 := Law.rE HO_3 ho0 hb; replace HO_4 := Law.rE HO_4 ho0 hb; replace HO_8 := Law.rE HO_8 ho0 hb; replace HO_9 := Law.rB HO_9 hb; replace HO_21 := Law.rE HO_21 ho0 hb; replace HO458 := Law.rE HO458 ho0 hb; replace HB := Law.bS HB hb; (try clear hb); (try clear ho0); obtain ⟨Ao88, co88, eo88⟩ := Kd.R_slice HO458.out; subst eo88; obtain ⟨Ao89, co89, eo89⟩ := Kd.R_slice HO461.out; subst eo89) | (go_at_call 52; (with_reducible refine (impl_LowestFree.calls kj68 _ _ t456 _ _ t459 t462 t463 _ ?side1 ?side2 ?side3 ?side4 A80.out).mono ?_); (case side1 => exact Law.cg ((Kd.R_reads' HO458.out).2.2)); (case side2 => exact (Kd.R_reads' HO458.out).2.1); (case side3 => exact Law.cg ((Kd.R_reads' HO461.out).2.2)); (case side4 => exact (Kd.R_reads' HO461.out).2.1); rintro e w90 ⟨rfl, hb⟩; replace HO_3 := Law.rB HO_3 hb; replace HO_4 := Law.rB HO_4 hb; replace HO_8 := Law.rB HO_8 hb; replace HO_9 := Law.rB HO_9 hb; replace HO_21 := Law.rB HO_21 hb; replace HO458 := Law.rB HO458 hb; replace HO461 := Law.rB HO461 hb; replace HB := Law.bS HB hb; (try clear hb); have p464 : 0 ≤ (x22_6 : Int) := of_decide_eq_true (by first | (with_reducible assumption) | assumption); have q464 : x22_6 < (t406.length : Int) := of_decide_eq_true (by first | (with_reducible assumption) | assumption); obtain ⟨ad464, e464, hx464_0⟩ := Kd.at_int (Kd.R_reads' HO_8.out).2.2 x22_6 p464 q464; cases e464; replace p464 := eq_true p464; replace q464 := eq_true q464)))
                              go_ret
                              exact ⟨by first | rfl | (simp [errW_none, errW_some] <;> rfl) | (simp [*, errW_none, errW_some] <;> rfl), by repeat (first | (with_reducible first | exact HB.out | apply below_alloc | apply pw_below_drewN | apply below_drew1) | exact HB.out)⟩
                             ·rw [if_neg c85] at H
                              have c85b0 : decide (t462 < 2) = false := decide_eq_false c85
                              clear c85
                              by_cases c91 : t462 ≥ (x21_6.length : Int)
                              ·rw [if_pos c91] at H
                               have c91b0 : decide ((x21_6.length : Int) ≤ t462) = true := decide_eq_true c91
                               clear c91
                               obtain rfl := Option.some.inj H
                               go_wp2_with (first | (go_at_call 49; (with_reducible refine (laws_fCopyNums.calls kj68 _ _ x21_6 t456 _ ?side1 ?side2 A78.out).mono ?_); (case side1 => exact Law.cg ((Kd.R_reads' HO_21.out).2.2)); (case side2 => exact (Kd.R_reads' HO_21.out).2.1); rintro e w92 ⟨v457, rfl, ho0, hb⟩; have HO458 := Law.rL (Law.rN (Law.rN (Law.rN (Law.rN ho0 HO_3) HO_4) HO_8) HO_21) HB; replace HO_3 := Law.rE HO_3 ho0 hb; replace HO_4 := Law.rE HO_4 ho0 hb; replace HO_8 := Law.rE HO_8 ho0 hb; replace HO_9 := Law.rB HO_9 hb; replace HO_21 := Law.rE HO_21 ho0 hb; replace HB := Law.bS HB hb; (try clear hb); (try clear ho0)) | (go_at_call 49; (with_reducible refine (laws_fCopyNums.calls kj68 _ _ t388 t459 _ ?side1 ?side2 A79.out).mono ?_); (case side1 => exact Law.cg ((Kd.R_reads' HO_4.out).2.2)); (case side2 => exact (Kd.R_reads' HO_4.out).2.1); rintro e w93 ⟨v460, rfl, ho0, hb⟩; have HO461 := Law.rL (Law.rN (Law.rN (Law.rN (Law.rN (Law.rN ho0 HO_3) HO_4) HO_8) HO_21) HO458) HB; replace HO_3 := Law.rE HO_3 ho0 hb; replace HO_4 := Law.rE HO_4 ho0 hb; replace HO_8 := Law.rE HO_8 ho0 hb; replace HO_9 := Law.rB HO_9 hb; replace HO_21 := Law.rE HO_21 ho0 hb; replace HO458 := Law.rE HO458 ho0 hb; replace HB := Law.bS HB hb; (try clear hb); (try clear ho0); obtain ⟨Ao94, co94, eo94⟩ := Kd.R_slice HO458.out; subst eo94; obtain ⟨Ao95, co95, eo95⟩ := Kd.R_slice HO461.out; subst eo95) | (go_at_call 52; (with_reducible refine (impl_LowestFree.calls kj68 _ _ t456 _ _ t459 t462 t463 _ ?side1 ?side2 ?side3 ?side4 A80.out).mono ?_); (case side1 => exact Law.cg ((Kd.R_reads' HO458.out).2.2)); (case side2 => exact (Kd.R_reads' HO458.out).2.1); (case side3 => exact Law.cg ((Kd.R_reads' HO461.out).2.2)); (case side4 => exact (Kd.R_reads' HO461.out).2.1); rintro e w96 ⟨rfl, hb⟩; replace HO_3 := Law.rB HO_3 hb; replace HO_4 := Law.rB HO_4 hb; replace HO_8 := Law.rB HO_8 hb; replace HO_9 := Law.rB HO_9 hb; replace HO_21 := Law.rB HO_21 hb; replace HO458 := Law.rB HO458 hb; replace HO461 := Law.rB HO461 hb; replace HB := Law.bS HB hb; (try clear hb); have p464 : 0 ≤ (x22_6 : Int) := of_decide_eq_true (by first | (with_reducible assumption) | assumption); have q464 : x22_6 < (t406.length : Int) := of_decide_eq_true (by first | (with_reducible assumption) | assumption); obtain ⟨ad464, e464, hx464_0⟩ := Kd.at_int (Kd.R_reads' HO_8.out).2.2 x22_6 p464 q464; cases e464; replace p464 := eq_true p464; replace q464 := eq_true q464))
                               repeat (go_quiet (first | (go_at_call 49; (with_reducible refine (laws_fCopyNums.calls kj68 _ _ x21_6 t456 _ ?side1 ?side2 A78.out).mono ?_); (case side1 => exact Law.cg ((Kd.R_reads' HO_21.out).2.2)); (case side2 => exact (Kd.R_reads' HO_21.out).2.1); rintro e w92 ⟨v457, rfl, ho0, hb⟩; have HO458 := Law.rL (Law.rN (Law.rN (Law.rN (Law.rN ho0 HO_3) HO_4) HO_8) HO_21) HB; replace HO_3 := Law.rE HO_3 ho0 hb; replace HO_4 := Law.rE HO_4 ho0 hb; replace HO_8 := Law.rE HO_8 ho0 hb; replace HO_9 := Law.rB HO_9 hb; replace HO_21 := Law.rE HO_21 ho0 hb; replace HB := Law.bS HB hb; (try clear hb); (try clear ho0)) | (go_at_call 49; (with_reducible refine (laws_fCopyNums.calls kj68 _ _ t388 t459 _ ?side1 ?side2 A79.out).mono ?_); (case side1 => exact Law.cg ((Kd.R_reads' HO_4.out).2.2)); (case side2 => exact (Kd.R_reads' HO_4.out).2.1); rintro e w93 ⟨v460, rfl, ho0, hb⟩; have HO461 := Law.rL (Law.rN (Law.rN (Law.rN (Law.rN (Law.rN ho0 HO_3) HO_4) HO_8) HO_21) HO458) HB; replace HO_3 := Law.rE HO_3 ho0 hb; replace HO_4 := Law.rE HO_4 ho0 hb; replace HO_8 := Law.rE HO_8 ho0 hb; replace HO_9 := Law.rB HO_9 hb; replace HO_21 := Law.rE HO_21 ho0 hb; replace HO458 := Law.rE HO458 ho0 hb; replace HB := Law.bS HB hb; (try clear hb); (try clear ho0); obtain ⟨Ao94, co94, eo94⟩ := Kd.R_slice HO458.out; subst eo94; obtain ⟨Ao95, co95, eo95⟩ := Kd.R_slice HO461.out; subst eo95) | (go_at_call 52; (with_reducible refine (impl_LowestFree.calls kj68 _ _ t456 _ _ t459 t462 t463 _ ?side1 ?side2 ?side3 ?side4 A80.out).mono ?_); (case side1 => exact Law.cg ((Kd.R_reads' HO458.out).2.2)); (case side2 => exact (Kd.R_reads' HO458.out).2.1); (case side3 => exact Law.cg ((Kd.R_reads' HO461.out).2.2)); (case side4 => exact (Kd.R_reads' HO461.out).2.1); rintro e w96 ⟨rfl, hb⟩; replace HO_3 := Law.rB HO_3 hb; replace HO_4 := Law.rB HO_4 hb; replace HO_8 := Law.rB HO_8 hb; replace HO_9 := Law.rB HO_9 hb; replace HO_21 := Law.rB HO_21 hb; replace HO458 := Law.rB HO458 hb; replace HO461 := Law.rB HO461 hb; replace HB := Law.bS HB hb; (try clear hb); have p464 : 0 ≤ (x22_6 : Int) := of_decide_eq_true (by first | (with_reducible assumption) | assumption); have q464 : x22_6 < (t406.length : Int) := of_decide_eq_true (by first | (with_reducible assumption) | assumption); obtain ⟨ad464, e464, hx464_0⟩ := Kd.at_int (Kd.R_reads' HO_8.out).2.2 x22_6 p464 q464; cases e464; replace p464 := eq_true p464; replace q464 := eq_true q464)); try go_wp2_with (first | (go_at_call 49; (with_reducible refine (laws_fCopyNums.calls kj68 _ _ x21_6 t456 _ ?side1 ?side2 A78.out).mono ?_); (case side1 => exact Law.cg ((Kd.R_reads' HO_21.out).2.2)); (case side2 => exact (Kd.R_reads' HO_21.out).2.1); rintro e w92 ⟨v457, rfl, ho0, hb⟩; have HO458 := Law.rL (Law.rN (Law.rN (Law.rN (Law.rN ho0 HO_3) HO_4) HO_8) HO_21) HB; replace HO_3 := Law.rE HO_3 ho0 hb; replace HO_4 := Law.rE HO_4 ho0 hb; replace HO_8 := Law.rE HO_8 ho0 hb; replace HO_9 := Law.rB HO_9 hb; replace HO_21 := Law.rE HO_21 ho0 hb; replace HB := Law.bS HB hb; (try clear hb); (try clear ho0)) | (go_at_call 49; (with_reducible refine (laws_fCopyNums.calls kj68 _ _ t388 t459 _ ?side1 ?side2 A79.out).mono ?_); (case side1 => exact Law.cg ((Kd.R_reads' HO_4.out).2.2)); (case side2 => exact (Kd.R_reads' HO_4.out).2.1); rintro e w93 ⟨v460, rfl, ho0, hb⟩; have HO461 := Law.rL (Law.rN (Law.rN (Law.rN (Law.rN (Law.rN ho0 HO_3) HO_4) HO_8) HO_21) HO458) HB; replace HO_3 := Law.rE HO_3 ho0 hb; replace HO_4 := Law.rE HO_4 ho0 hb; replace HO_8 := Law.rE HO_8 ho0 hb; replace HO_9 := Law.rB HO_9 hb; replace HO_21 := Law.rE HO_21 ho0 hb; replace HO458 := Law.rE HO458 ho0 hb; replace HB := Law.bS HB hb; (try clear hb); (try clear ho0); obtain ⟨Ao94, co94, eo94⟩ := Kd.R_slice HO458.out; subst eo94; obtain ⟨Ao95, co95, eo95⟩ := Kd.R_slice HO461.out; subst eo95) | (go_at_call 52; (with_reducible refine (impl_LowestFree.calls kj68 _ _ t456 _ _ t459 t462 t463 _ ?side1 ?side2 ?side3 ?side4 A80.out).mono ?_); (case side1 => exact Law.cg ((Kd.R_reads' HO458.out).2.2)); (case side2 => exact (Kd.R_reads' HO458.out).2.1); (case side3 => exact Law.cg ((Kd.R_reads' HO461.out).2.2)); (case side4 => exact (Kd.R_reads' HO461.out).2.1); rintro e w96 ⟨rfl, hb⟩; replace HO_3 := Law.rB HO_3 hb; replace HO_4 := Law.rB HO_4 hb; replace HO_8 := Law.rB HO_8 hb; replace HO_9 := Law.rB HO_9 hb; replace HO_21 := Law.rB HO_21 hb; replace HO458 := Law.rB HO458 hb; replace HO461 := Law.rB HO461 hb; replace HB := Law.bS HB hb; (try clear hb); have p464 : 0 ≤ (x22_6 : Int) := of_decide_eq_true (by first | (with_reducible assumption) | assumption); have q464 : x22_6 < (t406.length : Int) := of_decide_eq_true (by first | (with_reducible assumption) | assumption); obtain ⟨ad464, e464, hx464_0⟩ := Kd.at_int (Kd.R_reads' HO_8.out).2.2 x22_6 p464 q464; cases e464; replace p464 := eq_true p464; replace q464 := eq_true q464)))
                               go_ret
                               exact ⟨by first | rfl | (simp [errW_none, errW_some] <;> rfl) | (simp [*, errW_none, errW_some] <;> rfl), by repeat (first | (with_reducible first | exact HB.out | apply below_alloc | apply pw_below_drewN | apply below_drew1) | exact HB.out)⟩
                              ·rw [if_neg c91] at H
                               have c91b0 : decide ((x21_6.length : Int) ≤ t462) = false := decide_eq_false c91
                               clear c91
                               by_cases c97 : 0 ≤ t462
                               ·rw [if_pos c97] at H
                                have c97b0 : decide (0 ≤ t462) = true := decide_eq_true c97
                                clear c97
                                by_cases c98 : t462 < (t387.length : Int)
                                ·rw [if_pos c98] at H
                                 have c98b0 : decide (t462 < (t387.length : Int)) = true := decide_eq_true c98
                                 clear c98
                                 by_cases c99 : (rd t387 t462) = 0
                                 ·rw [if_pos c99] at H
                                  have c99b0 : ((rd t387 t462) == 0) = true := beq_iff_eq.mpr c99
                                  have c99b1 : ((rd t387 t462) != 0) = false := bne_eq_false_iff_eq.mpr c99
                                  clear c99
                                  by_cases c100 : t462 < (t388.length : Int)
                                  ·rw [if_pos c100] at H
                                   have c100b0 : decide (t462 < (t388.length : Int)) = true := decide_eq_true c100
                                   clear c100
                                   by_cases c101 : (rd t388 t462) = 0
                                   ·rw [if_pos c101] at H
                                    have c101b0 : ((rd t388 t462) == 0) = true := beq_iff_eq.mpr c101
                                    have c101b1 : ((rd t388 t462) != 0) = false := bne_eq_false_iff_eq.mpr c101
                                    clear c101
                                    by_cases c102 : t462 < (x21_6.length : Int)
                                    ·rw [if_pos c102] at H
                                     have c102b0 : decide (t462 < (x21_6.length : Int)) = true := decide_eq_true c102
                                     clear c102
                                     obtain ⟨y467, hy467⟩ : ∃ y_ : List Int, y_ = (x21_6.set (t462 : Int).toNat 1) := ⟨_, rfl⟩
                                     replace H : (laws_FnPlan.l2 kj68 t387 t388 t406 t409 y467 (wrap64 (x22_6 + 1))) = some r := by first | (rw [hy467]; with_reducible exact H) | (have H2_ := (Option.bind_some _ _).symm.trans H; rw [hy467]; with_reducible exact H2_) | (have H2_ := (Option.bind_some _ _).symm.trans H; with_reducible exact H2_) | with_reducible exact H | (rw [hy467]; exact H) | exact H
                                     have Ny467 := Aside0.mk hy467
                                     clear hy467
                                     have H' := Aside0.mk H
                                     clear H
                                     go_wp2_with (first | (go_at_call 49; (with_reducible refine (laws_fCopyNums.calls kj68 _ _ x21_6 t456 _ ?side1 ?side2 A78.out).mono ?_); (case side1 => exact Law.cg ((Kd.R_reads' HO_21.out).2.2)); (case side2 => exact (Kd.R_reads' HO_21.out).2.1); rintro e w104 ⟨v457, rfl, ho0, hb⟩; have HO458 := Law.rL (Law.rN (Law.rN (Law.rN (Law.rN ho0 HO_3) HO_4) HO_8) HO_21) HB; replace HO_3 := Law.rE HO_3 ho0 hb; replace HO_4 := Law.rE HO_4 ho0 hb; replace HO_8 := Law.rE HO_8 ho0 hb; replace HO_9 := Law.rB HO_9 hb; replace HO_21 := Law.rE HO_21 ho0 hb; replace HB := Law.bS HB hb; (try clear hb); (try clear ho0)) | (go_at_call 49; (with_reducible refine (laws_fCopyNums.calls kj68 _ _ t388 t459 _ ?side1 ?side2 A79.out).mono ?_); (case side1 => exact Law.cg ((Kd.R_reads' HO_4.out).2.2)); (case side2 => exact (Kd.R_reads' HO_4.out).2.1); rintro e w105 ⟨v460, rfl, ho0, hb⟩; have HO461 := Law.rL (Law.rN (Law.rN (Law.rN (Law.rN (Law.rN ho0 HO_3) HO_4) HO_8) HO_21) HO458) HB; replace HO_3 := Law.rE HO_3 ho0 hb; replace HO_4 := Law.rE HO_4 ho0 hb; replace HO_8 := Law.rE HO_8 ho0 hb; replace HO_9 := Law.rB HO_9 hb; replace HO_21 := Law.rE HO_21 ho0 hb; replace HO458 := Law.rE HO458 ho0 hb; replace HB := Law.bS HB hb; (try clear hb); (try clear ho0); obtain ⟨Ao106, co106, eo106⟩ := Kd.R_slice HO458.out; subst eo106; obtain ⟨Ao107, co107, eo107⟩ := Kd.R_slice HO461.out; subst eo107) | (go_at_call 52; (with_reducible refine (impl_LowestFree.calls kj68 _ _ t456 _ _ t459 t462 t463 _ ?side1 ?side2 ?side3 ?side4 A80.out).mono ?_); (case side1 => exact Law.cg ((Kd.R_reads' HO458.out).2.2)); (case side2 => exact (Kd.R_reads' HO458.out).2.1); (case side3 => exact Law.cg ((Kd.R_reads' HO461.out).2.2)); (case side4 => exact (Kd.R_reads' HO461.out).2.1); rintro e w108 ⟨rfl, hb⟩; replace HO_3 := Law.rB HO_3 hb; replace HO_4 := Law.rB HO_4 hb; replace HO_8 := Law.rB HO_8 hb; replace HO_9 := Law.rB HO_9 hb; replace HO_21 := Law.rB HO_21 hb; replace HO458 := Law.rB HO458 hb; replace HO461 := Law.rB HO461 hb; replace HB := Law.bS HB hb; (try clear hb); have p464 : 0 ≤ (x22_6 : Int) := of_decide_eq_true (by first | (with_reducible assumption) | assumption); have q464 : x22_6 < (t406.length : Int) := of_decide_eq_true (by first | (with_reducible assumption) | assumption); obtain ⟨ad464, e464, hx464_0⟩ := Kd.at_int (Kd.R_reads' HO_8.out).2.2 x22_6 p464 q464; cases e464; replace p464 := eq_true p464; replace q464 := eq_true q464; have p465 : 0 ≤ (t462 : Int) := of_decide_eq_true (by first | (with_reducible assumption) | assumption); have q465 : t462 < (t387.length : Int) := of_decide_eq_true (by first | (with_reducible assumption) | assumption); obtain ⟨ad465, e465, hx465_0⟩ := Kd.at_int (Kd.R_reads' HO_3.out).2.2 t462 p465 q465; cases e465; replace p465 := eq_true p465; replace q465 := eq_true q465; have p466 : 0 ≤ (t462 : Int) := of_decide_eq_true (by first | (with_reducible assumption) | assumption); have q466 : t462 < (t388.length : Int) := of_decide_eq_true (by first | (with_reducible assumption) | assumption); obtain ⟨ad466, e466, hx466_0⟩ := Kd.at_int (Kd.R_reads' HO_4.out).2.2 t462 p466 q466; cases e466; replace p466 := eq_true p466; replace q466 := eq_true q466; have p103 : 0 ≤ (t462 : Int) := of_decide_eq_true (by first | (with_reducible assumption) | assumption); have q103 : (t462 : Int) < ((x21_6.length : Int) : Int) := of_decide_eq_true (by first | (with_reducible assumption) | assumption); obtain ⟨go103, co103, eo103, gb103, gl103, cl103, HG103⟩ := Kd.R_form HO_21.out (by omega); (first | cases eo103 | (injection eo103 with ea_ en_ ec_; (first | subst ea_ | (injection ea_ with ea_; subst ea_)); subst ec_; clear en_)); have GB103 := Aside0.mk gb103; have GG103 := Aside0.mk HG103; clear gb103 gl103 HG103; obtain ⟨hx103_0, hf103_0⟩ := Kd.R_celln 0 HO_21.out (t462 : Int) p103 q103; replace p103 := eq_true p103; replace q103 := eq_true q103; have n_ := Aside0.mk (Kd.R_mono (ok' := (fun k_ => some k_ ≠ (.slice (some ad465) t387.length co11 : Value).ownBlock ∧ some k_ ≠ (.slice (some ad466) t388.length co12 : Value).ownBlock ∧ some k_ ≠ (.slice (some ad464) t406.length co70 : Value).ownBlock ∧ some k_ ≠ (.slice Ao106 t456.length co106 : Value).ownBlock ∧ some k_ ≠ (.slice Ao107 t459.length co107 : Value).ownBlock)) HO_21.out (fun k_ hk => ⟨hk.1.1.1, ⟨hk.1.1.2.1, ⟨hk.1.1.2.2, ⟨hk.1.2, hk.2⟩⟩⟩⟩)); clear HO_21; have HO_21 := n_; clear n_; obtain ⟨hy109_, hz109_⟩ := Kd.R_celln 0 HO_21.out (t462 : Int) (of_decide_eq_true (by first | (with_reducible assumption) | assumption)) (of_decide_eq_true (by first | (with_reducible assumption) | assumption)); have HP109 := Kd.R_putg HO_21.out (t462 : Int) 1) | ((with_reducible refine gate_store (t := 2) (p := 224) rfl ?_); (try (rw [drewN_self w108]; generalize hq_ : World.drewN w108 _ = w108; have n0_ := Aside0.mk (Kd.R_at hq_ HO_3.out); have n1_ := Aside0.mk (Kd.R_at hq_ HO_4.out); have n2_ := Aside0.mk (Kd.R_at hq_ HO_8.out); have n3_ := Aside0.mk (Kd.R_at hq_ HO_9.out); have n4_ := Aside0.mk (Kd.R_at hq_ HO_21.out); have n5_ := Aside0.mk (Kd.R_at hq_ HO458.out); have n6_ := Aside0.mk (Kd.R_at hq_ HO461.out); have n7_ := Aside0.mk (below_at hq_ HB.out); clear hq_ HO_3 HO_4 HO_8 HO_9 HO_21 HO458 HO461 HB; have HO_3 := n0_; have HO_4 := n1_; have HO_8 := n2_; have HO_9 := n3_; have HO_21 := n4_; have HO458 := n5_; have HO461 := n6_; have HB := n7_; clear n0_ n1_ n2_ n3_ n4_ n5_ n6_ n7_; (try (have n_ := Aside0.mk (Kd.R_mono (ok' := (fun k_ => some k_ ≠ (.slice (some ad465) t387.length co11 : Value).ownBlock ∧ some k_ ≠ (.slice (some ad466) t388.length co12 : Value).ownBlock ∧ some k_ ≠ (.slice (some ad464) t406.length co70 : Value).ownBlock ∧ some k_ ≠ (.slice Ao106 t456.length co106 : Value).ownBlock ∧ some k_ ≠ (.slice Ao107 t459.length co107 : Value).ownBlock)) HO_21.out (fun k_ hk => ⟨hk.1.1.1, ⟨hk.1.1.2.1, ⟨hk.1.1.2.2, ⟨hk.1.2, hk.2⟩⟩⟩⟩)); clear HO_21; have HO_21 := n_; clear n_)); (try (obtain ⟨hy109_, hz109_⟩ := Kd.R_celln 0 HO_21.out (t462 : Int) (of_decide_eq_true (by first | (with_reducible assumption) | assumption)) (of_decide_eq_true (by first | (with_reducible assumption) | assumption)))); (try (have HP109 := Kd.R_putg HO_21.out (t462 : Int) 1)))); refine store_event (t := 2) (p := 224) (v := ?vo_w110) (w1 := (w108.setCell ⟨go103, (t462 : Int).toNat, none⟩ (.int .i64 1))) ?hg ?ho ?hn ?hr ?_; (case ho => rfl); (case hg => rfl); (case hn => rfl); (case hr => first | (go_simp; done) | (go_simp; rfl)); intro w110 hw; have hg : w108.grownBy w110 (some go103) := (by rw [hw]; exact HP109.2); have hp_ : Kd.R (Kd.int .i64) 2 w110 w.heap.size (fun k_ => some k_ ≠ (.slice (some ad465) t387.length co11 : Value).ownBlock ∧ some k_ ≠ (.slice (some ad466) t388.length co12 : Value).ownBlock ∧ some k_ ≠ (.slice (some ad464) t406.length co70 : Value).ownBlock ∧ some k_ ≠ (.slice Ao106 t456.length co106 : Value).ownBlock ∧ some k_ ≠ (.slice Ao107 t459.length co107 : Value).ownBlock) (.slice (some ⟨go103, 0, none⟩) x21_6.length co71) y467 := (by rw [hw, Ny467.out]; exact HP109.1); clear HP109; replace HO_3 := Aside0.mk (Kd.R_after (v := (.slice (some ⟨go103, 0, none⟩) x21_6.length co71)) (v1 := (.slice (some ⟨go103, 0, none⟩) x21_6.length co71)) (ok := (fun k_ => some k_ ≠ (.slice (some ad466) t388.length co12 : Value).ownBlock ∧ some k_ ≠ (.slice (some ad464) t406.length co70 : Value).ownBlock ∧ some k_ ≠ (.slice Ao106 t456.length co106 : Value).ownBlock ∧ some k_ ≠ (.slice Ao107 t459.length co107 : Value).ownBlock)) (by (with_reducible repeat (first | apply Kd.R_alloc | apply Kd.R_drewN | apply Kd.R_drew)); exact Kd.R_mono HO_3.out (fun _ hk => ⟨⟨hk.1.1.1, ⟨hk.1.1.2.1, ⟨hk.1.2, hk.2⟩⟩⟩, hk.1.1.2.2⟩)) hg (.inl rfl)); replace HO_4 := Aside0.mk (Kd.R_after (v := (.slice (some ⟨go103, 0, none⟩) x21_6.length co71)) (v1 := (.slice (some ⟨go103, 0, none⟩) x21_6.length co71)) (ok := (fun k_ => some k_ ≠ (.slice (some ad465) t387.length co11 : Value).ownBlock ∧ some k_ ≠ (.slice (some ad464) t406.length co70 : Value).ownBlock ∧ some k_ ≠ (.slice Ao106 t456.length co106 : Value).ownBlock ∧ some k_ ≠ (.slice Ao107 t459.length co107 : Value).ownBlock)) (by (with_reducible repeat (first | apply Kd.R_alloc | apply Kd.R_drewN | apply Kd.R_drew)); exact Kd.R_mono HO_4.out (fun _ hk => ⟨⟨hk.1.1.1, ⟨hk.1.1.2.1, ⟨hk.1.2, hk.2⟩⟩⟩, hk.1.1.2.2⟩)) hg (.inl rfl)); replace HO_8 := Aside0.mk (Kd.R_after (v := (.slice (some ⟨go103, 0, none⟩) x21_6.length co71)) (v1 := (.slice (some ⟨go103, 0, none⟩) x21_6.length co71)) (ok := (fun k_ => some k_ ≠ (.slice (some ad465) t387.length co11 : Value).ownBlock ∧ some k_ ≠ (.slice (some ad466) t388.length co12 : Value).ownBlock ∧ some k_ ≠ (.slice Ao106 t456.length co106 : Value).ownBlock ∧ some k_ ≠ (.slice Ao107 t459.length co107 : Value).ownBlock)) (by (with_reducible repeat (first | apply Kd.R_alloc | apply Kd.R_drewN | apply Kd.R_drew)); exact Kd.R_mono HO_8.out (fun _ hk => ⟨⟨hk.1.1.1, ⟨hk.1.1.2.1, ⟨hk.1.2, hk.2⟩⟩⟩, hk.1.1.2.2⟩)) hg (.inl rfl)); replace HO_9 := Aside0.mk (Kd.R_over' (v := (.slice (some ⟨go103, 0, none⟩) x21_6.length co71)) (Law.rg HO_9.out) (Kd.R_typed HO_21.out) (by decide) hg); replace HO_21 := Aside0.mk (hp_); replace HO458 := Aside0.mk (Kd.R_after (v := (.slice (some ⟨go103, 0, none⟩) x21_6.length co71)) (v1 := (.slice (some ⟨go103, 0, none⟩) x21_6.length co71)) (ok := (fun k_ => some k_ ≠ (.slice (some ad465) t387.length co11 : Value).ownBlock ∧ some k_ ≠ (.slice (some ad466) t388.length co12 : Value).ownBlock ∧ some k_ ≠ (.slice (some ad464) t406.length co70 : Value).ownBlock ∧ some k_ ≠ (.slice Ao107 t459.length co107 : Value).ownBlock)) (by (with_reducible repeat (first | apply Kd.R_alloc | apply Kd.R_drewN | apply Kd.R_drew)); exact Kd.R_mono HO458.out (fun _ hk => ⟨⟨hk.1.1.1.1.2, ⟨hk.1.1.1.2, ⟨hk.1.1.2, hk.2⟩⟩⟩, hk.1.2⟩)) hg (.inl rfl)); replace HO461 := Aside0.mk (Kd.R_after (v := (.slice (some ⟨go103, 0, none⟩) x21_6.length co71)) (v1 := (.slice (some ⟨go103, 0, none⟩) x21_6.length co71)) (ok := (fun k_ => some k_ ≠ (.slice (some ad465) t387.length co11 : Value).ownBlock ∧ some k_ ≠ (.slice (some ad466) t388.length co12 : Value).ownBlock ∧ some k_ ≠ (.slice (some ad464) t406.length co70 : Value).ownBlock ∧ some k_ ≠ (.slice Ao106 t456.length co106 : Value).ownBlock)) (by (with_reducible repeat (first | apply Kd.R_alloc | apply Kd.R_drewN | apply Kd.R_drew)); exact Kd.R_mono HO461.out (fun _ hk => ⟨⟨hk.1.1.1.1.2, ⟨hk.1.1.1.2, ⟨hk.1.1.2, hk.2⟩⟩⟩, hk.1.2⟩)) hg (.inl rfl)); replace HB := Aside0.mk ((by rw [hw]; exact below_set (HB.out) GB103.out : Below w.heap.size w w110)); clear hg hw hp_))
                                     repeat (go_quiet (first | (go_at_call 49; (with_reducible refine (laws_fCopyNums.calls kj68 _ _ x21_6 t456 _ ?side1 ?side2 A78.out).mono ?_); (case side1 => exact Law.cg ((Kd.R_reads' HO_21.out).2.2)); (case side2 => exact (Kd.R_reads' HO_21.out).2.1); rintro e w104 ⟨v457, rfl, ho0, hb⟩; have HO458 := Law.rL (Law.rN (Law.rN (Law.rN (Law.rN ho0 HO_3) HO_4) HO_8) HO_21) HB; replace HO_3 := Law.rE HO_3 ho0 hb; replace HO_4 := Law.rE HO_4 ho0 hb; replace HO_8 := Law.rE HO_8 ho0 hb; replace HO_9 := Law.rB HO_9 hb; replace HO_21 := Law.rE HO_21 ho0 hb; replace HB := Law.bS HB hb; (try clear hb); (try clear ho0)) | (go_at_call 49; (with_reducible refine (laws_fCopyNums.calls kj68 _ _ t388 t459 _ ?side1 ?side2 A79.out).mono ?_); (case side1 => exact Law.cg ((Kd.R_reads' HO_4.out).2.2)); (case side2 => exact (Kd.R_reads' HO_4.out).2.1); rintro e w105 ⟨v460, rfl, ho0, hb⟩; have HO461 := Law.rL (Law.rN (Law.rN (Law.rN (Law.rN (Law.rN ho0 HO_3) HO_4) HO_8) HO_21) HO458) HB; replace HO_3 := Law.rE HO_3 ho0 hb; replace HO_4 := Law.rE HO_4 ho0 hb; replace HO_8 := Law.rE HO_8 ho0 hb; replace HO_9 := Law.rB HO_9 hb; replace HO_21 := Law.rE HO_21 ho0 hb; replace HO458 := Law.rE HO458 ho0 hb; replace HB := Law.bS HB hb; (try clear hb); (try clear ho0); obtain ⟨Ao106, co106, eo106⟩ := Kd.R_slice HO458.out; subst eo106; obtain ⟨Ao107, co107, eo107⟩ := Kd.R_slice HO461.out; subst eo107) | (go_at_call 52; (with_reducible refine (impl_LowestFree.calls kj68 _ _ t456 _ _ t459 t462 t463 _ ?side1 ?side2 ?side3 ?side4 A80.out).mono ?_); (case side1 => exact Law.cg ((Kd.R_reads' HO458.out).2.2)); (case side2 => exact (Kd.R_reads' HO458.out).2.1); (case side3 => exact Law.cg ((Kd.R_reads' HO461.out).2.2)); (case side4 => exact (Kd.R_reads' HO461.out).2.1); rintro e w108 ⟨rfl, hb⟩; replace HO_3 := Law.rB HO_3 hb; replace HO_4 := Law.rB HO_4 hb; replace HO_8 := Law.rB HO_8 hb; replace HO_9 := Law.rB HO_9 hb; replace HO_21 := Law.rB HO_21 hb; replace HO458 := Law.rB HO458 hb; replace HO461 := Law.rB HO461 hb; replace HB := Law.bS HB hb; (try clear hb); have p464 : 0 ≤ (x22_6 : Int) := of_decide_eq_true (by first | (with_reducible assumption) | assumption); have q464 : x22_6 < (t406.length : Int) := of_decide_eq_true (by first | (with_reducible assumption) | assumption); obtain ⟨ad464, e464, hx464_0⟩ := Kd.at_int (Kd.R_reads' HO_8.out).2.2 x22_6 p464 q464; cases e464; replace p464 := eq_true p464; replace q464 := eq_true q464; have p465 : 0 ≤ (t462 : Int) := of_decide_eq_true (by first | (with_reducible assumption) | assumption); have q465 : t462 < (t387.length : Int) := of_decide_eq_true (by first | (with_reducible assumption) | assumption); obtain ⟨ad465, e465, hx465_0⟩ := Kd.at_int (Kd.R_reads' HO_3.out).2.2 t462 p465 q465; cases e465; replace p465 := eq_true p465; replace q465 := eq_true q465; have p466 : 0 ≤ (t462 : Int) := of_decide_eq_true (by first | (with_reducible assumption) | assumption); have q466 : t462 < (t388.length : Int) := of_decide_eq_true (by first | (with_reducible assumption) | assumption); obtain ⟨ad466, e466, hx466_0⟩ := Kd.at_int (Kd.R_reads' HO_4.out).2.2 t462 p466 q466; cases e466; replace p466 := eq_true p466; replace q466 := eq_true q466; have p103 : 0 ≤ (t462 : Int) := of_decide_eq_true (by first | (with_reducible assumption) | assumption); have q103 : (t462 : Int) < ((x21_6.length : Int) : Int) := of_decide_eq_true (by first | (with_reducible assumption) | assumption); obtain ⟨go103, co103, eo103, gb103, gl103, cl103, HG103⟩ := Kd.R_form HO_21.out (by omega); (first | cases eo103 | (injection eo103 with ea_ en_ ec_; (first | subst ea_ | (injection ea_ with ea_; subst ea_)); subst ec_; clear en_)); have GB103 := Aside0.mk gb103; have GG103 := Aside0.mk HG103; clear gb103 gl103 HG103; obtain ⟨hx103_0, hf103_0⟩ := Kd.R_celln 0 HO_21.out (t462 : Int) p103 q103; replace p103 := eq_true p103; replace q103 := eq_true q103; have n_ := Aside0.mk (Kd.R_mono (ok' := (fun k_ => some k_ ≠ (.slice (some ad465) t387.length co11 : Value).ownBlock ∧ some k_ ≠ (.slice (some ad466) t388.length co12 : Value).ownBlock ∧ some k_ ≠ (.slice (some ad464) t406.length co70 : Value).ownBlock ∧ some k_ ≠ (.slice Ao106 t456.length co106 : Value).ownBlock ∧ some k_ ≠ (.slice Ao107 t459.length co107 : Value).ownBlock)) HO_21.out (fun k_ hk => ⟨hk.1.1.1, ⟨hk.1.1.2.1, ⟨hk.1.1.2.2, ⟨hk.1.2, hk.2⟩⟩⟩⟩)); clear HO_21; have HO_21 := n_; clear n_; obtain ⟨hy109_, hz109_⟩ := Kd.R_celln 0 HO_21.out (t462 : Int) (of_decide_eq_true (by first | (with_reducible assumption) | assumption)) (of_decide_eq_true (by first | (with_reducible assumption) | assumption)); have HP109 := Kd.R_putg HO_21.out (t462 : Int) 1) | ((with_reducible refine gate_store (t := 2) (p := 224) rfl ?_); (try (rw [drewN_self w108]; generalize hq_ : World.drewN w108 _ = w108; have n0_ := Aside0.mk (Kd.R_at hq_ HO_3.out); have n1_ := Aside0.mk (Kd.R_at hq_ HO_4.out); have n2_ := Aside0.mk (Kd.R_at hq_ HO_8.out); have n3_ := Aside0.mk (Kd.R_at hq_ HO_9.out); have n4_ := Aside0.mk (Kd.R_at hq_ HO_21.out); have n5_ := Aside0.mk (Kd.R_at hq_ HO458.out); have n6_ := Aside0.mk (Kd.R_at hq_ HO461.out); have n7_ := Aside0.mk (below_at hq_ HB.out); clear hq_ HO_3 HO_4 HO_8 HO_9 HO_21 HO458 HO461 HB; have HO_3 := n0_; have HO_4 := n1_; have HO_8 := n2_; have HO_9 := n3_; have HO_21 := n4_; have HO458 := n5_; have HO461 := n6_; have HB := n7_; clear n0_ n1_ n2_ n3_ n4_ n5_ n6_ n7_; (try (have n_ := Aside0.mk (Kd.R_mono (ok' := (fun k_ => some k_ ≠ (.slice (some ad465) t387.length co11 : Value).ownBlock ∧ some k_ ≠ (.slice (some ad466) t388.length co12 : Value).ownBlock ∧ some k_ ≠ (.slice (some ad464) t406.length co70 : Value).ownBlock ∧ some k_ ≠ (.slice Ao106 t456.length co106 : Value).ownBlock ∧ some k_ ≠ (.slice Ao107 t459.length co107 : Value).ownBlock)) HO_21.out (fun k_ hk => ⟨hk.1.1.1, ⟨hk.1.1.2.1, ⟨hk.1.1.2.2, ⟨hk.1.2, hk.2⟩⟩⟩⟩)); clear HO_21; have HO_21 := n_; clear n_)); (try (obtain ⟨hy109_, hz109_⟩ := Kd.R_celln 0 HO_21.out (t462 : Int) (of_decide_eq_true (by first | (with_reducible assumption) | assumption)) (of_decide_eq_true (by first | (with_reducible assumption) | assumption)))); (try (have HP109 := Kd.R_putg HO_21.out (t462 : Int) 1)))); refine store_event (t := 2) (p := 224) (v := ?vo_w110) (w1 := (w108.setCell ⟨go103, (t462 : Int).toNat, none⟩ (.int .i64 1))) ?hg ?ho ?hn ?hr ?_; (case ho => rfl); (case hg => rfl); (case hn => rfl); (case hr => first | (go_simp; done) | (go_simp; rfl)); intro w110 hw; have hg : w108.grownBy w110 (some go103) := (by rw [hw]; exact HP109.2); have hp_ : Kd.R (Kd.int .i64) 2 w110 w.heap.size (fun k_ => some k_ ≠ (.slice (some ad465) t387.length co11 : Value).ownBlock ∧ some k_ ≠ (.slice (some ad466) t388.length co12 : Value).ownBlock ∧ some k_ ≠ (.slice (some ad464) t406.length co70 : Value).ownBlock ∧ some k_ ≠ (.slice Ao106 t456.length co106 : Value).ownBlock ∧ some k_ ≠ (.slice Ao107 t459.length co107 : Value).ownBlock) (.slice (some ⟨go103, 0, none⟩) x21_6.length co71) y467 := (by rw [hw, Ny467.out]; exact HP109.1); clear HP109; replace HO_3 := Aside0.mk (Kd.R_after (v := (.slice (some ⟨go103, 0, none⟩) x21_6.length co71)) (v1 := (.slice (some ⟨go103, 0, none⟩) x21_6.length co71)) (ok := (fun k_ => some k_ ≠ (.slice (some ad466) t388.length co12 : Value).ownBlock ∧ some k_ ≠ (.slice (some ad464) t406.length co70 : Value).ownBlock ∧ some k_ ≠ (.slice Ao106 t456.length co106 : Value).ownBlock ∧ some k_ ≠ (.slice Ao107 t459.length co107 : Value).ownBlock)) (by (with_reducible repeat (first | apply Kd.R_alloc | apply Kd.R_drewN | apply Kd.R_drew)); exact Kd.R_mono HO_3.out (fun _ hk => ⟨⟨hk.1.1.1, ⟨hk.1.1.2.1, ⟨hk.1.2, hk.2⟩⟩⟩, hk.1.1.2.2⟩)) hg (.inl rfl)); replace HO_4 := Aside0.mk (Kd.R_after (v := (.slice (some ⟨go103, 0, none⟩) x21_6.length co71)) (v1 := (.slice (some ⟨go103, 0, none⟩) x21_6.length co71)) (ok := (fun k_ => some k_ ≠ (.slice (some ad465) t387.length co11 : Value).ownBlock ∧ some k_ ≠ (.slice (some ad464) t406.length co70 : Value).ownBlock ∧ some k_ ≠ (.slice Ao106 t456.length co106 : Value).ownBlock ∧ some k_ ≠ (.slice Ao107 t459.length co107 : Value).ownBlock)) (by (with_reducible repeat (first | apply Kd.R_alloc | apply Kd.R_drewN | apply Kd.R_drew)); exact Kd.R_mono HO_4.out (fun _ hk => ⟨⟨hk.1.1.1, ⟨hk.1.1.2.1, ⟨hk.1.2, hk.2⟩⟩⟩, hk.1.1.2.2⟩)) hg (.inl rfl)); replace HO_8 := Aside0.mk (Kd.R_after (v := (.slice (some ⟨go103, 0, none⟩) x21_6.length co71)) (v1 := (.slice (some ⟨go103, 0, none⟩) x21_6.length co71)) (ok := (fun k_ => some k_ ≠ (.slice (some ad465) t387.length co11 : Value).ownBlock ∧ some k_ ≠ (.slice (some ad466) t388.length co12 : Value).ownBlock ∧ some k_ ≠ (.slice Ao106 t456.length co106 : Value).ownBlock ∧ some k_ ≠ (.slice Ao107 t459.length co107 : Value).ownBlock)) (by (with_reducible repeat (first | apply Kd.R_alloc | apply Kd.R_drewN | apply Kd.R_drew)); exact Kd.R_mono HO_8.out (fun _ hk => ⟨⟨hk.1.1.1, ⟨hk.1.1.2.1, ⟨hk.1.2, hk.2⟩⟩⟩, hk.1.1.2.2⟩)) hg (.inl rfl)); replace HO_9 := Aside0.mk (Kd.R_over' (v := (.slice (some ⟨go103, 0, none⟩) x21_6.length co71)) (Law.rg HO_9.out) (Kd.R_typed HO_21.out) (by decide) hg); replace HO_21 := Aside0.mk (hp_); replace HO458 := Aside0.mk (Kd.R_after (v := (.slice (some ⟨go103, 0, none⟩) x21_6.length co71)) (v1 := (.slice (some ⟨go103, 0, none⟩) x21_6.length co71)) (ok := (fun k_ => some k_ ≠ (.slice (some ad465) t387.length co11 : Value).ownBlock ∧ some k_ ≠ (.slice (some ad466) t388.length co12 : Value).ownBlock ∧ some k_ ≠ (.slice (some ad464) t406.length co70 : Value).ownBlock ∧ some k_ ≠ (.slice Ao107 t459.length co107 : Value).ownBlock)) (by (with_reducible repeat (first | apply Kd.R_alloc | apply Kd.R_drewN | apply Kd.R_drew)); exact Kd.R_mono HO458.out (fun _ hk => ⟨⟨hk.1.1.1.1.2, ⟨hk.1.1.1.2, ⟨hk.1.1.2, hk.2⟩⟩⟩, hk.1.2⟩)) hg (.inl rfl)); replace HO461 := Aside0.mk (Kd.R_after (v := (.slice (some ⟨go103, 0, none⟩) x21_6.length co71)) (v1 := (.slice (some ⟨go103, 0, none⟩) x21_6.length co71)) (ok := (fun k_ => some k_ ≠ (.slice (some ad465) t387.length co11 : Value).ownBlock ∧ some k_ ≠ (.slice (some ad466) t388.length co12 : Value).ownBlock ∧ some k_ ≠ (.slice (some ad464) t406.length co70 : Value).ownBlock ∧ some k_ ≠ (.slice Ao106 t456.length co106 : Value).ownBlock)) (by (with_reducible repeat (first | apply Kd.R_alloc | apply Kd.R_drewN | apply Kd.R_drew)); exact Kd.R_mono HO461.out (fun _ hk => ⟨⟨hk.1.1.1.1.2, ⟨hk.1.1.1.2, ⟨hk.1.1.2, hk.2⟩⟩⟩, hk.1.2⟩)) hg (.inl rfl)); replace HB := Aside0.mk ((by rw [hw]; exact below_set (HB.out) GB103.out : Below w.heap.size w w110)); clear hg hw hp_)); try go_wp2_with (first | (go_at_call 49; (with_reducible refine (laws_fCopyNums.calls kj68 _ _ x21_6 t456 _ ?side1 ?side2 A78.out).mono ?_); (case side1 => exact Law.cg ((Kd.R_reads' HO_21.out).2.2)); (case side2 => exact (Kd.R_reads' HO_21.out).2.1); rintro e w104 ⟨v457, rfl, ho0, hb⟩; have HO458 := Law.rL (Law.rN (Law.rN (Law.rN (Law.rN ho0 HO_3) HO_4) HO_8) HO_21) HB; replace HO_3 := Law.rE HO_3 ho0 hb; replace HO_4 := Law.rE HO_4 ho0 hb; replace HO_8 := Law.rE HO_8 ho0 hb; replace HO_9 := Law.rB HO_9 hb; replace HO_21 := Law.rE HO_21 ho0 hb; replace HB := Law.bS HB hb; (try clear hb); (try clear ho0)) | (go_at_call 49; (with_reducible refine (laws_fCopyNums.calls kj68 _ _ t388 t459 _ ?side1 ?side2 A79.out).mono ?_); (case side1 => exact Law.cg ((Kd.R_reads' HO_4.out).2.2)); (case side2 => exact (Kd.R_reads' HO_4.out).2.1); rintro e w105 ⟨v460, rfl, ho0, hb⟩; have HO461 := Law.rL (Law.rN (Law.rN (Law.rN (Law.rN (Law.rN ho0 HO_3) HO_4) HO_8) HO_21) HO458) HB; replace HO_3 := Law.rE HO_3 ho0 hb; replace HO_4 := Law.rE HO_4 ho0 hb; replace HO_8 := Law.rE HO_8 ho0 hb; replace HO_9 := Law.rB HO_9 hb; replace HO_21 := Law.rE HO_21 ho0 hb; replace HO458 := Law.rE HO458 ho0 hb; replace HB := Law.bS HB hb; (try clear hb); (try clear ho0); obtain ⟨Ao106, co106, eo106⟩ := Kd.R_slice HO458.out; subst eo106; obtain ⟨Ao107, co107, eo107⟩ := Kd.R_slice HO461.out; subst eo107) | (go_at_call 52; (with_reducible refine (impl_LowestFree.calls kj68 _ _ t456 _ _ t459 t462 t463 _ ?side1 ?side2 ?side3 ?side4 A80.out).mono ?_); (case side1 => exact Law.cg ((Kd.R_reads' HO458.out).2.2)); (case side2 => exact (Kd.R_reads' HO458.out).2.1); (case side3 => exact Law.cg ((Kd.R_reads' HO461.out).2.2)); (case side4 => exact (Kd.R_reads' HO461.out).2.1); rintro e w108 ⟨rfl, hb⟩; replace HO_3 := Law.rB HO_3 hb; replace HO_4 := Law.rB HO_4 hb; replace HO_8 := Law.rB HO_8 hb; replace HO_9 := Law.rB HO_9 hb; replace HO_21 := Law.rB HO_21 hb; replace HO458 := Law.rB HO458 hb; replace HO461 := Law.rB HO461 hb; replace HB := Law.bS HB hb; (try clear hb); have p464 : 0 ≤ (x22_6 : Int) := of_decide_eq_true (by first | (with_reducible assumption) | assumption); have q464 : x22_6 < (t406.length : Int) := of_decide_eq_true (by first | (with_reducible assumption) | assumption); obtain ⟨ad464, e464, hx464_0⟩ := Kd.at_int (Kd.R_reads' HO_8.out).2.2 x22_6 p464 q464; cases e464; replace p464 := eq_true p464; replace q464 := eq_true q464; have p465 : 0 ≤ (t462 : Int) := of_decide_eq_true (by first | (with_reducible assumption) | assumption); have q465 : t462 < (t387.length : Int) := of_decide_eq_true (by first | (with_reducible assumption) | assumption); obtain ⟨ad465, e465, hx465_0⟩ := Kd.at_int (Kd.R_reads' HO_3.out).2.2 t462 p465 q465; cases e465; replace p465 := eq_true p465; replace q465 := eq_true q465; have p466 : 0 ≤ (t462 : Int) := of_decide_eq_true (by first | (with_reducible assumption) | assumption); have q466 : t462 < (t388.length : Int) := of_decide_eq_true (by first | (with_reducible assumption) | assumption); obtain ⟨ad466, e466, hx466_0⟩ := Kd.at_int (Kd.R_reads' HO_4.out).2.2 t462 p466 q466; cases e466; replace p466 := eq_true p466; replace q466 := eq_true q466; have p103 : 0 ≤ (t462 : Int) := of_decide_eq_true (by first | (with_reducible assumption) | assumption); have q103 : (t462 : Int) < ((x21_6.length : Int) : Int) := of_decide_eq_true (by first | (with_reducible assumption) | assumption); obtain ⟨go103, co103, eo103, gb103, gl103, cl103, HG103⟩ := Kd.R_form HO_21.out (by omega); (first | cases eo103 | (injection eo103 with ea_ en_ ec_; (first | subst ea_ | (injection ea_ with ea_; subst ea_)); subst ec_; clear en_)); have GB103 := Aside0.mk gb103; have GG103 := Aside0.mk HG103; clear gb103 gl103 HG103; obtain ⟨hx103_0, hf103_0⟩ := Kd.R_celln 0 HO_21.out (t462 : Int) p103 q103; replace p103 := eq_true p103; replace q103 := eq_true q103; have n_ := Aside0.mk (Kd.R_mono (ok' := (fun k_ => some k_ ≠ (.slice (some ad465) t387.length co11 : Value).ownBlock ∧ some k_ ≠ (.slice (some ad466) t388.length co12 : Value).ownBlock ∧ some k_ ≠ (.slice (some ad464) t406.length co70 : Value).ownBlock ∧ some k_ ≠ (.slice Ao106 t456.length co106 : Value).ownBlock ∧ some k_ ≠ (.slice Ao107 t459.length co107 : Value).ownBlock)) HO_21.out (fun k_ hk => ⟨hk.1.1.1, ⟨hk.1.1.2.1, ⟨hk.1.1.2.2, ⟨hk.1.2, hk.2⟩⟩⟩⟩)); clear HO_21; have HO_21 := n_; clear n_; obtain ⟨hy109_, hz109_⟩ := Kd.R_celln 0 HO_21.out (t462 : Int) (of_decide_eq_true (by first | (with_reducible assumption) | assumption)) (of_decide_eq_true (by first | (with_reducible assumption) | assumption)); have HP109 := Kd.R_putg HO_21.out (t462 : Int) 1) | ((with_reducible refine gate_store (t := 2) (p := 224) rfl ?_); (try (rw [drewN_self w108]; generalize hq_ : World.drewN w108 _ = w108; have n0_ := Aside0.mk (Kd.R_at hq_ HO_3.out); have n1_ := Aside0.mk (Kd.R_at hq_ HO_4.out); have n2_ := Aside0.mk (Kd.R_at hq_ HO_8.out); have n3_ := Aside0.mk (Kd.R_at hq_ HO_9.out); have n4_ := Aside0.mk (Kd.R_at hq_ HO_21.out); have n5_ := Aside0.mk (Kd.R_at hq_ HO458.out); have n6_ := Aside0.mk (Kd.R_at hq_ HO461.out); have n7_ := Aside0.mk (below_at hq_ HB.out); clear hq_ HO_3 HO_4 HO_8 HO_9 HO_21 HO458 HO461 HB; have HO_3 := n0_; have HO_4 := n1_; have HO_8 := n2_; have HO_9 := n3_; have HO_21 := n4_; have HO458 := n5_; have HO461 := n6_; have HB := n7_; clear n0_ n1_ n2_ n3_ n4_ n5_ n6_ n7_; (try (have n_ := Aside0.mk (Kd.R_mono (ok' := (fun k_ => some k_ ≠ (.slice (some ad465) t387.length co11 : Value).ownBlock ∧ some k_ ≠ (.slice (some ad466) t388.length co12 : Value).ownBlock ∧ some k_ ≠ (.slice (some ad464) t406.length co70 : Value).ownBlock ∧ some k_ ≠ (.slice Ao106 t456.length co106 : Value).ownBlock ∧ some k_ ≠ (.slice Ao107 t459.length co107 : Value).ownBlock)) HO_21.out (fun k_ hk => ⟨hk.1.1.1, ⟨hk.1.1.2.1, ⟨hk.1.1.2.2, ⟨hk.1.2, hk.2⟩⟩⟩⟩)); clear HO_21; have HO_21 := n_; clear n_)); (try (obtain ⟨hy109_, hz109_⟩ := Kd.R_celln 0 HO_21.out (t462 : Int) (of_decide_eq_true (by first | (with_reducible assumption) | assumption)) (of_decide_eq_true (by first | (with_reducible assumption) | assumption)))); (try (have HP109 := Kd.R_putg HO_21.out (t462 : Int) 1)))); refine store_event (t := 2) (p := 224) (v := ?vo_w110) (w1 := (w108.setCell ⟨go103, (t462 : Int).toNat, none⟩ (.int .i64 1))) ?hg ?ho ?hn ?hr ?_; (case ho => rfl); (case hg => rfl); (case hn => rfl); (case hr => first | (go_simp; done) | (go_simp; rfl)); intro w110 hw; have hg : w108.grownBy w110 (some go103) := (by rw [hw]; exact HP109.2); have hp_ : Kd.R (Kd.int .i64) 2 w110 w.heap.size (fun k_ => some k_ ≠ (.slice (some ad465) t387.length co11 : Value).ownBlock ∧ some k_ ≠ (.slice (some ad466) t388.length co12 : Value).ownBlock ∧ some k_ ≠ (.slice (some ad464) t406.length co70 : Value).ownBlock ∧ some k_ ≠ (.slice Ao106 t456.length co106 : Value).ownBlock ∧ some k_ ≠ (.slice Ao107 t459.length co107 : Value).ownBlock) (.slice (some ⟨go103, 0, none⟩) x21_6.length co71) y467 := (by rw [hw, Ny467.out]; exact HP109.1); clear HP109; replace HO_3 := Aside0.mk (Kd.R_after (v := (.slice (some ⟨go103, 0, none⟩) x21_6.length co71)) (v1 := (.slice (some ⟨go103, 0, none⟩) x21_6.length co71)) (ok := (fun k_ => some k_ ≠ (.slice (some ad466) t388.length co12 : Value).ownBlock ∧ some k_ ≠ (.slice (some ad464) t406.length co70 : Value).ownBlock ∧ some k_ ≠ (.slice Ao106 t456.length co106 : Value).ownBlock ∧ some k_ ≠ (.slice Ao107 t459.length co107 : Value).ownBlock)) (by (with_reducible repeat (first | apply Kd.R_alloc | apply Kd.R_drewN | apply Kd.R_drew)); exact Kd.R_mono HO_3.out (fun _ hk => ⟨⟨hk.1.1.1, ⟨hk.1.1.2.1, ⟨hk.1.2, hk.2⟩⟩⟩, hk.1.1.2.2⟩)) hg (.inl rfl)); replace HO_4 := Aside0.mk (Kd.R_after (v := (.slice (some ⟨go103, 0, none⟩) x21_6.length co71)) (v1 := (.slice (some ⟨go103, 0, none⟩) x21_6.length co71)) (ok := (fun k_ => some k_ ≠ (.slice (some ad465) t387.length co11 : Value).ownBlock ∧ some k_ ≠ (.slice (some ad464) t406.length co70 : Value).ownBlock ∧ some k_ ≠ (.slice Ao106 t456.length co106 : Value).ownBlock ∧ some k_ ≠ (.slice Ao107 t459.length co107 : Value).ownBlock)) (by (with_reducible repeat (first | apply Kd.R_alloc | apply Kd.R_drewN | apply Kd.R_drew)); exact Kd.R_mono HO_4.out (fun _ hk => ⟨⟨hk.1.1.1, ⟨hk.1.1.2.1, ⟨hk.1.2, hk.2⟩⟩⟩, hk.1.1.2.2⟩)) hg (.inl rfl)); replace HO_8 := Aside0.mk (Kd.R_after (v := (.slice (some ⟨go103, 0, none⟩) x21_6.length co71)) (v1 := (.slice (some ⟨go103, 0, none⟩) x21_6.length co71)) (ok := (fun k_ => some k_ ≠ (.slice (some ad465) t387.length co11 : Value).ownBlock ∧ some k_ ≠ (.slice (some ad466) t388.length co12 : Value).ownBlock ∧ some k_ ≠ (.slice Ao106 t456.length co106 : Value).ownBlock ∧ some k_ ≠ (.slice Ao107 t459.length co107 : Value).ownBlock)) (by (with_reducible repeat (first | apply Kd.R_alloc | apply Kd.R_drewN | apply Kd.R_drew)); exact Kd.R_mono HO_8.out (fun _ hk => ⟨⟨hk.1.1.1, ⟨hk.1.1.2.1, ⟨hk.1.2, hk.2⟩⟩⟩, hk.1.1.2.2⟩)) hg (.inl rfl)); replace HO_9 := Aside0.mk (Kd.R_over' (v := (.slice (some ⟨go103, 0, none⟩) x21_6.length co71)) (Law.rg HO_9.out) (Kd.R_typed HO_21.out) (by decide) hg); replace HO_21 := Aside0.mk (hp_); replace HO458 := Aside0.mk (Kd.R_after (v := (.slice (some ⟨go103, 0, none⟩) x21_6.length co71)) (v1 := (.slice (some ⟨go103, 0, none⟩) x21_6.length co71)) (ok := (fun k_ => some k_ ≠ (.slice (some ad465) t387.length co11 : Value).ownBlock ∧ some k_ ≠ (.slice (some ad466) t388.length co12 : Value).ownBlock ∧ some k_ ≠ (.slice (some ad464) t406.length co70 : Value).ownBlock ∧ some k_ ≠ (.slice Ao107 t459.length co107 : Value).ownBlock)) (by (with_reducible repeat (first | apply Kd.R_alloc | apply Kd.R_drewN | apply Kd.R_drew)); exact Kd.R_mono HO458.out (fun _ hk => ⟨⟨hk.1.1.1.1.2, ⟨hk.1.1.1.2, ⟨hk.1.1.2, hk.2⟩⟩⟩, hk.1.2⟩)) hg (.inl rfl)); replace HO461 := Aside0.mk (Kd.R_after (v := (.slice (some ⟨go103, 0, none⟩) x21_6.length co71)) (v1 := (.slice (some ⟨go103, 0, none⟩) x21_6.length co71)) (ok := (fun k_ => some k_ ≠ (.slice (some ad465) t387.length co11 : Value).ownBlock ∧ some k_ ≠ (.slice (some ad466) t388.length co12 : Value).ownBlock ∧ some k_ ≠ (.slice (some ad464) t406.length co70 : Value).ownBlock ∧ some k_ ≠ (.slice Ao106 t456.length co106 : Value).ownBlock)) (by (with_reducible repeat (first | apply Kd.R_alloc | apply Kd.R_drewN | apply Kd.R_drew)); exact Kd.R_mono HO461.out (fun _ hk => ⟨⟨hk.1.1.1.1.2, ⟨hk.1.1.1.2, ⟨hk.1.1.2, hk.2⟩⟩⟩, hk.1.2⟩)) hg (.inl rfl)); replace HB := Aside0.mk ((by rw [hw]; exact below_set (HB.out) GB103.out : Below w.heap.size w w110)); clear hg hw hp_)))
                                     go_roundg kj68
                                     case measure => have := HJ8.out; have := HJ27.out; have := HK3.out; have := HK4.out; have := HJ57.out; have := HK6.out; have := HJ68.out; omega
                                     case rel => exact ⟨(y467), (wrap64 (x22_6 + 1)), (by first | rfl | (simp; done) | (simp [*]; done)), H', ⟨by have := HJ8.out; have := HJ27.out; have := HK3.out; have := HK4.out; have := HJ57.out; have := HK6.out; have := HJ68.out; omega⟩, ⟨by (with_reducible repeat (first | apply Kd.R_alloc | apply Kd.R_drewN | apply Kd.R_drew)); exact Kd.R_mono HO_3.out (fun _ hk => ⟨hk.1.1, ⟨hk.1.2.1, hk.2⟩⟩)⟩, ⟨by (with_reducible repeat (first | apply Kd.R_alloc | apply Kd.R_drewN | apply Kd.R_drew)); exact Kd.R_mono HO_4.out (fun _ hk => ⟨hk.1.1, ⟨hk.1.2.1, hk.2⟩⟩)⟩, ⟨by (with_reducible repeat (first | apply Kd.R_alloc | apply Kd.R_drewN | apply Kd.R_drew)); exact Kd.R_mono HO_8.out (fun _ hk => ⟨hk.1.1, ⟨hk.1.2.1, hk.2⟩⟩)⟩, ⟨by (with_reducible repeat (first | apply Kd.R_alloc | apply Kd.R_drewN | apply Kd.R_drew)); exact HO_9.out⟩, ⟨by (with_reducible repeat (first | apply Kd.R_alloc | apply Kd.R_drewN | apply Kd.R_drew)); exact Kd.R_mono HO_21.out (fun _ hk => ⟨hk.1, ⟨hk.2.1, hk.2.2.1⟩⟩)⟩, ⟨by repeat (first | (with_reducible first | exact HB.out | apply below_alloc | apply pw_below_drewN | apply below_drew1) | exact HB.out)⟩⟩
                                    ·rw [if_neg c102] at H
                                     exact absurd H (by simp)
                                   ·rw [if_neg c101] at H
                                    have c101b0 : ((rd t388 t462) == 0) = false := beq_eq_false_iff_ne.mpr c101
                                    have c101b1 : ((rd t388 t462) != 0) = true := bne_iff_ne.mpr c101
                                    obtain rfl := Option.some.inj H
                                    go_wp2_with (first | (go_at_call 49; (with_reducible refine (laws_fCopyNums.calls kj68 _ _ x21_6 t456 _ ?side1 ?side2 A78.out).mono ?_); (case side1 => exact Law.cg ((Kd.R_reads' HO_21.out).2.2)); (case side2 => exact (Kd.R_reads' HO_21.out).2.1); rintro e w111 ⟨v457, rfl, ho0, hb⟩; have HO458 := Law.rL (Law.rN (Law.rN (Law.rN (Law.rN ho0 HO_3) HO_4) HO_8) HO_21) HB; replace HO_3 := Law.rE HO_3 ho0 hb; replace HO_4 := Law.rE HO_4 ho0 hb; replace HO_8 := Law.rE HO_8 ho0 hb; replace HO_9 := Law.rB HO_9 hb; replace HO_21 := Law.rE HO_21 ho0 hb; replace HB := Law.bS HB hb; (try clear hb); (try clear ho0)) | (go_at_call 49; (with_reducible refine (laws_fCopyNums.calls kj68 _ _ t388 t459 _ ?side1 ?side2 A79.out).mono ?_); (case side1 => exact Law.cg ((Kd.R_reads' HO_4.out).2.2)); (case side2 => exact (Kd.R_reads' HO_4.out).2.1); rintro e w112 ⟨v460, rfl, ho0, hb⟩; have HO461 := Law.rL (Law.rN (Law.rN (Law.rN (Law.rN (Law.rN ho0 HO_3) HO_4) HO_8) HO_21) HO458) HB; replace HO_3 := Law.rE HO_3 ho0 hb; replace HO_4 := Law.rE HO_4 ho0 hb; replace HO_8 := Law.rE HO_8 ho0 hb; replace HO_9 := Law.rB HO_9 hb; replace HO_21 := Law.rE HO_21 ho0 hb; replace HO458 := Law.rE HO458 ho0 hb; replace HB := Law.bS HB hb; (try clear hb); (try clear ho0); obtain ⟨Ao113, co113, eo113⟩ := Kd.R_slice HO458.out; subst eo113; obtain ⟨Ao114, co114, eo114⟩ := Kd.R_slice HO461.out; subst eo114) | (go_at_call 52; (with_reducible refine (impl_LowestFree.calls kj68 _ _ t456 _ _ t459 t462 t463 _ ?side1 ?side2 ?side3 ?side4 A80.out).mono ?_); (case side1 => exact Law.cg ((Kd.R_reads' HO458.out).2.2)); (case side2 => exact (Kd.R_reads' HO458.out).2.1); (case side3 => exact Law.cg ((Kd.R_reads' HO461.out).2.2)); (case side4 => exact (Kd.R_reads' HO461.out).2.1); rintro e w115 ⟨rfl, hb⟩; replace HO_3 := Law.rB HO_3 hb; replace HO_4 := Law.rB HO_4 hb; replace HO_8 := Law.rB HO_8 hb; replace HO_9 := Law.rB HO_9 hb; replace HO_21 := Law.rB HO_21 hb; replace HO458 := Law.rB HO458 hb; replace HO461 := Law.rB HO461 hb; replace HB := Law.bS HB hb; (try clear hb); have p464 : 0 ≤ (x22_6 : Int) := of_decide_eq_true (by first | (with_reducible assumption) | assumption); have q464 : x22_6 < (t406.length : Int) := of_decide_eq_true (by first | (with_reducible assumption) | assumption); obtain ⟨ad464, e464, hx464_0⟩ := Kd.at_int (Kd.R_reads' HO_8.out).2.2 x22_6 p464 q464; cases e464; replace p464 := eq_true p464; replace q464 := eq_true q464; have p465 : 0 ≤ (t462 : Int) := of_decide_eq_true (by first | (with_reducible assumption) | assumption); have q465 : t462 < (t387.length : Int) := of_decide_eq_true (by first | (with_reducible assumption) | assumption); obtain ⟨ad465, e465, hx465_0⟩ := Kd.at_int (Kd.R_reads' HO_3.out).2.2 t462 p465 q465; cases e465; replace p465 := eq_true p465; replace q465 := eq_true q465; have p466 : 0 ≤ (t462 : Int) := of_decide_eq_true (by first | (with_reducible assumption) | assumption); have q466 : t462 < (t388.length : Int) := of_decide_eq_true (by first | (with_reducible assumption) | assumption); obtain ⟨ad466, e466, hx466_0⟩ := Kd.at_int (Kd.R_reads' HO_4.out).2.2 t462 p466 q466; cases e466; replace p466 := eq_true p466; replace q466 := eq_true q466))
                                    repeat (go_quiet (first | (go_at_call 49; (with_reducible refine (laws_fCopyNums.calls kj68 _ _ x21_6 t456 _ ?side1 ?side2 A78.out).mono ?_); (case side1 => exact Law.cg ((Kd.R_reads' HO_21.out).2.2)); (case side2 => exact (Kd.R_reads' HO_21.out).2.1); rintro e w111 ⟨v457, rfl, ho0, hb⟩; have HO458 := Law.rL (Law.rN (Law.rN (Law.rN (Law.rN ho0 HO_3) HO_4) HO_8) HO_21) HB; replace HO_3 := Law.rE HO_3 ho0 hb; replace HO_4 := Law.rE HO_4 ho0 hb; replace HO_8 := Law.rE HO_8 ho0 hb; replace HO_9 := Law.rB HO_9 hb; replace HO_21 := Law.rE HO_21 ho0 hb; replace HB := Law.bS HB hb; (try clear hb); (try clear ho0)) | (go_at_call 49; (with_reducible refine (laws_fCopyNums.calls kj68 _ _ t388 t459 _ ?side1 ?side2 A79.out).mono ?_); (case side1 => exact Law.cg ((Kd.R_reads' HO_4.out).2.2)); (case side2 => exact (Kd.R_reads' HO_4.out).2.1); rintro e w112 ⟨v460, rfl, ho0, hb⟩; have HO461 := Law.rL (Law.rN (Law.rN (Law.rN (Law.rN (Law.rN ho0 HO_3) HO_4) HO_8) HO_21) HO458) HB; replace HO_3 := Law.rE HO_3 ho0 hb; replace HO_4 := Law.rE HO_4 ho0 hb; replace HO_8 := Law.rE HO_8 ho0 hb; replace HO_9 := Law.rB HO_9 hb; replace HO_21 := Law.rE HO_21 ho0 hb; replace HO458 := Law.rE HO458 ho0 hb; replace HB := Law.bS HB hb; (try clear hb); (try clear ho0); obtain ⟨Ao113, co113, eo113⟩ := Kd.R_slice HO458.out; subst eo113; obtain ⟨Ao114, co114, eo114⟩ := Kd.R_slice HO461.out; subst eo114) | (go_at_call 52; (with_reducible refine (impl_LowestFree.calls kj68 _ _ t456 _ _ t459 t462 t463 _ ?side1 ?side2 ?side3 ?side4 A80.out).mono ?_); (case side1 => exact Law.cg ((Kd.R_reads' HO458.out).2.2)); (case side2 => exact (Kd.R_reads' HO458.out).2.1); (case side3 => exact Law.cg ((Kd.R_reads' HO461.out).2.2)); (case side4 => exact (Kd.R_reads' HO461.out).2.1); rintro e w115 ⟨rfl, hb⟩; replace HO_3 := Law.rB HO_3 hb; replace HO_4 := Law.rB HO_4 hb; replace HO_8 := Law.rB HO_8 hb; replace HO_9 := Law.rB HO_9 hb; replace HO_21 := Law.rB HO_21 hb; replace HO458 := Law.rB HO458 hb; replace HO461 := Law.rB HO461 hb; replace HB := Law.bS HB hb; (try clear hb); have p464 : 0 ≤ (x22_6 : Int) := of_decide_eq_true (by first | (with_reducible assumption) | assumption); have q464 : x22_6 < (t406.length : Int) := of_decide_eq_true (by first | (with_reducible assumption) | assumption); obtain ⟨ad464, e464, hx464_0⟩ := Kd.at_int (Kd.R_reads' HO_8.out).2.2 x22_6 p464 q464; cases e464; replace p464 := eq_true p464; replace q464 := eq_true q464; have p465 : 0 ≤ (t462 : Int) := of_decide_eq_true (by first | (with_reducible assumption) | assumption); have q465 : t462 < (t387.length : Int) := of_decide_eq_true (by first | (with_reducible assumption) | assumption); obtain ⟨ad465, e465, hx465_0⟩ := Kd.at_int (Kd.R_reads' HO_3.out).2.2 t462 p465 q465; cases e465; replace p465 := eq_true p465; replace q465 := eq_true q465; have p466 : 0 ≤ (t462 : Int) := of_decide_eq_true (by first | (with_reducible assumption) | assumption); have q466 : t462 < (t388.length : Int) := of_decide_eq_true (by first | (with_reducible assumption) | assumption); obtain ⟨ad466, e466, hx466_0⟩ := Kd.at_int (Kd.R_reads' HO_4.out).2.2 t462 p466 q466; cases e466; replace p466 := eq_true p466; replace q466 := eq_true q466)); try go_wp2_with (first | (go_at_call 49; (with_reducible refine (laws_fCopyNums.calls kj68 _ _ x21_6 t456 _ ?side1 ?side2 A78.out).mono ?_); (case side1 => exact Law.cg ((Kd.R_reads' HO_21.out).2.2)); (case side2 => exact (Kd.R_reads' HO_21.out).2.1); rintro e w111 ⟨v457, rfl, ho0, hb⟩; have HO458 := Law.rL (Law.rN (Law.rN (Law.rN (Law.rN ho0 HO_3) HO_4) HO_8) HO_21) HB; replace HO_3 := Law.rE HO_3 ho0 hb; replace HO_4 := Law.rE HO_4 ho0 hb; replace HO_8 := Law.rE HO_8 ho0 hb; replace HO_9 := Law.rB HO_9 hb; replace HO_21 := Law.rE HO_21 ho0 hb; replace HB := Law.bS HB hb; (try clear hb); (try clear ho0)) | (go_at_call 49; (with_reducible refine (laws_fCopyNums.calls kj68 _ _ t388 t459 _ ?side1 ?side2 A79.out).mono ?_); (case side1 => exact Law.cg ((Kd.R_reads' HO_4.out).2.2)); (case side2 => exact (Kd.R_reads' HO_4.out).2.1); rintro e w112 ⟨v460, rfl, ho0, hb⟩; have HO461 := Law.rL (Law.rN (Law.rN (Law.rN (Law.rN (Law.rN ho0 HO_3) HO_4) HO_8) HO_21) HO458) HB; replace HO_3 := Law.rE HO_3 ho0 hb; replace HO_4 := Law.rE HO_4 ho0 hb; replace HO_8 := Law.rE HO_8 ho0 hb; replace HO_9 := Law.rB HO_9 hb; replace HO_21 := Law.rE HO_21 ho0 hb; replace HO458 := Law.rE HO458 ho0 hb; replace HB := Law.bS HB hb; (try clear hb); (try clear ho0); obtain ⟨Ao113, co113, eo113⟩ := Kd.R_slice HO458.out; subst eo113; obtain ⟨Ao114, co114, eo114⟩ := Kd.R_slice HO461.out; subst eo114) | (go_at_call 52; (with_reducible refine (impl_LowestFree.calls kj68 _ _ t456 _ _ t459 t462 t463 _ ?side1 ?side2 ?side3 ?side4 A80.out).mono ?_); (case side1 => exact Law.cg ((Kd.R_reads' HO458.out).2.2)); (case side2 => exact (Kd.R_reads' HO458.out).2.1); (case side3 => exact Law.cg ((Kd.R_reads' HO461.out).2.2)); (case side4 => exact (Kd.R_reads' HO461.out).2.1); rintro e w115 ⟨rfl, hb⟩; replace HO_3 := Law.rB HO_3 hb; replace HO_4 := Law.rB HO_4 hb; replace HO_8 := Law.rB HO_8 hb; replace HO_9 := Law.rB HO_9 hb; replace HO_21 := Law.rB HO_21 hb; replace HO458 := Law.rB HO458 hb; replace HO461 := Law.rB HO461 hb; replace HB := Law.bS HB hb; (try clear hb); have p464 : 0 ≤ (x22_6 : Int) := of_decide_eq_true (by first | (with_reducible assumption) | assumption); have q464 : x22_6 < (t406.length : Int) := of_decide_eq_true (by first | (with_reducible assumption) | assumption); obtain ⟨ad464, e464, hx464_0⟩ := Kd.at_int (Kd.R_reads' HO_8.out).2.2 x22_6 p464 q464; cases e464; replace p464 := eq_true p464; replace q464 := eq_true q464; have p465 : 0 ≤ (t462 : Int) := of_decide_eq_true (by first | (with_reducible assumption) | assumption); have q465 : t462 < (t387.length : Int) := of_decide_eq_true (by first | (with_reducible assumption) | assumption); obtain ⟨ad465, e465, hx465_0⟩ := Kd.at_int (Kd.R_reads' HO_3.out).2.2 t462 p465 q465; cases e465; replace p465 := eq_true p465; replace q465 := eq_true q465; have p466 : 0 ≤ (t462 : Int) := of_decide_eq_true (by first | (with_reducible assumption) | assumption); have q466 : t462 < (t388.length : Int) := of_decide_eq_true (by first | (with_reducible assumption) | assumption); obtain ⟨ad466, e466, hx466_0⟩ := Kd.at_int (Kd.R_reads' HO_4.out).2.2 t462 p466 q466; cases e466; replace p466 := eq_true p466; replace q466 := eq_true q466)))
                                    go_ret
                                    exact ⟨by first | rfl | (simp [errW_none, errW_some] <;> rfl) | (simp [*, errW_none, errW_some] <;> rfl), by repeat (first | (with_reducible first | exact HB.out | apply below_alloc | apply pw_below_drewN | apply below_drew1) | exact HB.out)⟩
                                  ·rw [if_neg c100] at H
                                   exact absurd H (by simp)
                                 ·rw [if_neg c99] at H
                                  have c99b0 : ((rd t387 t462) == 0) = false := beq_eq_false_iff_ne.mpr c99
                                  have c99b1 : ((rd t387 t462) != 0) = true := bne_iff_ne.mpr c99
                                  obtain rfl := Option.some.inj H
                                  go_wp2_with (first | (go_at_call 49; (with_reducible refine (laws_fCopyNums.calls kj68 _ _ x21_6 t456 _ ?side1 ?side2 A78.out).mono ?_); (case side1 => exact Law.cg ((Kd.R_reads' HO_21.out).2.2)); (case side2 => exact (Kd.R_reads' HO_21.out).2.1); rintro e w116 ⟨v457, rfl, ho0, hb⟩; have HO458 := Law.rL (Law.rN (Law.rN (Law.rN (Law.rN ho0 HO_3) HO_4) HO_8) HO_21) HB; replace HO_3 := Law.rE HO_3 ho0 hb; replace HO_4 := Law.rE HO_4 ho0 hb; replace HO_8 := Law.rE HO_8 ho0 hb; replace HO_9 := Law.rB HO_9 hb; replace HO_21 := Law.rE HO_21 ho0 hb; replace HB := Law.bS HB hb; (try clear hb); (try clear ho0)) | (go_at_call 49; (with_reducible refine (laws_fCopyNums.calls kj68 _ _ t388 t459 _ ?side1 ?side2 A79.out).mono ?_); (case side1 => exact Law.cg ((Kd.R_reads' HO_4.out).2.2)); (case side2 => exact (Kd.R_reads' HO_4.out).2.1); rintro e w117 ⟨v460, rfl, ho0, hb⟩; have HO461 := Law.rL (Law.rN (Law.rN (Law.rN (Law.rN (Law.rN ho0 HO_3) HO_4) HO_8) HO_21) HO458) HB; replace HO_3 := Law.rE HO_3 ho0 hb; replace HO_4 := Law.rE HO_4 ho0 hb; replace HO_8 := Law.rE HO_8 ho0 hb; replace HO_9 := Law.rB HO_9 hb; replace HO_21 := Law.rE HO_21 ho0 hb; replace HO458 := Law.rE HO458 ho0 hb; replace HB := Law.bS HB hb; (try clear hb); (try clear ho0); obtain ⟨Ao118, co118, eo118⟩ := Kd.R_slice HO458.out; subst eo118; obtain ⟨Ao119, co119, eo119⟩ := Kd.R_slice HO461.out; subst eo119) | (go_at_call 52; (with_reducible refine (impl_LowestFree.calls kj68 _ _ t456 _ _ t459 t462 t463 _ ?side1 ?side2 ?side3 ?side4 A80.out).mono ?_); (case side1 => exact Law.cg ((Kd.R_reads' HO458.out).2.2)); (case side2 => exact (Kd.R_reads' HO458.out).2.1); (case side3 => exact Law.cg ((Kd.R_reads' HO461.out).2.2)); (case side4 => exact (Kd.R_reads' HO461.out).2.1); rintro e w120 ⟨rfl, hb⟩; replace HO_3 := Law.rB HO_3 hb; replace HO_4 := Law.rB HO_4 hb; replace HO_8 := Law.rB HO_8 hb; replace HO_9 := Law.rB HO_9 hb; replace HO_21 := Law.rB HO_21 hb; replace HO458 := Law.rB HO458 hb; replace HO461 := Law.rB HO461 hb; replace HB := Law.bS HB hb; (try clear hb); have p464 : 0 ≤ (x22_6 : Int) := of_decide_eq_true (by first | (with_reducible assumption) | assumption); have q464 : x22_6 < (t406.length : Int) := of_decide_eq_true (by first | (with_reducible assumption) | assumption); obtain ⟨ad464, e464, hx464_0⟩ := Kd.at_int (Kd.R_reads' HO_8.out).2.2 x22_6 p464 q464; cases e464; replace p464 := eq_true p464; replace q464 := eq_true q464; have p465 : 0 ≤ (t462 : Int) := of_decide_eq_true (by first | (with_reducible assumption) | assumption); have q465 : t462 < (t387.length : Int) := of_decide_eq_true (by first | (with_reducible assumption) | assumption); obtain ⟨ad465, e465, hx465_0⟩ := Kd.at_int (Kd.R_reads' HO_3.out).2.2 t462 p465 q465; cases e465; replace p465 := eq_true p465; replace q465 := eq_true q465))
                                  repeat (go_quiet (first | (go_at_call 49; (with_reducible refine (laws_fCopyNums.calls kj68 _ _ x21_6 t456 _ ?side1 ?side2 A78.out).mono ?_); (case side1 => exact Law.cg ((Kd.R_reads' HO_21.out).2.2)); (case side2 => exact (Kd.R_reads' HO_21.out).2.1); rintro e w116 ⟨v457, rfl, ho0, hb⟩; have HO458 := Law.rL (Law.rN (Law.rN (Law.rN (Law.rN ho0 HO_3) HO_4) HO_8) HO_21) HB; replace HO_3 := Law.rE HO_3 ho0 hb; replace HO_4 := Law.rE HO_4 ho0 hb; replace HO_8 := Law.rE HO_8 ho0 hb; replace HO_9 := Law.rB HO_9 hb; replace HO_21 := Law.rE HO_21 ho0 hb; replace HB := Law.bS HB hb; (try clear hb); (try clear ho0)) | (go_at_call 49; (with_reducible refine (laws_fCopyNums.calls kj68 _ _ t388 t459 _ ?side1 ?side2 A79.out).mono ?_); (case side1 => exact Law.cg ((Kd.R_reads' HO_4.out).2.2)); (case side2 => exact (Kd.R_reads' HO_4.out).2.1); rintro e w117 ⟨v460, rfl, ho0, hb⟩; have HO461 := Law.rL (Law.rN (Law.rN (Law.rN (Law.rN (Law.rN ho0 HO_3) HO_4) HO_8) HO_21) HO458) HB; replace HO_3 := Law.rE HO_3 ho0 hb; replace HO_4 := Law.rE HO_4 ho0 hb; replace HO_8 := Law.rE HO_8 ho0 hb; replace HO_9 := Law.rB HO_9 hb; replace HO_21 := Law.rE HO_21 ho0 hb; replace HO458 := Law.rE HO458 ho0 hb; replace HB := Law.bS HB hb; (try clear hb); (try clear ho0); obtain ⟨Ao118, co118, eo118⟩ := Kd.R_slice HO458.out; subst eo118; obtain ⟨Ao119, co119, eo119⟩ := Kd.R_slice HO461.out; subst eo119) | (go_at_call 52; (with_reducible refine (impl_LowestFree.calls kj68 _ _ t456 _ _ t459 t462 t463 _ ?side1 ?side2 ?side3 ?side4 A80.out).mono ?_); (case side1 => exact Law.cg ((Kd.R_reads' HO458.out).2.2)); (case side2 => exact (Kd.R_reads' HO458.out).2.1); (case side3 => exact Law.cg ((Kd.R_reads' HO461.out).2.2)); (case side4 => exact (Kd.R_reads' HO461.out).2.1); rintro e w120 ⟨rfl, hb⟩; replace HO_3 := Law.rB HO_3 hb; replace HO_4 := Law.rB HO_4 hb; replace HO_8 := Law.rB HO_8 hb; replace HO_9 := Law.rB HO_9 hb; replace HO_21 := Law.rB HO_21 hb; replace HO458 := Law.rB HO458 hb; replace HO461 := Law.rB HO461 hb; replace HB := Law.bS HB hb; (try clear hb); have p464 : 0 ≤ (x22_6 : Int) := of_decide_eq_true (by first | (with_reducible assumption) | assumption); have q464 : x22_6 < (t406.length : Int) := of_decide_eq_true (by first | (with_reducible assumption) | assumption); obtain ⟨ad464, e464, hx464_0⟩ := Kd.at_int (Kd.R_reads' HO_8.out).2.2 x22_6 p464 q464; cases e464; replace p464 := eq_true p464; replace q464 := eq_true q464; have p465 : 0 ≤ (t462 : Int) := of_decide_eq_true (by first | (with_reducible assumption) | assumption); have q465 : t462 < (t387.length : Int) := of_decide_eq_true (by first | (with_reducible assumption) | assumption); obtain ⟨ad465, e465, hx465_0⟩ := Kd.at_int (Kd.R_reads' HO_3.out).2.2 t462 p465 q465; cases e465; replace p465 := eq_true p465; replace q465 := eq_true q465)); try go_wp2_with (first | (go_at_call 49; (with_reducible refine (laws_fCopyNums.calls kj68 _ _ x21_6 t456 _ ?side1 ?side2 A78.out).mono ?_); (case side1 => exact Law.cg ((Kd.R_reads' HO_21.out).2.2)); (case side2 => exact (Kd.R_reads' HO_21.out).2.1); rintro e w116 ⟨v457, rfl, ho0, hb⟩; have HO458 := Law.rL (Law.rN (Law.rN (Law.rN (Law.rN ho0 HO_3) HO_4) HO_8) HO_21) HB; replace HO_3 := Law.rE HO_3 ho0 hb; replace HO_4 := Law.rE HO_4 ho0 hb; replace HO_8 := Law.rE HO_8 ho0 hb; replace HO_9 := Law.rB HO_9 hb; replace HO_21 := Law.rE HO_21 ho0 hb; replace HB := Law.bS HB hb; (try clear hb); (try clear ho0)) | (go_at_call 49; (with_reducible refine (laws_fCopyNums.calls kj68 _ _ t388 t459 _ ?side1 ?side2 A79.out).mono ?_); (case side1 => exact Law.cg ((Kd.R_reads' HO_4.out).2.2)); (case side2 => exact (Kd.R_reads' HO_4.out).2.1); rintro e w117 ⟨v460, rfl, ho0, hb⟩; have HO461 := Law.rL (Law.rN (Law.rN (Law.rN (Law.rN (Law.rN ho0 HO_3) HO_4) HO_8) HO_21) HO458) HB; replace HO_3 := Law.rE HO_3 ho0 hb; replace HO_4 := Law.rE HO_4 ho0 hb; replace HO_8 := Law.rE HO_8 ho0 hb; replace HO_9 := Law.rB HO_9 hb; replace HO_21 := Law.rE HO_21 ho0 hb; replace HO458 := Law.rE HO458 ho0 hb; replace HB := Law.bS HB hb; (try clear hb); (try clear ho0); obtain ⟨Ao118, co118, eo118⟩ := Kd.R_slice HO458.out; subst eo118; obtain ⟨Ao119, co119, eo119⟩ := Kd.R_slice HO461.out; subst eo119) | (go_at_call 52; (with_reducible refine (impl_LowestFree.calls kj68 _ _ t456 _ _ t459 t462 t463 _ ?side1 ?side2 ?side3 ?side4 A80.out).mono ?_); (case side1 => exact Law.cg ((Kd.R_reads' HO458.out).2.2)); (case side2 => exact (Kd.R_reads' HO458.out).2.1); (case side3 => exact Law.cg ((Kd.R_reads' HO461.out).2.2)); (case side4 => exact (Kd.R_reads' HO461.out).2.1); rintro e w120 ⟨rfl, hb⟩; replace HO_3 := Law.rB HO_3 hb; replace HO_4 := Law.rB HO_4 hb; replace HO_8 := Law.rB HO_8 hb; replace HO_9 := Law.rB HO_9 hb; replace HO_21 := Law.rB HO_21 hb; replace HO458 := Law.rB HO458 hb; replace HO461 := Law.rB HO461 hb; replace HB := Law.bS HB hb; (try clear hb); have p464 : 0 ≤ (x22_6 : Int) := of_decide_eq_true (by first | (with_reducible assumption) | assumption); have q464 : x22_6 < (t406.length : Int) := of_decide_eq_true (by first | (with_reducible assumption) | assumption); obtain ⟨ad464, e464, hx464_0⟩ := Kd.at_int (Kd.R_reads' HO_8.out).2.2 x22_6 p464 q464; cases e464; replace p464 := eq_true p464; replace q464 := eq_true q464; have p465 : 0 ≤ (t462 : Int) := of_decide_eq_true (by first | (with_reducible assumption) | assumption); have q465 : t462 < (t387.length : Int) := of_decide_eq_true (by first | (with_reducible assumption) | assumption); obtain ⟨ad465, e465, hx465_0⟩ := Kd.at_int (Kd.R_reads' HO_3.out).2.2 t462 p465 q465; cases e465; replace p465 := eq_true p465; replace q465 := eq_true q465)))
                                  go_ret
                                  exact ⟨by first | rfl | (simp [errW_none, errW_some] <;> rfl) | (simp [*, errW_none, errW_some] <;> rfl), by repeat (first | (with_reducible first | exact HB.out | apply below_alloc | apply pw_below_drewN | apply below_drew1) | exact HB.out)⟩
                                ·rw [if_neg c98] at H
                                 exact absurd H (by simp)
                               ·rw [if_neg c97] at H
                                exact absurd H (by simp)
                            ·rw [if_neg c84] at H
                             have c84b0 : (t462 == (rd t406 x22_6)) = false := beq_eq_false_iff_ne.mpr c84
                             have c84b1 : (t462 != (rd t406 x22_6)) = true := bne_iff_ne.mpr c84
                             obtain rfl := Option.some.inj H
                             go_wp2_with (first | (go_at_call 49; (with_reducible refine (laws_fCopyNums.calls kj68 _ _ x21_6 t456 _ ?side1 ?side2 A78.out).mono ?_); (case side1 => exact Law.cg ((Kd.R_reads' HO_21.out).2.2)); (case side2 => exact (Kd.R_reads' HO_21.out).2.1); rintro e w121 ⟨v457, rfl, ho0, hb⟩; have HO458 := Law.rL (Law.rN (Law.rN (Law.rN (Law.rN ho0 HO_3) HO_4) HO_8) HO_21) HB; replace HO_3 := Law.rE HO_3 ho0 hb; replace HO_4 := Law.rE HO_4 ho0 hb; replace HO_8 := Law.rE HO_8 ho0 hb; replace HO_9 := Law.rB HO_9 hb; replace HO_21 := Law.rE HO_21 ho0 hb; replace HB := Law.bS HB hb; (try clear hb); (try clear ho0)) | (go_at_call 49; (with_reducible refine (laws_fCopyNums.calls kj68 _ _ t388 t459 _ ?side1 ?side2 A79.out).mono ?_); (case side1 => exact Law.cg ((Kd.R_reads' HO_4.out).2.2)); (case side2 => exact (Kd.R_reads' HO_4.out).2.1); rintro e w122 ⟨v460, rfl, ho0, hb⟩; have HO461 := Law.rL (Law.rN (Law.rN (Law.rN (Law.rN (Law.rN ho0 HO_3) HO_4) HO_8) HO_21) HO458) HB; replace HO_3 := Law.rE HO_3 ho0 hb; replace HO_4 := Law.rE HO_4 ho0 hb; replace HO_8 := Law.rE HO_8 ho0 hb; replace HO_9 := Law.rB HO_9 hb; replace HO_21 := Law.rE HO_21 ho0 hb; replace HO458 := Law.rE HO458 ho0 hb; replace HB := Law.bS HB hb; (try clear hb); (try clear ho0); obtain ⟨Ao123, co123, eo123⟩ := Kd.R_slice HO458.out; subst eo123; obtain ⟨Ao124, co124, eo124⟩ := Kd.R_slice HO461.out; subst eo124) | (go_at_call 52; (with_reducible refine (impl_LowestFree.calls kj68 _ _ t456 _ _ t459 t462 t463 _ ?side1 ?side2 ?side3 ?side4 A80.out).mono ?_); (case side1 => exact Law.cg ((Kd.R_reads' HO458.out).2.2)); (case side2 => exact (Kd.R_reads' HO458.out).2.1); (case side3 => exact Law.cg ((Kd.R_reads' HO461.out).2.2)); (case side4 => exact (Kd.R_reads' HO461.out).2.1); rintro e w125 ⟨rfl, hb⟩; replace HO_3 := Law.rB HO_3 hb; replace HO_4 := Law.rB HO_4 hb; replace HO_8 := Law.rB HO_8 hb; replace HO_9 := Law.rB HO_9 hb; replace HO_21 := Law.rB HO_21 hb; replace HO458 := Law.rB HO458 hb; replace HO461 := Law.rB HO461 hb; replace HB := Law.bS HB hb; (try clear hb); have p464 : 0 ≤ (x22_6 : Int) := of_decide_eq_true (by first | (with_reducible assumption) | assumption); have q464 : x22_6 < (t406.length : Int) := of_decide_eq_true (by first | (with_reducible assumption) | assumption); obtain ⟨ad464, e464, hx464_0⟩ := Kd.at_int (Kd.R_reads' HO_8.out).2.2 x22_6 p464 q464; cases e464; replace p464 := eq_true p464; replace q464 := eq_true q464))
                             repeat (go_quiet (first | (go_at_call 49; (with_reducible refine (laws_fCopyNums.calls kj68 _ _ x21_6 t456 _ ?side1 ?side2 A78.out).mono ?_); (case side1 => exact Law.cg ((Kd.R_reads' HO_21.out).2.2)); (case side2 => exact (Kd.R_reads' HO_21.out).2.1); rintro e w121 ⟨v457, rfl, ho0, hb⟩; have HO458 := Law.rL (Law.rN (Law.rN (Law.rN (Law.rN ho0 HO_3) HO_4) HO_8) HO_21) HB; replace HO_3 := Law.rE HO_3 ho0 hb; replace HO_4 := Law.rE HO_4 ho0 hb; replace HO_8 := Law.rE HO_8 ho0 hb; replace HO_9 := Law.rB HO_9 hb; replace HO_21 := Law.rE HO_21 ho0 hb; replace HB := Law.bS HB hb; (try clear hb); (try clear ho0)) | (go_at_call 49; (with_reducible refine (laws_fCopyNums.calls kj68 _ _ t388 t459 _ ?side1 ?side2 A79.out).mono ?_); (case side1 => exact Law.cg ((Kd.R_reads' HO_4.out).2.2)); (case side2 => exact (Kd.R_reads' HO_4.out).2.1); rintro e w122 ⟨v460, rfl, ho0, hb⟩; have HO461 := Law.rL (Law.rN (Law.rN (Law.rN (Law.rN (Law.rN ho0 HO_3) HO_4) HO_8) HO_21) HO458) HB; replace HO_3 := Law.rE HO_3 ho0 hb; replace HO_4 := Law.rE HO_4 ho0 hb; replace HO_8 := Law.rE HO_8 ho0 hb; replace HO_9 := Law.rB HO_9 hb; replace HO_21 := Law.rE HO_21 ho0 hb; replace HO458 := Law.rE HO458 ho0 hb; replace HB := Law.bS HB hb; (try clear hb); (try clear ho0); obtain ⟨Ao123, co123, eo123⟩ := Kd.R_slice HO458.out; subst eo123; obtain ⟨Ao124, co124, eo124⟩ := Kd.R_slice HO461.out; subst eo124) | (go_at_call 52; (with_reducible refine (impl_LowestFree.calls kj68 _ _ t456 _ _ t459 t462 t463 _ ?side1 ?side2 ?side3 ?side4 A80.out).mono ?_); (case side1 => exact Law.cg ((Kd.R_reads' HO458.out).2.2)); (case side2 => exact (Kd.R_reads' HO458.out).2.1); (case side3 => exact Law.cg ((Kd.R_reads' HO461.out).2.2)); (case side4 => exact (Kd.R_reads' HO461.out).2.1); rintro e w125 ⟨rfl, hb⟩; replace HO_3 := Law.rB HO_3 hb; replace HO_4 := Law.rB HO_4 hb; replace HO_8 := Law.rB HO_8 hb; replace HO_9 := Law.rB HO_9 hb; replace HO_21 := Law.rB HO_21 hb; replace HO458 := Law.rB HO458 hb; replace HO461 := Law.rB HO461 hb; replace HB := Law.bS HB hb; (try clear hb); have p464 : 0 ≤ (x22_6 : Int) := of_decide_eq_true (by first | (with_reducible assumption) | assumption); have q464 : x22_6 < (t406.length : Int) := of_decide_eq_true (by first | (with_reducible assumption) | assumption); obtain ⟨ad464, e464, hx464_0⟩ := Kd.at_int (Kd.R_reads' HO_8.out).2.2 x22_6 p464 q464; cases e464; replace p464 := eq_true p464; replace q464 := eq_true q464)); try go_wp2_with (first | (go_at_call 49; (with_reducible refine (laws_fCopyNums.calls kj68 _ _ x21_6 t456 _ ?side1 ?side2 A78.out).mono ?_); (case side1 => exact Law.cg ((Kd.R_reads' HO_21.out).2.2)); (case side2 => exact (Kd.R_reads' HO_21.out).2.1); rintro e w121 ⟨v457, rfl, ho0, hb⟩; have HO458 := Law.rL (Law.rN (Law.rN (Law.rN (Law.rN ho0 HO_3) HO_4) HO_8) HO_21) HB; replace HO_3 := Law.rE HO_3 ho0 hb; replace HO_4 := Law.rE HO_4 ho0 hb; replace HO_8 := Law.rE HO_8 ho0 hb; replace HO_9 := Law.rB HO_9 hb; replace HO_21 := Law.rE HO_21 ho0 hb; replace HB := Law.bS HB hb; (try clear hb); (try clear ho0)) | (go_at_call 49; (with_reducible refine (laws_fCopyNums.calls kj68 _ _ t388 t459 _ ?side1 ?side2 A79.out).mono ?_); (case side1 => exact Law.cg ((Kd.R_reads' HO_4.out).2.2)); (case side2 => exact (Kd.R_reads' HO_4.out).2.1); rintro e w122 ⟨v460, rfl, ho0, hb⟩; have HO461 := Law.rL (Law.rN (Law.rN (Law.rN (Law.rN (Law.rN ho0 HO_3) HO_4) HO_8) HO_21) HO458) HB; replace HO_3 := Law.rE HO_3 ho0 hb; replace HO_4 := Law.rE HO_4 ho0 hb; replace HO_8 := Law.rE HO_8 ho0 hb; replace HO_9 := Law.rB HO_9 hb; replace HO_21 := Law.rE HO_21 ho0 hb; replace HO458 := Law.rE HO458 ho0 hb; replace HB := Law.bS HB hb; (try clear hb); (try clear ho0); obtain ⟨Ao123, co123, eo123⟩ := Kd.R_slice HO458.out; subst eo123; obtain ⟨Ao124, co124, eo124⟩ := Kd.R_slice HO461.out; subst eo124) | (go_at_call 52; (with_reducible refine (impl_LowestFree.calls kj68 _ _ t456 _ _ t459 t462 t463 _ ?side1 ?side2 ?side3 ?side4 A80.out).mono ?_); (case side1 => exact Law.cg ((Kd.R_reads' HO458.out).2.2)); (case side2 => exact (Kd.R_reads' HO458.out).2.1); (case side3 => exact Law.cg ((Kd.R_reads' HO461.out).2.2)); (case side4 => exact (Kd.R_reads' HO461.out).2.1); rintro e w125 ⟨rfl, hb⟩; replace HO_3 := Law.rB HO_3 hb; replace HO_4 := Law.rB HO_4 hb; replace HO_8 := Law.rB HO_8 hb; replace HO_9 := Law.rB HO_9 hb; replace HO_21 := Law.rB HO_21 hb; replace HO458 := Law.rB HO458 hb; replace HO461 := Law.rB HO461 hb; replace HB := Law.bS HB hb; (try clear hb); have p464 : 0 ≤ (x22_6 : Int) := of_decide_eq_true (by first | (with_reducible assumption) | assumption); have q464 : x22_6 < (t406.length : Int) := of_decide_eq_true (by first | (with_reducible assumption) | assumption); obtain ⟨ad464, e464, hx464_0⟩ := Kd.at_int (Kd.R_reads' HO_8.out).2.2 x22_6 p464 q464; cases e464; replace p464 := eq_true p464; replace q464 := eq_true q464)))
                             go_ret
                             exact ⟨by first | rfl | (simp [errW_none, errW_some] <;> rfl) | (simp [*, errW_none, errW_some] <;> rfl), by repeat (first | (with_reducible first | exact HB.out | apply below_alloc | apply pw_below_drewN | apply below_drew1) | exact HB.out)⟩
                           ·rw [if_neg c83] at H
                            exact absurd H (by simp)
                          ·rw [if_neg c82] at H
                           exact absurd H (by simp)
                         ·rw [if_neg c81] at H
                          have c81b0 : (t463 == 0) = false := beq_eq_false_iff_ne.mpr c81
                          have c81b1 : (t463 != 0) = true := bne_iff_ne.mpr c81
                          obtain rfl := Option.some.inj H
                          go_wp2_with (first | (go_at_call 49; (with_reducible refine (laws_fCopyNums.calls kj68 _ _ x21_6 t456 _ ?side1 ?side2 A78.out).mono ?_); (case side1 => exact Law.cg ((Kd.R_reads' HO_21.out).2.2)); (case side2 => exact (Kd.R_reads' HO_21.out).2.1); rintro e w126 ⟨v457, rfl, ho0, hb⟩; have HO458 := Law.rL (Law.rN (Law.rN (Law.rN (Law.rN ho0 HO_3) HO_4) HO_8) HO_21) HB; replace HO_3 := Law.rE HO_3 ho0 hb; replace HO_4 := Law.rE HO_4 ho0 hb; replace HO_8 := Law.rE HO_8 ho0 hb; replace HO_9 := Law.rB HO_9 hb; replace HO_21 := Law.rE HO_21 ho0 hb; replace HB := Law.bS HB hb; (try clear hb); (try clear ho0)) | (go_at_call 49; (with_reducible refine (laws_fCopyNums.calls kj68 _ _ t388 t459 _ ?side1 ?side2 A79.out).mono ?_); (case side1 => exact Law.cg ((Kd.R_reads' HO_4.out).2.2)); (case side2 => exact (Kd.R_reads' HO_4.out).2.1); rintro e w127 ⟨v460, rfl, ho0, hb⟩; have HO461 := Law.rL (Law.rN (Law.rN (Law.rN (Law.rN (Law.rN ho0 HO_3) HO_4) HO_8) HO_21) HO458) HB; replace HO_3 := Law.rE HO_3 ho0 hb; replace HO_4 := Law.rE HO_4 ho0 hb; replace HO_8 := Law.rE HO_8 ho0 hb; replace HO_9 := Law.rB HO_9 hb; replace HO_21 := Law.rE HO_21 ho0 hb; replace HO458 := Law.rE HO458 ho0 hb; replace HB := Law.bS HB hb; (try clear hb); (try clear ho0); obtain ⟨Ao128, co128, eo128⟩ := Kd.R_slice HO458.out; subst eo128; obtain ⟨Ao129, co129, eo129⟩ := Kd.R_slice HO461.out; subst eo129) | (go_at_call 52; (with_reducible refine (impl_LowestFree.calls kj68 _ _ t456 _ _ t459 t462 t463 _ ?side1 ?side2 ?side3 ?side4 A80.out).mono ?_); (case side1 => exact Law.cg ((Kd.R_reads' HO458.out).2.2)); (case side2 => exact (Kd.R_reads' HO458.out).2.1); (case side3 => exact Law.cg ((Kd.R_reads' HO461.out).2.2)); (case side4 => exact (Kd.R_reads' HO461.out).2.1); rintro e w130 ⟨rfl, hb⟩; replace HO_3 := Law.rB HO_3 hb; replace HO_4 := Law.rB HO_4 hb; replace HO_8 := Law.rB HO_8 hb; replace HO_9 := Law.rB HO_9 hb; replace HO_21 := Law.rB HO_21 hb; replace HO458 := Law.rB HO458 hb; replace HO461 := Law.rB HO461 hb; replace HB := Law.bS HB hb; (try clear hb)))
                          repeat (go_quiet (first | (go_at_call 49; (with_reducible refine (laws_fCopyNums.calls kj68 _ _ x21_6 t456 _ ?side1 ?side2 A78.out).mono ?_); (case side1 => exact Law.cg ((Kd.R_reads' HO_21.out).2.2)); (case side2 => exact (Kd.R_reads' HO_21.out).2.1); rintro e w126 ⟨v457, rfl, ho0, hb⟩; have HO458 := Law.rL (Law.rN (Law.rN (Law.rN (Law.rN ho0 HO_3) HO_4) HO_8) HO_21) HB; replace HO_3 := Law.rE HO_3 ho0 hb; replace HO_4 := Law.rE HO_4 ho0 hb; replace HO_8 := Law.rE HO_8 ho0 hb; replace HO_9 := Law.rB HO_9 hb; replace HO_21 := Law.rE HO_21 ho0 hb; replace HB := Law.bS HB hb; (try clear hb); (try clear ho0)) | (go_at_call 49; (with_reducible refine (laws_fCopyNums.calls kj68 _ _ t388 t459 _ ?side1 ?side2 A79.out).mono ?_); (case side1 => exact Law.cg ((Kd.R_reads' HO_4.out).2.2)); (case side2 => exact (Kd.R_reads' HO_4.out).2.1); rintro e w127 ⟨v460, rfl, ho0, hb⟩; have HO461 := Law.rL (Law.rN (Law.rN (Law.rN (Law.rN (Law.rN ho0 HO_3) HO_4) HO_8) HO_21) HO458) HB; replace HO_3 := Law.rE HO_3 ho0 hb; replace HO_4 := Law.rE HO_4 ho0 hb; replace HO_8 := Law.rE HO_8 ho0 hb; replace HO_9 := Law.rB HO_9 hb; replace HO_21 := Law.rE HO_21 ho0 hb; replace HO458 := Law.rE HO458 ho0 hb; replace HB := Law.bS HB hb; (try clear hb); (try clear ho0); obtain ⟨Ao128, co128, eo128⟩ := Kd.R_slice HO458.out; subst eo128; obtain ⟨Ao129, co129, eo129⟩ := Kd.R_slice HO461.out; subst eo129) | (go_at_call 52; (with_reducible refine (impl_LowestFree.calls kj68 _ _ t456 _ _ t459 t462 t463 _ ?side1 ?side2 ?side3 ?side4 A80.out).mono ?_); (case side1 => exact Law.cg ((Kd.R_reads' HO458.out).2.2)); (case side2 => exact (Kd.R_reads' HO458.out).2.1); (case side3 => exact Law.cg ((Kd.R_reads' HO461.out).2.2)); (case side4 => exact (Kd.R_reads' HO461.out).2.1); rintro e w130 ⟨rfl, hb⟩; replace HO_3 := Law.rB HO_3 hb; replace HO_4 := Law.rB HO_4 hb; replace HO_8 := Law.rB HO_8 hb; replace HO_9 := Law.rB HO_9 hb; replace HO_21 := Law.rB HO_21 hb; replace HO458 := Law.rB HO458 hb; replace HO461 := Law.rB HO461 hb; replace HB := Law.bS HB hb; (try clear hb))); try go_wp2_with (first | (go_at_call 49; (with_reducible refine (laws_fCopyNums.calls kj68 _ _ x21_6 t456 _ ?side1 ?side2 A78.out).mono ?_); (case side1 => exact Law.cg ((Kd.R_reads' HO_21.out).2.2)); (case side2 => exact (Kd.R_reads' HO_21.out).2.1); rintro e w126 ⟨v457, rfl, ho0, hb⟩; have HO458 := Law.rL (Law.rN (Law.rN (Law.rN (Law.rN ho0 HO_3) HO_4) HO_8) HO_21) HB; replace HO_3 := Law.rE HO_3 ho0 hb; replace HO_4 := Law.rE HO_4 ho0 hb; replace HO_8 := Law.rE HO_8 ho0 hb; replace HO_9 := Law.rB HO_9 hb; replace HO_21 := Law.rE HO_21 ho0 hb; replace HB := Law.bS HB hb; (try clear hb); (try clear ho0)) | (go_at_call 49; (with_reducible refine (laws_fCopyNums.calls kj68 _ _ t388 t459 _ ?side1 ?side2 A79.out).mono ?_); (case side1 => exact Law.cg ((Kd.R_reads' HO_4.out).2.2)); (case side2 => exact (Kd.R_reads' HO_4.out).2.1); rintro e w127 ⟨v460, rfl, ho0, hb⟩; have HO461 := Law.rL (Law.rN (Law.rN (Law.rN (Law.rN (Law.rN ho0 HO_3) HO_4) HO_8) HO_21) HO458) HB; replace HO_3 := Law.rE HO_3 ho0 hb; replace HO_4 := Law.rE HO_4 ho0 hb; replace HO_8 := Law.rE HO_8 ho0 hb; replace HO_9 := Law.rB HO_9 hb; replace HO_21 := Law.rE HO_21 ho0 hb; replace HO458 := Law.rE HO458 ho0 hb; replace HB := Law.bS HB hb; (try clear hb); (try clear ho0); obtain ⟨Ao128, co128, eo128⟩ := Kd.R_slice HO458.out; subst eo128; obtain ⟨Ao129, co129, eo129⟩ := Kd.R_slice HO461.out; subst eo129) | (go_at_call 52; (with_reducible refine (impl_LowestFree.calls kj68 _ _ t456 _ _ t459 t462 t463 _ ?side1 ?side2 ?side3 ?side4 A80.out).mono ?_); (case side1 => exact Law.cg ((Kd.R_reads' HO458.out).2.2)); (case side2 => exact (Kd.R_reads' HO458.out).2.1); (case side3 => exact Law.cg ((Kd.R_reads' HO461.out).2.2)); (case side4 => exact (Kd.R_reads' HO461.out).2.1); rintro e w130 ⟨rfl, hb⟩; replace HO_3 := Law.rB HO_3 hb; replace HO_4 := Law.rB HO_4 hb; replace HO_8 := Law.rB HO_8 hb; replace HO_9 := Law.rB HO_9 hb; replace HO_21 := Law.rB HO_21 hb; replace HO458 := Law.rB HO458 hb; replace HO461 := Law.rB HO461 hb; replace HB := Law.bS HB hb; (try clear hb))))
                          go_ret
                          exact ⟨by first | rfl | (simp [errW_none, errW_some] <;> rfl) | (simp [*, errW_none, errW_some] <;> rfl), by repeat (first | (with_reducible first | exact HB.out | apply below_alloc | apply pw_below_drewN | apply below_drew1) | exact HB.out)⟩
                     ·rw [if_neg c66] at H
                      have c66b0 : decide (x22_6 < (t406.length : Int)) = false := decide_eq_false c66
                      clear c66
                      replace H := Option.bind_eq_some_iff.mp H
                      obtain ⟨t441, A1310, H⟩ := H
                      replace H : ((impl_RunsOf.f k6 t441).bind fun bt444 => (if (t406.length : Int) > 0 then (if bt444.2 = 0 then ((laws_lRuns.f k6 bt444.1 t409).bind fun t448 => (if t448 = true then (some (decide ((t409.length : Int) ≤ (wrap64 (20 * (t406.length : Int)))))) else (some false))) else (some false)) else (some false))) = some r := H
                      have A131 := Aside0.mk A1310
                      clear A1310
                      replace H := Option.bind_eq_some_iff.mp H
                      obtain ⟨⟨t444, t447⟩, A1320, H⟩ := H
                      replace H : (if (t406.length : Int) > 0 then (if t447 = 0 then ((laws_lRuns.f k6 t444 t409).bind fun t448 => (if t448 = true then (some (decide ((t409.length : Int) ≤ (wrap64 (20 * (t406.length : Int)))))) else (some false))) else (some false)) else (some false)) = some r := H
                      have A132 := Aside0.mk A1320
                      clear A1320
                      by_cases c133 : (t406.length : Int) > 0
                      ·rw [if_pos c133] at H
                       have c133b0 : decide (0 < (t406.length : Int)) = true := decide_eq_true c133
                       have c133b1 : decide (0 < t406.length) = true := decide_eq_true (by omega)
                       clear c133
                       by_cases c134 : t447 = 0
                       ·rw [if_pos c134] at H
                        have c134b0 : (t447 == 0) = true := beq_iff_eq.mpr c134
                        have c134b1 : (t447 != 0) = false := bne_eq_false_iff_eq.mpr c134
                        clear c134
                        replace H := Option.bind_eq_some_iff.mp H
                        obtain ⟨t448, A1350, H⟩ := H
                        replace H : (if t448 = true then (some (decide ((t409.length : Int) ≤ (wrap64 (20 * (t406.length : Int)))))) else (some false)) = some r := H
                        have A135 := Aside0.mk A1350
                        clear A1350
                        by_cases c136 : t448 = true
                        ·subst c136
                         have H1 : (some (decide ((t409.length : Int) ≤ (wrap64 (20 * (t406.length : Int)))))) = some r := by rw [if_pos rfl] at H; exact H
                         clear H
                         have H := H1
                         clear H1
                         obtain rfl := Option.some.inj H
                         obtain ⟨Ao137, co137, eo137⟩ := Kd.R_slice HO_8.out
                         subst eo137
                         obtain ⟨Ao138, co138, eo138⟩ := Kd.R_slice HO_21.out
                         subst eo138
                         go_wp2_with (first | (go_at_call 49; (with_reducible refine (laws_fCopyNums.calls k6 _ _ x21_6 t441 _ ?side1 ?side2 A131.out).mono ?_); (case side1 => exact Law.cg ((Kd.R_reads' HO_21.out).2.2)); (case side2 => exact (Kd.R_reads' HO_21.out).2.1); rintro e w139 ⟨v442, rfl, ho0, hb⟩; have HO443 := Law.rL (Law.rN (Law.rN (Law.rN (Law.rN ho0 HO_3) HO_4) HO_8) HO_21) HB; replace HO_3 := Law.rE HO_3 ho0 hb; replace HO_4 := Law.rE HO_4 ho0 hb; replace HO_8 := Law.rE HO_8 ho0 hb; replace HO_9 := Law.rB HO_9 hb; replace HO_21 := Law.rE HO_21 ho0 hb; replace HB := Law.bS HB hb; (try clear hb); (try clear ho0); obtain ⟨Ao140, co140, eo140⟩ := Kd.R_slice HO443.out; subst eo140) | (go_at_call 24; (with_reducible refine (impl_RunsOf.calls k6 (fun k_ => some k_ = (.slice Ao140 t441.length co140 : Value).ownBlock) _ _ t441 t444 t447 _ ?side1 A132.out).mono ?_); (case side1 => exact Kd.R_V (Kd.R_tight rfl (Kd.R_apart' (HO443.out) (Kd.R_typed HO_9.out) (by decide)))); rintro e w141 ⟨v445, rfl, ho0, hb⟩; have HO446 := Law.rL (Law.rN (Kd.R_mono (ok' := fun k_ => True) ho0 (fun _ hk_ => trivial)) HO_9) HB; replace HO_3 := Law.rB HO_3 hb; replace HO_4 := Law.rB HO_4 hb; replace HO_8 := Law.rB HO_8 hb; replace HO_9 := Law.rE HO_9 ho0 hb; replace HO_21 := Law.rB HO_21 hb; replace HO443 := Law.rB HO443 hb; replace HB := Law.bS HB hb; (try clear hb); (try clear ho0); obtain ⟨Ao142, co142, eo142⟩ := Kd.R_slice HO446.out; subst eo142; obtain ⟨Ao143, co143, eo143⟩ := Kd.R_slice HO_9.out; subst eo143) | (go_at_call 53; (with_reducible refine (laws_lRuns.calls k6 _ _ t444 _ _ t409 true _ ?side1 ?side2 ?side3 ?side4 A135.out).mono ?_); (case side1 => exact Law.cg ((Kd.R_reads' HO446.out).2.2)); (case side2 => exact (Kd.R_reads' HO446.out).2.1); (case side3 => exact Law.cg ((Kd.R_reads' HO_9.out).2.2)); (case side4 => exact (Kd.R_reads' HO_9.out).2.1); rintro e w' ⟨rfl, ⟨nd, rfl⟩⟩; (try first | exact ⟨rfl, _, World.drewN_drewN _ _ _⟩ | exact ⟨rfl, _, Eq.trans (World.drewN_drewN _ _ _) (congrArg (World.drewN _) (Nat.add_assoc _ _ _))⟩)))
                         repeat (go_quiet (first | (go_at_call 49; (with_reducible refine (laws_fCopyNums.calls k6 _ _ x21_6 t441 _ ?side1 ?side2 A131.out).mono ?_); (case side1 => exact Law.cg ((Kd.R_reads' HO_21.out).2.2)); (case side2 => exact (Kd.R_reads' HO_21.out).2.1); rintro e w139 ⟨v442, rfl, ho0, hb⟩; have HO443 := Law.rL (Law.rN (Law.rN (Law.rN (Law.rN ho0 HO_3) HO_4) HO_8) HO_21) HB; replace HO_3 := Law.rE HO_3 ho0 hb; replace HO_4 := Law.rE HO_4 ho0 hb; replace HO_8 := Law.rE HO_8 ho0 hb; replace HO_9 := Law.rB HO_9 hb; replace HO_21 := Law.rE HO_21 ho0 hb; replace HB := Law.bS HB hb; (try clear hb); (try clear ho0); obtain ⟨Ao140, co140, eo140⟩ := Kd.R_slice HO443.out; subst eo140) | (go_at_call 24; (with_reducible refine (impl_RunsOf.calls k6 (fun k_ => some k_ = (.slice Ao140 t441.length co140 : Value).ownBlock) _ _ t441 t444 t447 _ ?side1 A132.out).mono ?_); (case side1 => exact Kd.R_V (Kd.R_tight rfl (Kd.R_apart' (HO443.out) (Kd.R_typed HO_9.out) (by decide)))); rintro e w141 ⟨v445, rfl, ho0, hb⟩; have HO446 := Law.rL (Law.rN (Kd.R_mono (ok' := fun k_ => True) ho0 (fun _ hk_ => trivial)) HO_9) HB; replace HO_3 := Law.rB HO_3 hb; replace HO_4 := Law.rB HO_4 hb; replace HO_8 := Law.rB HO_8 hb; replace HO_9 := Law.rE HO_9 ho0 hb; replace HO_21 := Law.rB HO_21 hb; replace HO443 := Law.rB HO443 hb; replace HB := Law.bS HB hb; (try clear hb); (try clear ho0); obtain ⟨Ao142, co142, eo142⟩ := Kd.R_slice HO446.out; subst eo142; obtain ⟨Ao143, co143, eo143⟩ := Kd.R_slice HO_9.out; subst eo143) | (go_at_call 53; (with_reducible refine (laws_lRuns.calls k6 _ _ t444 _ _ t409 true _ ?side1 ?side2 ?side3 ?side4 A135.out).mono ?_); (case side1 => exact Law.cg ((Kd.R_reads' HO446.out).2.2)); (case side2 => exact (Kd.R_reads' HO446.out).2.1); (case side3 => exact Law.cg ((Kd.R_reads' HO_9.out).2.2)); (case side4 => exact (Kd.R_reads' HO_9.out).2.1); rintro e w' ⟨rfl, ⟨nd, rfl⟩⟩; (try first | exact ⟨rfl, _, World.drewN_drewN _ _ _⟩ | exact ⟨rfl, _, Eq.trans (World.drewN_drewN _ _ _) (congrArg (World.drewN _) (Nat.add_assoc _ _ _))⟩))); try go_wp2_with (first | (go_at_call 49; (with_reducible refine (laws_fCopyNums.calls k6 _ _ x21_6 t441 _ ?side1 ?side2 A131.out).mono ?_); (case side1 => exact Law.cg ((Kd.R_reads' HO_21.out).2.2)); (case side2 => exact (Kd.R_reads' HO_21.out).2.1); rintro e w139 ⟨v442, rfl, ho0, hb⟩; have HO443 := Law.rL (Law.rN (Law.rN (Law.rN (Law.rN ho0 HO_3) HO_4) HO_8) HO_21) HB; replace HO_3 := Law.rE HO_3 ho0 hb; replace HO_4 := Law.rE HO_4 ho0 hb; replace HO_8 := Law.rE HO_8 ho0 hb; replace HO_9 := Law.rB HO_9 hb; replace HO_21 := Law.rE HO_21 ho0 hb; replace HB := Law.bS HB hb; (try clear hb); (try clear ho0); obtain ⟨Ao140, co140, eo140⟩ := Kd.R_slice HO443.out; subst eo140) | (go_at_call 24; (with_reducible refine (impl_RunsOf.calls k6 (fun k_ => some k_ = (.slice Ao140 t441.length co140 : Value).ownBlock) _ _ t441 t444 t447 _ ?side1 A132.out).mono ?_); (case side1 => exact Kd.R_V (Kd.R_tight rfl (Kd.R_apart' (HO443.out) (Kd.R_typed HO_9.out) (by decide)))); rintro e w141 ⟨v445, rfl, ho0, hb⟩; have HO446 := Law.rL (Law.rN (Kd.R_mono (ok' := fun k_ => True) ho0 (fun _ hk_ => trivial)) HO_9) HB; replace HO_3 := Law.rB HO_3 hb; replace HO_4 := Law.rB HO_4 hb; replace HO_8 := Law.rB HO_8 hb; replace HO_9 := Law.rE HO_9 ho0 hb; replace HO_21 := Law.rB HO_21 hb; replace HO443 := Law.rB HO443 hb; replace HB := Law.bS HB hb; (try clear hb); (try clear ho0); obtain ⟨Ao142, co142, eo142⟩ := Kd.R_slice HO446.out; subst eo142; obtain ⟨Ao143, co143, eo143⟩ := Kd.R_slice HO_9.out; subst eo143) | (go_at_call 53; (with_reducible refine (laws_lRuns.calls k6 _ _ t444 _ _ t409 true _ ?side1 ?side2 ?side3 ?side4 A135.out).mono ?_); (case side1 => exact Law.cg ((Kd.R_reads' HO446.out).2.2)); (case side2 => exact (Kd.R_reads' HO446.out).2.1); (case side3 => exact Law.cg ((Kd.R_reads' HO_9.out).2.2)); (case side4 => exact (Kd.R_reads' HO_9.out).2.1); rintro e w' ⟨rfl, ⟨nd, rfl⟩⟩; (try first | exact ⟨rfl, _, World.drewN_drewN _ _ _⟩ | exact ⟨rfl, _, Eq.trans (World.drewN_drewN _ _ _) (congrArg (World.drewN _) (Nat.add_assoc _ _ _))⟩))))
                         go_ret
                         exact ⟨by first | rfl | (simp [errW_none, errW_some] <;> rfl) | (simp [*, errW_none, errW_some] <;> rfl), by repeat (first | (with_reducible first | exact HB.out | apply below_alloc | apply pw_below_drewN | apply below_drew1) | exact HB.out)⟩
                        ·replace c136 := Bool.eq_false_iff.mpr c136
                         subst c136
                         have H1 : (some false) = some r := by rw [if_neg (show ¬ (false = true) by decide)] at H; exact H
                         clear H
                         have H := H1
                         clear H1
                         obtain rfl := Option.some.inj H
                         obtain ⟨Ao144, co144, eo144⟩ := Kd.R_slice HO_8.out
                         subst eo144
                         obtain ⟨Ao145, co145, eo145⟩ := Kd.R_slice HO_21.out
                         subst eo145
                         go_wp2_with (first | (go_at_call 49; (with_reducible refine (laws_fCopyNums.calls k6 _ _ x21_6 t441 _ ?side1 ?side2 A131.out).mono ?_); (case side1 => exact Law.cg ((Kd.R_reads' HO_21.out).2.2)); (case side2 => exact (Kd.R_reads' HO_21.out).2.1); rintro e w146 ⟨v442, rfl, ho0, hb⟩; have HO443 := Law.rL (Law.rN (Law.rN (Law.rN (Law.rN ho0 HO_3) HO_4) HO_8) HO_21) HB; replace HO_3 := Law.rE HO_3 ho0 hb; replace HO_4 := Law.rE HO_4 ho0 hb; replace HO_8 := Law.rE HO_8 ho0 hb; replace HO_9 := Law.rB HO_9 hb; replace HO_21 := Law.rE HO_21 ho0 hb; replace HB := Law.bS HB hb; (try clear hb); (try clear ho0); obtain ⟨Ao147, co147, eo147⟩ := Kd.R_slice HO443.out; subst eo147) | (go_at_call 24; (with_reducible refine (impl_RunsOf.calls k6 (fun k_ => some k_ = (.slice Ao147 t441.length co147 : Value).ownBlock) _ _ t441 t444 t447 _ ?side1 A132.out).mono ?_); (case side1 => exact Kd.R_V (Kd.R_tight rfl (Kd.R_apart' (HO443.out) (Kd.R_typed HO_9.out) (by decide)))); rintro e w148 ⟨v445, rfl, ho0, hb⟩; have HO446 := Law.rL (Law.rN (Kd.R_mono (ok' := fun k_ => True) ho0 (fun _ hk_ => trivial)) HO_9) HB; replace HO_3 := Law.rB HO_3 hb; replace HO_4 := Law.rB HO_4 hb; replace HO_8 := Law.rB HO_8 hb; replace HO_9 := Law.rE HO_9 ho0 hb; replace HO_21 := Law.rB HO_21 hb; replace HO443 := Law.rB HO443 hb; replace HB := Law.bS HB hb; (try clear hb); (try clear ho0); obtain ⟨Ao149, co149, eo149⟩ := Kd.R_slice HO446.out; subst eo149; obtain ⟨Ao150, co150, eo150⟩ := Kd.R_slice HO_9.out; subst eo150) | (go_at_call 53; (with_reducible refine (laws_lRuns.calls k6 _ _ t444 _ _ t409 false _ ?side1 ?side2 ?side3 ?side4 A135.out).mono ?_); (case side1 => exact Law.cg ((Kd.R_reads' HO446.out).2.2)); (case side2 => exact (Kd.R_reads' HO446.out).2.1); (case side3 => exact Law.cg ((Kd.R_reads' HO_9.out).2.2)); (case side4 => exact (Kd.R_reads' HO_9.out).2.1); rintro e w' ⟨rfl, ⟨nd, rfl⟩⟩; (try first | exact ⟨rfl, _, World.drewN_drewN _ _ _⟩ | exact ⟨rfl, _, Eq.trans (World.drewN_drewN _ _ _) (congrArg (World.drewN _) (Nat.add_assoc _ _ _))⟩)))
                         repeat (go_quiet (first | (go_at_call 49; (with_reducible refine (laws_fCopyNums.calls k6 _ _ x21_6 t441 _ ?side1 ?side2 A131.out).mono ?_); (case side1 => exact Law.cg ((Kd.R_reads' HO_21.out).2.2)); (case side2 => exact (Kd.R_reads' HO_21.out).2.1); rintro e w146 ⟨v442, rfl, ho0, hb⟩; have HO443 := Law.rL (Law.rN (Law.rN (Law.rN (Law.rN ho0 HO_3) HO_4) HO_8) HO_21) HB; replace HO_3 := Law.rE HO_3 ho0 hb; replace HO_4 := Law.rE HO_4 ho0 hb; replace HO_8 := Law.rE HO_8 ho0 hb; replace HO_9 := Law.rB HO_9 hb; replace HO_21 := Law.rE HO_21 ho0 hb; replace HB := Law.bS HB hb; (try clear hb); (try clear ho0); obtain ⟨Ao147, co147, eo147⟩ := Kd.R_slice HO443.out; subst eo147) | (go_at_call 24; (with_reducible refine (impl_RunsOf.calls k6 (fun k_ => some k_ = (.slice Ao147 t441.length co147 : Value).ownBlock) _ _ t441 t444 t447 _ ?side1 A132.out).mono ?_); (case side1 => exact Kd.R_V (Kd.R_tight rfl (Kd.R_apart' (HO443.out) (Kd.R_typed HO_9.out) (by decide)))); rintro e w148 ⟨v445, rfl, ho0, hb⟩; have HO446 := Law.rL (Law.rN (Kd.R_mono (ok' := fun k_ => True) ho0 (fun _ hk_ => trivial)) HO_9) HB; replace HO_3 := Law.rB HO_3 hb; replace HO_4 := Law.rB HO_4 hb; replace HO_8 := Law.rB HO_8 hb; replace HO_9 := Law.rE HO_9 ho0 hb; replace HO_21 := Law.rB HO_21 hb; replace HO443 := Law.rB HO443 hb; replace HB := Law.bS HB hb; (try clear hb); (try clear ho0); obtain ⟨Ao149, co149, eo149⟩ := Kd.R_slice HO446.out; subst eo149; obtain ⟨Ao150, co150, eo150⟩ := Kd.R_slice HO_9.out; subst eo150) | (go_at_call 53; (with_reducible refine (laws_lRuns.calls k6 _ _ t444 _ _ t409 false _ ?side1 ?side2 ?side3 ?side4 A135.out).mono ?_); (case side1 => exact Law.cg ((Kd.R_reads' HO446.out).2.2)); (case side2 => exact (Kd.R_reads' HO446.out).2.1); (case side3 => exact Law.cg ((Kd.R_reads' HO_9.out).2.2)); (case side4 => exact (Kd.R_reads' HO_9.out).2.1); rintro e w' ⟨rfl, ⟨nd, rfl⟩⟩; (try first | exact ⟨rfl, _, World.drewN_drewN _ _ _⟩ | exact ⟨rfl, _, Eq.trans (World.drewN_drewN _ _ _) (congrArg (World.drewN _) (Nat.add_assoc _ _ _))⟩))); try go_wp2_with (first | (go_at_call 49; (with_reducible refine (laws_fCopyNums.calls k6 _ _ x21_6 t441 _ ?side1 ?side2 A131.out).mono ?_); (case side1 => exact Law.cg ((Kd.R_reads' HO_21.out).2.2)); (case side2 => exact (Kd.R_reads' HO_21.out).2.1); rintro e w146 ⟨v442, rfl, ho0, hb⟩; have HO443 := Law.rL (Law.rN (Law.rN (Law.rN (Law.rN ho0 HO_3) HO_4) HO_8) HO_21) HB; replace HO_3 := Law.rE HO_3 ho0 hb; replace HO_4 := Law.rE HO_4 ho0 hb; replace HO_8 := Law.rE HO_8 ho0 hb; replace HO_9 := Law.rB HO_9 hb; replace HO_21 := Law.rE HO_21 ho0 hb; replace HB := Law.bS HB hb; (try clear hb); (try clear ho0); obtain ⟨Ao147, co147, eo147⟩ := Kd.R_slice HO443.out; subst eo147) | (go_at_call 24; (with_reducible refine (impl_RunsOf.calls k6 (fun k_ => some k_ = (.slice Ao147 t441.length co147 : Value).ownBlock) _ _ t441 t444 t447 _ ?side1 A132.out).mono ?_); (case side1 => exact Kd.R_V (Kd.R_tight rfl (Kd.R_apart' (HO443.out) (Kd.R_typed HO_9.out) (by decide)))); rintro e w148 ⟨v445, rfl, ho0, hb⟩; have HO446 := Law.rL (Law.rN (Kd.R_mono (ok' := fun k_ => True) ho0 (fun _ hk_ => trivial)) HO_9) HB; replace HO_3 := Law.rB HO_3 hb; replace HO_4 := Law.rB HO_4 hb; replace HO_8 := Law.rB HO_8 hb; replace HO_9 := Law.rE HO_9 ho0 hb; replace HO_21 := Law.rB HO_21 hb; replace HO443 := Law.rB HO443 hb; replace HB := Law.bS HB hb; (try clear hb); (try clear ho0); obtain ⟨Ao149, co149, eo149⟩ := Kd.R_slice HO446.out; subst eo149; obtain ⟨Ao150, co150, eo150⟩ := Kd.R_slice HO_9.out; subst eo150) | (go_at_call 53; (with_reducible refine (laws_lRuns.calls k6 _ _ t444 _ _ t409 false _ ?side1 ?side2 ?side3 ?side4 A135.out).mono ?_); (case side1 => exact Law.cg ((Kd.R_reads' HO446.out).2.2)); (case side2 => exact (Kd.R_reads' HO446.out).2.1); (case side3 => exact Law.cg ((Kd.R_reads' HO_9.out).2.2)); (case side4 => exact (Kd.R_reads' HO_9.out).2.1); rintro e w' ⟨rfl, ⟨nd, rfl⟩⟩; (try first | exact ⟨rfl, _, World.drewN_drewN _ _ _⟩ | exact ⟨rfl, _, Eq.trans (World.drewN_drewN _ _ _) (congrArg (World.drewN _) (Nat.add_assoc _ _ _))⟩))))
                         go_ret
                         exact ⟨by first | rfl | (simp [errW_none, errW_some] <;> rfl) | (simp [*, errW_none, errW_some] <;> rfl), by repeat (first | (with_reducible first | exact HB.out | apply below_alloc | apply pw_below_drewN | apply below_drew1) | exact HB.out)⟩
                       ·rw [if_neg c134] at H
                        have c134b0 : (t447 == 0) = false := beq_eq_false_iff_ne.mpr c134
                        have c134b1 : (t447 != 0) = true := bne_iff_ne.mpr c134
                        obtain rfl := Option.some.inj H
                        obtain ⟨Ao151, co151, eo151⟩ := Kd.R_slice HO_8.out
                        subst eo151
                        obtain ⟨Ao152, co152, eo152⟩ := Kd.R_slice HO_21.out
                        subst eo152
                        go_wp2_with (first | (go_at_call 49; (with_reducible refine (laws_fCopyNums.calls k6 _ _ x21_6 t441 _ ?side1 ?side2 A131.out).mono ?_); (case side1 => exact Law.cg ((Kd.R_reads' HO_21.out).2.2)); (case side2 => exact (Kd.R_reads' HO_21.out).2.1); rintro e w153 ⟨v442, rfl, ho0, hb⟩; have HO443 := Law.rL (Law.rN (Law.rN (Law.rN (Law.rN ho0 HO_3) HO_4) HO_8) HO_21) HB; replace HO_3 := Law.rE HO_3 ho0 hb; replace HO_4 := Law.rE HO_4 ho0 hb; replace HO_8 := Law.rE HO_8 ho0 hb; replace HO_9 := Law.rB HO_9 hb; replace HO_21 := Law.rE HO_21 ho0 hb; replace HB := Law.bS HB hb; (try clear hb); (try clear ho0); obtain ⟨Ao154, co154, eo154⟩ := Kd.R_slice HO443.out; subst eo154) | (go_at_call 24; (with_reducible refine (impl_RunsOf.calls k6 (fun k_ => some k_ = (.slice Ao154 t441.length co154 : Value).ownBlock) _ _ t441 t444 t447 _ ?side1 A132.out).mono ?_); (case side1 => exact Kd.R_V (Kd.R_tight rfl (Kd.R_apart' (HO443.out) (Kd.R_typed HO_9.out) (by decide)))); rintro e w155 ⟨v445, rfl, ho0, hb⟩; have HO446 := Law.rL (Law.rN (Kd.R_mono (ok' := fun k_ => True) ho0 (fun _ hk_ => trivial)) HO_9) HB; replace HO_3 := Law.rB HO_3 hb; replace HO_4 := Law.rB HO_4 hb; replace HO_8 := Law.rB HO_8 hb; replace HO_9 := Law.rE HO_9 ho0 hb; replace HO_21 := Law.rB HO_21 hb; replace HO443 := Law.rB HO443 hb; replace HB := Law.bS HB hb; (try clear hb); (try clear ho0)))
                        repeat (go_quiet (first | (go_at_call 49; (with_reducible refine (laws_fCopyNums.calls k6 _ _ x21_6 t441 _ ?side1 ?side2 A131.out).mono ?_); (case side1 => exact Law.cg ((Kd.R_reads' HO_21.out).2.2)); (case side2 => exact (Kd.R_reads' HO_21.out).2.1); rintro e w153 ⟨v442, rfl, ho0, hb⟩; have HO443 := Law.rL (Law.rN (Law.rN (Law.rN (Law.rN ho0 HO_3) HO_4) HO_8) HO_21) HB; replace HO_3 := Law.rE HO_3 ho0 hb; replace HO_4 := Law.rE HO_4 ho0 hb; replace HO_8 := Law.rE HO_8 ho0 hb; replace HO_9 := Law.rB HO_9 hb; replace HO_21 := Law.rE HO_21 ho0 hb; replace HB := Law.bS HB hb; (try clear hb); (try clear ho0); obtain ⟨Ao154, co154, eo154⟩ := Kd.R_slice HO443.out; subst eo154) | (go_at_call 24; (with_reducible refine (impl_RunsOf.calls k6 (fun k_ => some k_ = (.slice Ao154 t441.length co154 : Value).ownBlock) _ _ t441 t444 t447 _ ?side1 A132.out).mono ?_); (case side1 => exact Kd.R_V (Kd.R_tight rfl (Kd.R_apart' (HO443.out) (Kd.R_typed HO_9.out) (by decide)))); rintro e w155 ⟨v445, rfl, ho0, hb⟩; have HO446 := Law.rL (Law.rN (Kd.R_mono (ok' := fun k_ => True) ho0 (fun _ hk_ => trivial)) HO_9) HB; replace HO_3 := Law.rB HO_3 hb; replace HO_4 := Law.rB HO_4 hb; replace HO_8 := Law.rB HO_8 hb; replace HO_9 := Law.rE HO_9 ho0 hb; replace HO_21 := Law.rB HO_21 hb; replace HO443 := Law.rB HO443 hb; replace HB := Law.bS HB hb; (try clear hb); (try clear ho0))); try go_wp2_with (first | (go_at_call 49; (with_reducible refine (laws_fCopyNums.calls k6 _ _ x21_6 t441 _ ?side1 ?side2 A131.out).mono ?_); (case side1 => exact Law.cg ((Kd.R_reads' HO_21.out).2.2)); (case side2 => exact (Kd.R_reads' HO_21.out).2.1); rintro e w153 ⟨v442, rfl, ho0, hb⟩; have HO443 := Law.rL (Law.rN (Law.rN (Law.rN (Law.rN ho0 HO_3) HO_4) HO_8) HO_21) HB; replace HO_3 := Law.rE HO_3 ho0 hb; replace HO_4 := Law.rE HO_4 ho0 hb; replace HO_8 := Law.rE HO_8 ho0 hb; replace HO_9 := Law.rB HO_9 hb; replace HO_21 := Law.rE HO_21 ho0 hb; replace HB := Law.bS HB hb; (try clear hb); (try clear ho0); obtain ⟨Ao154, co154, eo154⟩ := Kd.R_slice HO443.out; subst eo154) | (go_at_call 24; (with_reducible refine (impl_RunsOf.calls k6 (fun k_ => some k_ = (.slice Ao154 t441.length co154 : Value).ownBlock) _ _ t441 t444 t447 _ ?side1 A132.out).mono ?_); (case side1 => exact Kd.R_V (Kd.R_tight rfl (Kd.R_apart' (HO443.out) (Kd.R_typed HO_9.out) (by decide)))); rintro e w155 ⟨v445, rfl, ho0, hb⟩; have HO446 := Law.rL (Law.rN (Kd.R_mono (ok' := fun k_ => True) ho0 (fun _ hk_ => trivial)) HO_9) HB; replace HO_3 := Law.rB HO_3 hb; replace HO_4 := Law.rB HO_4 hb; replace HO_8 := Law.rB HO_8 hb; replace HO_9 := Law.rE HO_9 ho0 hb; replace HO_21 := Law.rB HO_21 hb; replace HO443 := Law.rB HO443 hb; replace HB := Law.bS HB hb; (try clear hb); (try clear ho0))))
                        go_ret
                        exact ⟨by first | rfl | (simp [errW_none, errW_some] <;> rfl) | (simp [*, errW_none, errW_some] <;> rfl), by repeat (first | (with_reducible first | exact HB.out | apply below_alloc | apply pw_below_drewN | apply below_drew1) | exact HB.out)⟩
                      ·rw [if_neg c133] at H
                       have c133b0 : decide (0 < (t406.length : Int)) = false := decide_eq_false c133
                       have c133b1 : decide (0 < t406.length) = false := decide_eq_false (by omega)
                       clear c133
                       obtain rfl := Option.some.inj H
                       obtain ⟨Ao156, co156, eo156⟩ := Kd.R_slice HO_8.out
                       subst eo156
                       obtain ⟨Ao157, co157, eo157⟩ := Kd.R_slice HO_21.out
                       subst eo157
                       go_wp2_with (first | (go_at_call 49; (with_reducible refine (laws_fCopyNums.calls k6 _ _ x21_6 t441 _ ?side1 ?side2 A131.out).mono ?_); (case side1 => exact Law.cg ((Kd.R_reads' HO_21.out).2.2)); (case side2 => exact (Kd.R_reads' HO_21.out).2.1); rintro e w158 ⟨v442, rfl, ho0, hb⟩; have HO443 := Law.rL (Law.rN (Law.rN (Law.rN (Law.rN ho0 HO_3) HO_4) HO_8) HO_21) HB; replace HO_3 := Law.rE HO_3 ho0 hb; replace HO_4 := Law.rE HO_4 ho0 hb; replace HO_8 := Law.rE HO_8 ho0 hb; replace HO_9 := Law.rB HO_9 hb; replace HO_21 := Law.rE HO_21 ho0 hb; replace HB := Law.bS HB hb; (try clear hb); (try clear ho0); obtain ⟨Ao159, co159, eo159⟩ := Kd.R_slice HO443.out; subst eo159) | (go_at_call 24; (with_reducible refine (impl_RunsOf.calls k6 (fun k_ => some k_ = (.slice Ao159 t441.length co159 : Value).ownBlock) _ _ t441 t444 t447 _ ?side1 A132.out).mono ?_); (case side1 => exact Kd.R_V (Kd.R_tight rfl (Kd.R_apart' (HO443.out) (Kd.R_typed HO_9.out) (by decide)))); rintro e w160 ⟨v445, rfl, ho0, hb⟩; have HO446 := Law.rL (Law.rN (Kd.R_mono (ok' := fun k_ => True) ho0 (fun _ hk_ => trivial)) HO_9) HB; replace HO_3 := Law.rB HO_3 hb; replace HO_4 := Law.rB HO_4 hb; replace HO_8 := Law.rB HO_8 hb; replace HO_9 := Law.rE HO_9 ho0 hb; replace HO_21 := Law.rB HO_21 hb; replace HO443 := Law.rB HO443 hb; replace HB := Law.bS HB hb; (try clear hb); (try clear ho0)))
                       repeat (go_quiet (first | (go_at_call 49; (with_reducible refine (laws_fCopyNums.calls k6 _ _ x21_6 t441 _ ?side1 ?side2 A131.out).mono ?_); (case side1 => exact Law.cg ((Kd.R_reads' HO_21.out).2.2)); (case side2 => exact (Kd.R_reads' HO_21.out).2.1); rintro e w158 ⟨v442, rfl, ho0, hb⟩; have HO443 := Law.rL (Law.rN (Law.rN (Law.rN (Law.rN ho0 HO_3) HO_4) HO_8) HO_21) HB; replace HO_3 := Law.rE HO_3 ho0 hb; replace HO_4 := Law.rE HO_4 ho0 hb; replace HO_8 := Law.rE HO_8 ho0 hb; replace HO_9 := Law.rB HO_9 hb; replace HO_21 := Law.rE HO_21 ho0 hb; replace HB := Law.bS HB hb; (try clear hb); (try clear ho0); obtain ⟨Ao159, co159, eo159⟩ := Kd.R_slice HO443.out; subst eo159) | (go_at_call 24; (with_reducible refine (impl_RunsOf.calls k6 (fun k_ => some k_ = (.slice Ao159 t441.length co159 : Value).ownBlock) _ _ t441 t444 t447 _ ?side1 A132.out).mono ?_); (case side1 => exact Kd.R_V (Kd.R_tight rfl (Kd.R_apart' (HO443.out) (Kd.R_typed HO_9.out) (by decide)))); rintro e w160 ⟨v445, rfl, ho0, hb⟩; have HO446 := Law.rL (Law.rN (Kd.R_mono (ok' := fun k_ => True) ho0 (fun _ hk_ => trivial)) HO_9) HB; replace HO_3 := Law.rB HO_3 hb; replace HO_4 := Law.rB HO_4 hb; replace HO_8 := Law.rB HO_8 hb; replace HO_9 := Law.rE HO_9 ho0 hb; replace HO_21 := Law.rB HO_21 hb; replace HO443 := Law.rB HO443 hb; replace HB := Law.bS HB hb; (try clear hb); (try clear ho0))); try go_wp2_with (first | (go_at_call 49; (with_reducible refine (laws_fCopyNums.calls k6 _ _ x21_6 t441 _ ?side1 ?side2 A131.out).mono ?_); (case side1 => exact Law.cg ((Kd.R_reads' HO_21.out).2.2)); (case side2 => exact (Kd.R_reads' HO_21.out).2.1); rintro e w158 ⟨v442, rfl, ho0, hb⟩; have HO443 := Law.rL (Law.rN (Law.rN (Law.rN (Law.rN ho0 HO_3) HO_4) HO_8) HO_21) HB; replace HO_3 := Law.rE HO_3 ho0 hb; replace HO_4 := Law.rE HO_4 ho0 hb; replace HO_8 := Law.rE HO_8 ho0 hb; replace HO_9 := Law.rB HO_9 hb; replace HO_21 := Law.rE HO_21 ho0 hb; replace HB := Law.bS HB hb; (try clear hb); (try clear ho0); obtain ⟨Ao159, co159, eo159⟩ := Kd.R_slice HO443.out; subst eo159) | (go_at_call 24; (with_reducible refine (impl_RunsOf.calls k6 (fun k_ => some k_ = (.slice Ao159 t441.length co159 : Value).ownBlock) _ _ t441 t444 t447 _ ?side1 A132.out).mono ?_); (case side1 => exact Kd.R_V (Kd.R_tight rfl (Kd.R_apart' (HO443.out) (Kd.R_typed HO_9.out) (by decide)))); rintro e w160 ⟨v445, rfl, ho0, hb⟩; have HO446 := Law.rL (Law.rN (Kd.R_mono (ok' := fun k_ => True) ho0 (fun _ hk_ => trivial)) HO_9) HB; replace HO_3 := Law.rB HO_3 hb; replace HO_4 := Law.rB HO_4 hb; replace HO_8 := Law.rB HO_8 hb; replace HO_9 := Law.rE HO_9 ho0 hb; replace HO_21 := Law.rB HO_21 hb; replace HO443 := Law.rB HO443 hb; replace HB := Law.bS HB hb; (try clear hb); (try clear ho0))))
                       go_ret
                       exact ⟨by first | rfl | (simp [errW_none, errW_some] <;> rfl) | (simp [*, errW_none, errW_some] <;> rfl), by repeat (first | (with_reducible first | exact HB.out | apply below_alloc | apply pw_below_drewN | apply below_drew1) | exact HB.out)⟩
  ·rw [if_neg c8] at H
   have c8b0 : (t412 == t395) = false := beq_eq_false_iff_ne.mpr c8
   have c8b1 : (t412 != t395) = true := bne_iff_ne.mpr c8
   obtain rfl := Option.some.inj H
   go_enter Try.func11, Try.ntmps11
   go_wp2_with (first | (go_at_call 48; (with_reducible refine (spec_DrawPlanTable.calls k _ _ l0 t387 t388 _ ?side1 ?side2 A3.out).mono ?_); (case side1 => exact Law.cg (HR0.out)); (case side2 => exact HC0.out); rintro e w161 ⟨v389, v391, rfl, ho0, ho1, hb⟩; have HO390 := Law.rL ho0 HB; have HO392 := Law.rL ho1 HB; replace HB := Law.bS HB hb; (try clear hb); (try clear ho0); (try clear ho1); obtain ⟨Ao162, co162, eo162⟩ := Kd.R_slice HO390.out; subst eo162; obtain ⟨Ao163, co163, eo163⟩ := Kd.R_slice HO392.out; subst eo163) | (go_at_call 35; (with_reducible refine (spec_PlanTable.calls k _ _ t387 _ _ t388 t393 t394 t395 _ ?side1 ?side2 ?side3 ?side4 A4.out).mono ?_); (case side1 => exact Law.cg ((Kd.R_reads' HO390.out).2.2)); (case side2 => exact (Kd.R_reads' HO390.out).2.1); (case side3 => exact Law.cg ((Kd.R_reads' HO392.out).2.2)); (case side4 => exact (Kd.R_reads' HO392.out).2.1); rintro e w164 ⟨v396, v398, rfl, ho0, ho1, hb⟩; have HO397 := Law.rL (Law.rN (Law.rN ho0 HO390) HO392) HB; have HO399 := Law.rL ho1 HB; replace HO390 := Law.rE HO390 ho0 hb; replace HO392 := Law.rE HO392 ho0 hb; replace HB := Law.bS HB hb; (try clear hb); (try clear ho0); (try clear ho1)) | (go_at_call 49; (with_reducible refine (laws_fCopyNums.calls k _ _ t387 t400 _ ?side1 ?side2 A5.out).mono ?_); (case side1 => exact Law.cg ((Kd.R_reads' HO390.out).2.2)); (case side2 => exact (Kd.R_reads' HO390.out).2.1); rintro e w165 ⟨v401, rfl, ho0, hb⟩; have HO402 := Law.rL (Law.rN (Law.rN (Law.rN ho0 HO390) HO392) HO397) HB; replace HO390 := Law.rE HO390 ho0 hb; replace HO392 := Law.rE HO392 ho0 hb; replace HO397 := Law.rE HO397 ho0 hb; replace HO399 := Law.rB HO399 hb; replace HB := Law.bS HB hb; (try clear hb); (try clear ho0)) | (go_at_call 49; (with_reducible refine (laws_fCopyNums.calls k _ _ t388 t403 _ ?side1 ?side2 A6.out).mono ?_); (case side1 => exact Law.cg ((Kd.R_reads' HO392.out).2.2)); (case side2 => exact (Kd.R_reads' HO392.out).2.1); rintro e w166 ⟨v404, rfl, ho0, hb⟩; have HO405 := Law.rL (Law.rN (Law.rN (Law.rN (Law.rN ho0 HO390) HO392) HO397) HO402) HB; replace HO390 := Law.rE HO390 ho0 hb; replace HO392 := Law.rE HO392 ho0 hb; replace HO397 := Law.rE HO397 ho0 hb; replace HO399 := Law.rB HO399 hb; replace HO402 := Law.rE HO402 ho0 hb; replace HB := Law.bS HB hb; (try clear hb); (try clear ho0); obtain ⟨Ao167, co167, eo167⟩ := Kd.R_slice HO402.out; subst eo167; obtain ⟨Ao168, co168, eo168⟩ := Kd.R_slice HO405.out; subst eo168) | (go_at_call 36; (with_reducible refine (impl_PlanTable.calls k (fun k_ => some k_ = (.slice Ao167 t400.length co167 : Value).ownBlock) _ _ t400 (fun k_ => some k_ = (.slice Ao168 t403.length co168 : Value).ownBlock) _ _ t403 t406 t409 t412 _ ?side1 ?side2 A7.out).mono ?_); (case side1 => exact Kd.R_V (Kd.R_tight rfl (Kd.R_apart' (HO402.out) (Kd.R_typed HO399.out) (by decide)))); (case side2 => exact Kd.R_V (Kd.R_tight rfl (Kd.R_apart' (HO405.out) (Kd.R_typed HO399.out) (by decide)))); rintro e w169 ⟨v407, v410, rfl, ho0, ho1, hb⟩; have HO408 := Law.rL (Law.rN (Law.rN (Law.rN (Law.rN (Law.rN (Kd.R_mono (ok' := fun k_ => True) ho0 (fun _ hk_ => trivial)) HO390) HO392) HO397) HO402) HO405) HB; have HO411 := Law.rL (Law.rN (Kd.R_mono (ok' := fun k_ => True) ho1 (fun _ hk_ => trivial)) HO399) HB; replace HO390 := Law.rE HO390 ho0 hb; replace HO392 := Law.rE HO392 ho0 hb; replace HO397 := Law.rE HO397 ho0 hb; replace HO399 := Law.rE HO399 ho1 hb; replace HO402 := Law.rE HO402 ho0 hb; replace HO405 := Law.rE HO405 ho0 hb; replace HB := Law.bS HB hb; (try clear hb); (try clear ho0); (try clear ho1)))
   repeat (go_quiet (first | (go_at_call 48; (with_reducible refine (spec_DrawPlanTable.calls k _ _ l0 t387 t388 _ ?side1 ?side2 A3.out).mono ?_); (case side1 => exact Law.cg (HR0.out)); (case side2 => exact HC0.out); rintro e w161 ⟨v389, v391, rfl, ho0, ho1, hb⟩; have HO390 := Law.rL ho0 HB; have HO392 := Law.rL ho1 HB; replace HB := Law.bS HB hb; (try clear hb); (try clear ho0); (try clear ho1); obtain ⟨Ao162, co162, eo162⟩ := Kd.R_slice HO390.out; subst eo162; obtain ⟨Ao163, co163, eo163⟩ := Kd.R_slice HO392.out; subst eo163) | (go_at_call 35; (with_reducible refine (spec_PlanTable.calls k _ _ t387 _ _ t388 t393 t394 t395 _ ?side1 ?side2 ?side3 ?side4 A4.out).mono ?_); (case side1 => exact Law.cg ((Kd.R_reads' HO390.out).2.2)); (case side2 => exact (Kd.R_reads' HO390.out).2.1); (case side3 => exact Law.cg ((Kd.R_reads' HO392.out).2.2)); (case side4 => exact (Kd.R_reads' HO392.out).2.1); rintro e w164 ⟨v396, v398, rfl, ho0, ho1, hb⟩; have HO397 := Law.rL (Law.rN (Law.rN ho0 HO390) HO392) HB; have HO399 := Law.rL ho1 HB; replace HO390 := Law.rE HO390 ho0 hb; replace HO392 := Law.rE HO392 ho0 hb; replace HB := Law.bS HB hb; (try clear hb); (try clear ho0); (try clear ho1)) | (go_at_call 49; (with_reducible refine (laws_fCopyNums.calls k _ _ t387 t400 _ ?side1 ?side2 A5.out).mono ?_); (case side1 => exact Law.cg ((Kd.R_reads' HO390.out).2.2)); (case side2 => exact (Kd.R_reads' HO390.out).2.1); rintro e w165 ⟨v401, rfl, ho0, hb⟩; have HO402 := Law.rL (Law.rN (Law.rN (Law.rN ho0 HO390) HO392) HO397) HB; replace HO390 := Law.rE HO390 ho0 hb; replace HO392 := Law.rE HO392 ho0 hb; replace HO397 := Law.rE HO397 ho0 hb; replace HO399 := Law.rB HO399 hb; replace HB := Law.bS HB hb; (try clear hb); (try clear ho0)) | (go_at_call 49; (with_reducible refine (laws_fCopyNums.calls k _ _ t388 t403 _ ?side1 ?side2 A6.out).mono ?_); (case side1 => exact Law.cg ((Kd.R_reads' HO392.out).2.2)); (case side2 => exact (Kd.R_reads' HO392.out).2.1); rintro e w166 ⟨v404, rfl, ho0, hb⟩; have HO405 := Law.rL (Law.rN (Law.rN (Law.rN (Law.rN ho0 HO390) HO392) HO397) HO402) HB; replace HO390 := Law.rE HO390 ho0 hb; replace HO392 := Law.rE HO392 ho0 hb; replace HO397 := Law.rE HO397 ho0 hb; replace HO399 := Law.rB HO399 hb; replace HO402 := Law.rE HO402 ho0 hb; replace HB := Law.bS HB hb; (try clear hb); (try clear ho0); obtain ⟨Ao167, co167, eo167⟩ := Kd.R_slice HO402.out; subst eo167; obtain ⟨Ao168, co168, eo168⟩ := Kd.R_slice HO405.out; subst eo168) | (go_at_call 36; (with_reducible refine (impl_PlanTable.calls k (fun k_ => some k_ = (.slice Ao167 t400.length co167 : Value).ownBlock) _ _ t400 (fun k_ => some k_ = (.slice Ao168 t403.length co168 : Value).ownBlock) _ _ t403 t406 t409 t412 _ ?side1 ?side2 A7.out).mono ?_); (case side1 => exact Kd.R_V (Kd.R_tight rfl (Kd.R_apart' (HO402.out) (Kd.R_typed HO399.out) (by decide)))); (case side2 => exact Kd.R_V (Kd.R_tight rfl (Kd.R_apart' (HO405.out) (Kd.R_typed HO399.out) (by decide)))); rintro e w169 ⟨v407, v410, rfl, ho0, ho1, hb⟩; have HO408 := Law.rL (Law.rN (Law.rN (Law.rN (Law.rN (Law.rN (Kd.R_mono (ok' := fun k_ => True) ho0 (fun _ hk_ => trivial)) HO390) HO392) HO397) HO402) HO405) HB; have HO411 := Law.rL (Law.rN (Kd.R_mono (ok' := fun k_ => True) ho1 (fun _ hk_ => trivial)) HO399) HB; replace HO390 := Law.rE HO390 ho0 hb; replace HO392 := Law.rE HO392 ho0 hb; replace HO397 := Law.rE HO397 ho0 hb; replace HO399 := Law.rE HO399 ho1 hb; replace HO402 := Law.rE HO402 ho0 hb; replace HO405 := Law.rE HO405 ho0 hb; replace HB := Law.bS HB hb; (try clear hb); (try clear ho0); (try clear ho1))); try go_wp2_with (first | (go_at_call 48; (with_reducible refine (spec_DrawPlanTable.calls k _ _ l0 t387 t388 _ ?side1 ?side2 A3.out).mono ?_); (case side1 => exact Law.cg (HR0.out)); (case side2 => exact HC0.out); rintro e w161 ⟨v389, v391, rfl, ho0, ho1, hb⟩; have HO390 := Law.rL ho0 HB; have HO392 := Law.rL ho1 HB; replace HB := Law.bS HB hb; (try clear hb); (try clear ho0); (try clear ho1); obtain ⟨Ao162, co162, eo162⟩ := Kd.R_slice HO390.out; subst eo162; obtain ⟨Ao163, co163, eo163⟩ := Kd.R_slice HO392.out; subst eo163) | (go_at_call 35; (with_reducible refine (spec_PlanTable.calls k _ _ t387 _ _ t388 t393 t394 t395 _ ?side1 ?side2 ?side3 ?side4 A4.out).mono ?_); (case side1 => exact Law.cg ((Kd.R_reads' HO390.out).2.2)); (case side2 => exact (Kd.R_reads' HO390.out).2.1); (case side3 => exact Law.cg ((Kd.R_reads' HO392.out).2.2)); (case side4 => exact (Kd.R_reads' HO392.out).2.1); rintro e w164 ⟨v396, v398, rfl, ho0, ho1, hb⟩; have HO397 := Law.rL (Law.rN (Law.rN ho0 HO390) HO392) HB; have HO399 := Law.rL ho1 HB; replace HO390 := Law.rE HO390 ho0 hb; replace HO392 := Law.rE HO392 ho0 hb; replace HB := Law.bS HB hb; (try clear hb); (try clear ho0); (try clear ho1)) | (go_at_call 49; (with_reducible refine (laws_fCopyNums.calls k _ _ t387 t400 _ ?side1 ?side2 A5.out).mono ?_); (case side1 => exact Law.cg ((Kd.R_reads' HO390.out).2.2)); (case side2 => exact (Kd.R_reads' HO390.out).2.1); rintro e w165 ⟨v401, rfl, ho0, hb⟩; have HO402 := Law.rL (Law.rN (Law.rN (Law.rN ho0 HO390) HO392) HO397) HB; replace HO390 := Law.rE HO390 ho0 hb; replace HO392 := Law.rE HO392 ho0 hb; replace HO397 := Law.rE HO397 ho0 hb; replace HO399 := Law.rB HO399 hb; replace HB := Law.bS HB hb; (try clear hb); (try clear ho0)) | (go_at_call 49; (with_reducible refine (laws_fCopyNums.calls k _ _ t388 t403 _ ?side1 ?side2 A6.out).mono ?_); (case side1 => exact Law.cg ((Kd.R_reads' HO392.out).2.2)); (case side2 => exact (Kd.R_reads' HO392.out).2.1); rintro e w166 ⟨v404, rfl, ho0, hb⟩; have HO405 := Law.rL (Law.rN (Law.rN (Law.rN (Law.rN ho0 HO390) HO392) HO397) HO402) HB; replace HO390 := Law.rE HO390 ho0 hb; replace HO392 := Law.rE HO392 ho0 hb; replace HO397 := Law.rE HO397 ho0 hb; replace HO399 := Law.rB HO399 hb; replace HO402 := Law.rE HO402 ho0 hb; replace HB := Law.bS HB hb; (try clear hb); (try clear ho0); obtain ⟨Ao167, co167, eo167⟩ := Kd.R_slice HO402.out; subst eo167; obtain ⟨Ao168, co168, eo168⟩ := Kd.R_slice HO405.out; subst eo168) | (go_at_call 36; (with_reducible refine (impl_PlanTable.calls k (fun k_ => some k_ = (.slice Ao167 t400.length co167 : Value).ownBlock) _ _ t400 (fun k_ => some k_ = (.slice Ao168 t403.length co168 : Value).ownBlock) _ _ t403 t406 t409 t412 _ ?side1 ?side2 A7.out).mono ?_); (case side1 => exact Kd.R_V (Kd.R_tight rfl (Kd.R_apart' (HO402.out) (Kd.R_typed HO399.out) (by decide)))); (case side2 => exact Kd.R_V (Kd.R_tight rfl (Kd.R_apart' (HO405.out) (Kd.R_typed HO399.out) (by decide)))); rintro e w169 ⟨v407, v410, rfl, ho0, ho1, hb⟩; have HO408 := Law.rL (Law.rN (Law.rN (Law.rN (Law.rN (Law.rN (Kd.R_mono (ok' := fun k_ => True) ho0 (fun _ hk_ => trivial)) HO390) HO392) HO397) HO402) HO405) HB; have HO411 := Law.rL (Law.rN (Kd.R_mono (ok' := fun k_ => True) ho1 (fun _ hk_ => trivial)) HO399) HB; replace HO390 := Law.rE HO390 ho0 hb; replace HO392 := Law.rE HO392 ho0 hb; replace HO397 := Law.rE HO397 ho0 hb; replace HO399 := Law.rE HO399 ho1 hb; replace HO402 := Law.rE HO402 ho0 hb; replace HO405 := Law.rE HO405 ho0 hb; replace HB := Law.bS HB hb; (try clear hb); (try clear ho0); (try clear ho1))))
   go_ret
   exact ⟨by first | rfl | (simp [errW_none, errW_some] <;> rfl) | (simp [*, errW_none, errW_some] <;> rfl), by repeat (first | (with_reducible first | exact HB.out | apply below_alloc | apply pw_below_drewN | apply below_drew1) | exact HB.out)⟩

/-- THE ONE PURE STATEMENT of laws_FnPlan: yours. -/
def laws_FnPlan.Pure : Prop := ∀ (l0 : List Int), l0.length ≤ maxLen → l0.length * 1 ≤ 140737488351232 → (∀ x ∈ l0, (Lit.int .u8 x).wf = true) → ∃ k, laws_FnPlan.f k l0 = some true
theorem laws_FnPlan.walk (P : laws_FnPlan.Pure) (a0 : Option Addr) (len0 cap0 : Nat) (z0 : List Int) (w : World) (w0 : (a0 = none ∧ len0 = 0 ∧ cap0 = 0 ∧ z0 = []) ∨ ∃ x, a0 = some x ∧ len0 ≤ cap0 ∧ cap0 ≤ maxLen ∧ z0.length = cap0 ∧ (∀ i, i < z0.length → w.cell? (x.add i) = some (.int .u8 (z0.getD i 0))) ∧ ∀ n ∈ z0, (Lit.int .u8 n).wf = true) (y0 : len0 * 1 ≤ 140737488351232) :
  Calls Try.prog 11 #[.slice a0 len0 cap0] w fun e w' => e = .returned (.bool true) ∧ Below w.heap.size w w' := by
 obtain ⟨l0, rfl, hr0, hm0, hw0, hc0⟩ := ReadsInt.ofRowC w0
 obtain ⟨k, h⟩ := P l0 hm0 y0 hw0
 refine (laws_FnPlan.calls k _ _ l0 true w (Kd.C_of_reads (d := (0 : Int)) (h1 := fun _ => rfl) hr0) hc0 h).mono ?_
 rintro e w' ⟨rfl, hd⟩
 exact ⟨rfl, hd⟩

end Go.Proofs.Ytbimmmmjdimebaa.PFnPlan
