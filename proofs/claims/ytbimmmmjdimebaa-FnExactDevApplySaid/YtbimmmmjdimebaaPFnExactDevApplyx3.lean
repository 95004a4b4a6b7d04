-- This text was written by a program of this session (gprint.py, on a turned copy of the print tool).
import Derived.Test.YtbimmmmjdimebaaPFnExactDevApplyx0
import Derived.Test.YtbimmmmjdimebaaPFnExactDevApplyx2
namespace Go.Proofs.Ytbimmmmjdimebaa.PFnExactDevApply
open Go.RowKit Go.Proofs.YtbimmmmjdimebaaW.PrintWords Go.Proofs.YtbimmmmjdimebaaW.PrintLast Go.Proofs.YtbimmmmjdimebaaW.PrintMore
attribute [local go_sem] max2_int min2_int max_two min_two max_three min_three max_four min_four   -- for this text's walks alone
set_option linter.unusedVariables false
set_option linter.unusedSimpArgs false

/-! ### laws_heldDevice: function 40 -/
def laws_heldDevice.f (k : Nat) (a0_0 : Int) (l0_1 : List Int) (l0_2 : List (S67)) (a1 : Int) : Option (Int) := (laws_heldByteS.f k l0_1 a1).bind fun t158 => (if t158 < 0 then (some (-1)) else ((laws_heldPendingS.f k l0_2 t158).bind fun t159 => (if t159 < 0 then (some (-1)) else (some t159))))
theorem laws_heldDevice.mono : ∀ a0 a1 a2 a3 k, LeO (laws_heldDevice.f k a0 a1 a2 a3) (laws_heldDevice.f (k + 1) a0 a1 a2 a3) := by
  intro a0 a1 a2 a3 k
  unfold laws_heldDevice.f
  repeat' first
      | (with_reducible exact laws_heldByteS.mono _ _ _)
      | (with_reducible exact laws_heldPendingS.mono _ _ _)
      | (with_reducible exact LeO.refl _)
      | (with_reducible exact LeO.none _)
      | (with_reducible refine LeO.ite ?_ ?_)
      | (with_reducible refine LeO.bind ?_ (fun _ => ?_))
      | exact laws_heldByteS.mono _ _ _
      | exact laws_heldPendingS.mono _ _ _
      | exact LeO.none _
      | refine LeO.ite ?_ ?_
      | refine LeO.bind ?_ (fun _ => ?_)
set_option maxHeartbeats 8000000 in
set_option maxRecDepth 100000 in
theorem laws_heldDevice.calls (k : Nat) (a0_0 : Int) (A0_1 : Option Addr) (c0_1 : Nat) (l0_1 : List Int) (A0_2 : Option Addr) (c0_2 : Nat) (l0_2 : List (S67)) (a1 : Int) (r : Int) (w : World) (hr0_1 : Kd.C (Kd.int .u8) w A0_1 l0_1.length l0_1) (hc0_1 : l0_1.length ≤ c0_1) (hr0_2 : Kd.C k67 w A0_2 l0_2.length l0_2) (hc0_2 : l0_2.length ≤ c0_2) (h : laws_heldDevice.f k a0_0 l0_1 l0_2 a1 = some r) :
    Calls Try.prog 40 #[.agg #[.int .i64 a0_0, .slice A0_1 l0_1.length c0_1, .slice A0_2 l0_2.length c0_2], .int .i64 a1] w fun e w' => e = .returned (.int .i64 r) ∧ Below w.heap.size w w' := by
  have hu47 := Try.underlying47
  have HR0_1 := Aside0.mk hr0_1
  have HC0_1 := Aside0.mk hc0_1
  clear hr0_1 hc0_1
  have HR0_2 := Aside0.mk hr0_2
  have HC0_2 := Aside0.mk hc0_2
  clear hr0_2 hc0_2
  have HB := Aside0.mk (Below.refl w.heap.size w)
  have H : ((laws_heldByteS.f k l0_1 a1).bind fun t158 => (if t158 < 0 then (some (-1)) else ((laws_heldPendingS.f k l0_2 t158).bind fun t159 => (if t159 < 0 then (some (-1)) else (some t159))))) = some r := h
  clear h
  replace H := Option.bind_eq_some_iff.mp H
  obtain ⟨t158, A30, H⟩ := H
  replace H : (if t158 < 0 then (some (-1)) else ((laws_heldPendingS.f k l0_2 t158).bind fun t159 => (if t159 < 0 then (some (-1)) else (some t159)))) = some r := H
  have A3 := Aside0.mk A30
  clear A30
  by_cases c4 : t158 < 0
  · rw [if_pos c4] at H
    have c4b0 : decide (t158 < 0) = true := decide_eq_true c4
    clear c4
    obtain rfl := Option.some.inj H
    go_enter Try.func40, Try.ntmps40
    go_wp2_with (first | ((with_reducible refine gate_dst (N := 2) rfl ?_); refine box_event ?hg (N := 2) ?hd (cs := #[.int .i64 a0_0, .slice A0_1 l0_1.length c0_1, .slice A0_2 l0_2.length c0_2]) (t := 47) ?hr ?_; (case hd => rfl); (case hg => rfl); (case hr => first | (go_simp; done) | (go_simp; rfl)); intro gb157 hg w5 hbox hb; have n0_ := Aside0.mk (below_step (by repeat (first | (with_reducible first | exact HB.out | apply below_alloc | apply pw_below_drewN | apply below_drew1) | exact HB.out)) hb); have n1_ := Aside0.mk (hbox); have n2_ := Aside0.mk ((by rw [hg]; exact (below_size (by repeat (first | (with_reducible first | exact HB.out | apply below_alloc | apply pw_below_drewN | apply below_drew1) | exact HB.out))) : w.heap.size ≤ gb157)); have n3_ := Aside0.mk ((by rw [hg]; exact (below_size (by repeat (first | (with_reducible first | exact HB.out | apply below_alloc | apply pw_below_drewN | apply below_drew1) | exact HB.out))) : w.heap.size ≤ gb157)); clear HB; have HB := n0_; have BK157 := n1_; have GW157 := n2_; have GE157 := n3_; clear n0_ n1_ n2_ n3_; clear hb hbox hg; have hcz6_0 : w5.cell? ⟨gb157, 0, none⟩ = some (.int .i64 a0_0) := (blk_cell BK157.out 0).trans rfl; have hcz6_1 : w5.cell? ⟨gb157, 1, none⟩ = some (.slice A0_1 l0_1.length c0_1) := (blk_cell BK157.out 1).trans rfl; have hcz6_2 : w5.cell? ⟨gb157, 2, none⟩ = some (.slice A0_2 l0_2.length c0_2) := (blk_cell BK157.out 2).trans rfl; have hfz6_0 := blk_frozen BK157.out 0; have hfz6_1 := blk_frozen BK157.out 1; have hfz6_2 := blk_frozen BK157.out 2) | ((with_reducible refine gate_callee (f := 34) rfl ?_); refine goesL_ (some 8) rfl rfl Try.func34 (by kernel_rfl) rfl #[.slice A0_1 l0_1.length c0_1, .int .i64 a1] rfl (by (try simp only [List.map_toArray, List.map_cons, List.map_nil]); first | done | rfl | (simp only [List.length_drop, List.length_take]; rfl)) ?_; (with_reducible refine (laws_heldByteS.calls k _ _ l0_1 a1 t158 _ ?side1 ?side2 A3.out).mono ?_); (case side1 => repeat (first | exact (Kd.C_below HR0_1.out HB.out) | (with_reducible refine Kd.C_alloc ?_ _) | (with_reducible refine Kd.C_drewN ?_ _) | (with_reducible refine Kd.C_drew ?_))); (case side2 => exact HC0_1.out); rintro e w' ⟨rfl, ⟨nd, rfl⟩⟩; refine ⟨_, rfl, ?_⟩))
    go_ret
    exact ⟨by first | rfl | (simp [errW_none, errW_some] <;> rfl) | (simp [*, errW_none, errW_some] <;> rfl), by repeat (first | (with_reducible first | exact HB.out | apply below_alloc | apply pw_below_drewN | apply below_drew1 | refine below_set ?_ GE157.out) | exact HB.out)⟩
  · rw [if_neg c4] at H
    have c4b0 : decide (t158 < 0) = false := decide_eq_false c4
    clear c4
    replace H := Option.bind_eq_some_iff.mp H
    obtain ⟨t159, A70, H⟩ := H
    replace H : (if t159 < 0 then (some (-1)) else (some t159)) = some r := H
    have A7 := Aside0.mk A70
    clear A70
    by_cases c8 : t159 < 0
    · rw [if_pos c8] at H
      have c8b0 : decide (t159 < 0) = true := decide_eq_true c8
      clear c8
      obtain rfl := Option.some.inj H
      go_enter Try.func40, Try.ntmps40
      go_wp2_with (first | ((with_reducible refine gate_dst (N := 2) rfl ?_); refine box_event ?hg (N := 2) ?hd (cs := #[.int .i64 a0_0, .slice A0_1 l0_1.length c0_1, .slice A0_2 l0_2.length c0_2]) (t := 47) ?hr ?_; (case hd => rfl); (case hg => rfl); (case hr => first | (go_simp; done) | (go_simp; rfl)); intro gb157 hg w9 hbox hb; have n0_ := Aside0.mk (below_step (by repeat (first | (with_reducible first | exact HB.out | apply below_alloc | apply pw_below_drewN | apply below_drew1) | exact HB.out)) hb); have n1_ := Aside0.mk (hbox); have n2_ := Aside0.mk ((by rw [hg]; exact (below_size (by repeat (first | (with_reducible first | exact HB.out | apply below_alloc | apply pw_below_drewN | apply below_drew1) | exact HB.out))) : w.heap.size ≤ gb157)); have n3_ := Aside0.mk ((by rw [hg]; exact (below_size (by repeat (first | (with_reducible first | exact HB.out | apply below_alloc | apply pw_below_drewN | apply below_drew1) | exact HB.out))) : w.heap.size ≤ gb157)); clear HB; have HB := n0_; have BK157 := n1_; have GW157 := n2_; have GE157 := n3_; clear n0_ n1_ n2_ n3_; clear hb hbox hg; have hcz10_0 : w9.cell? ⟨gb157, 0, none⟩ = some (.int .i64 a0_0) := (blk_cell BK157.out 0).trans rfl; have hcz10_1 : w9.cell? ⟨gb157, 1, none⟩ = some (.slice A0_1 l0_1.length c0_1) := (blk_cell BK157.out 1).trans rfl; have hcz10_2 : w9.cell? ⟨gb157, 2, none⟩ = some (.slice A0_2 l0_2.length c0_2) := (blk_cell BK157.out 2).trans rfl; have hfz10_0 := blk_frozen BK157.out 0; have hfz10_1 := blk_frozen BK157.out 1; have hfz10_2 := blk_frozen BK157.out 2) | ((with_reducible refine gate_callee (f := 34) rfl ?_); refine goesL_ (some 8) rfl rfl Try.func34 (by kernel_rfl) rfl #[.slice A0_1 l0_1.length c0_1, .int .i64 a1] rfl (by (try simp only [List.map_toArray, List.map_cons, List.map_nil]); first | done | rfl | (simp only [List.length_drop, List.length_take]; rfl)) ?_; (with_reducible refine (laws_heldByteS.calls k _ _ l0_1 a1 t158 _ ?side1 ?side2 A3.out).mono ?_); (case side1 => repeat (first | exact (Kd.C_below HR0_1.out HB.out) | (with_reducible refine Kd.C_alloc ?_ _) | (with_reducible refine Kd.C_drewN ?_ _) | (with_reducible refine Kd.C_drew ?_))); (case side2 => exact HC0_1.out); rintro e w' ⟨rfl, ⟨nd, rfl⟩⟩; refine ⟨_, rfl, ?_⟩) | ((with_reducible refine gate_callee (f := 84) rfl ?_); refine goesL_ (some 14) rfl rfl Try.func84 (by kernel_rfl) rfl #[.slice A0_2 l0_2.length c0_2, .int .i64 t158] rfl (by (try simp only [List.map_toArray, List.map_cons, List.map_nil]); first | done | rfl | (simp only [List.length_drop, List.length_take]; rfl)) ?_; (with_reducible refine (laws_heldPendingS.calls k _ _ l0_2 t158 t159 _ ?side1 ?side2 A7.out).mono ?_); (case side1 => repeat (first | exact (Kd.C_below HR0_2.out (by repeat (first | (with_reducible first | exact HB.out | apply below_alloc | apply pw_below_drewN | apply below_drew1 | refine below_set ?_ GE157.out) | exact HB.out))) | (with_reducible refine Kd.C_alloc ?_ _) | (with_reducible refine Kd.C_drewN ?_ _) | (with_reducible refine Kd.C_drew ?_))); (case side2 => exact HC0_2.out); rintro e w' ⟨rfl, ⟨nd, rfl⟩⟩; refine ⟨_, rfl, ?_⟩))
      go_ret
      exact ⟨by first | rfl | (simp [errW_none, errW_some] <;> rfl) | (simp [*, errW_none, errW_some] <;> rfl), by repeat (first | (with_reducible first | exact HB.out | apply below_alloc | apply pw_below_drewN | apply below_drew1 | refine below_set ?_ GE157.out) | exact HB.out)⟩
    · rw [if_neg c8] at H
      have c8b0 : decide (t159 < 0) = false := decide_eq_false c8
      clear c8
      obtain rfl := Option.some.inj H
      go_enter Try.func40, Try.ntmps40
      go_wp2_with (first | ((with_reducible refine gate_dst (N := 2) rfl ?_); refine box_event ?hg (N := 2) ?hd (cs := #[.int .i64 a0_0, .slice A0_1 l0_1.length c0_1, .slice A0_2 l0_2.length c0_2]) (t := 47) ?hr ?_; (case hd => rfl); (case hg => rfl); (case hr => first | (go_simp; done) | (go_simp; rfl)); intro gb157 hg w11 hbox hb; have n0_ := Aside0.mk (below_step (by repeat (first | (with_reducible first | exact HB.out | apply below_alloc | apply pw_below_drewN | apply below_drew1) | exact HB.out)) hb); have n1_ := Aside0.mk (hbox); have n2_ := Aside0.mk ((by rw [hg]; exact (below_size (by repeat (first | (with_reducible first | exact HB.out | apply below_alloc | apply pw_below_drewN | apply below_drew1) | exact HB.out))) : w.heap.size ≤ gb157)); have n3_ := Aside0.mk ((by rw [hg]; exact (below_size (by repeat (first | (with_reducible first | exact HB.out | apply below_alloc | apply pw_below_drewN | apply below_drew1) | exact HB.out))) : w.heap.size ≤ gb157)); clear HB; have HB := n0_; have BK157 := n1_; have GW157 := n2_; have GE157 := n3_; clear n0_ n1_ n2_ n3_; clear hb hbox hg; have hcz12_0 : w11.cell? ⟨gb157, 0, none⟩ = some (.int .i64 a0_0) := (blk_cell BK157.out 0).trans rfl; have hcz12_1 : w11.cell? ⟨gb157, 1, none⟩ = some (.slice A0_1 l0_1.length c0_1) := (blk_cell BK157.out 1).trans rfl; have hcz12_2 : w11.cell? ⟨gb157, 2, none⟩ = some (.slice A0_2 l0_2.length c0_2) := (blk_cell BK157.out 2).trans rfl; have hfz12_0 := blk_frozen BK157.out 0; have hfz12_1 := blk_frozen BK157.out 1; have hfz12_2 := blk_frozen BK157.out 2) | ((with_reducible refine gate_callee (f := 34) rfl ?_); refine goesL_ (some 8) rfl rfl Try.func34 (by kernel_rfl) rfl #[.slice A0_1 l0_1.length c0_1, .int .i64 a1] rfl (by (try simp only [List.map_toArray, List.map_cons, List.map_nil]); first | done | rfl | (simp only [List.length_drop, List.length_take]; rfl)) ?_; (with_reducible refine (laws_heldByteS.calls k _ _ l0_1 a1 t158 _ ?side1 ?side2 A3.out).mono ?_); (case side1 => repeat (first | exact (Kd.C_below HR0_1.out HB.out) | (with_reducible refine Kd.C_alloc ?_ _) | (with_reducible refine Kd.C_drewN ?_ _) | (with_reducible refine Kd.C_drew ?_))); (case side2 => exact HC0_1.out); rintro e w' ⟨rfl, ⟨nd, rfl⟩⟩; refine ⟨_, rfl, ?_⟩) | ((with_reducible refine gate_callee (f := 84) rfl ?_); refine goesL_ (some 14) rfl rfl Try.func84 (by kernel_rfl) rfl #[.slice A0_2 l0_2.length c0_2, .int .i64 t158] rfl (by (try simp only [List.map_toArray, List.map_cons, List.map_nil]); first | done | rfl | (simp only [List.length_drop, List.length_take]; rfl)) ?_; (with_reducible refine (laws_heldPendingS.calls k _ _ l0_2 t158 t159 _ ?side1 ?side2 A7.out).mono ?_); (case side1 => repeat (first | exact (Kd.C_below HR0_2.out (by repeat (first | (with_reducible first | exact HB.out | apply below_alloc | apply pw_below_drewN | apply below_drew1 | refine below_set ?_ GE157.out) | exact HB.out))) | (with_reducible refine Kd.C_alloc ?_ _) | (with_reducible refine Kd.C_drewN ?_ _) | (with_reducible refine Kd.C_drew ?_))); (case side2 => exact HC0_2.out); rintro e w' ⟨rfl, ⟨nd, rfl⟩⟩; refine ⟨_, rfl, ?_⟩))
      go_ret
      exact ⟨by first | rfl | (simp [errW_none, errW_some] <;> rfl) | (simp [*, errW_none, errW_some] <;> rfl), by repeat (first | (with_reducible first | exact HB.out | apply below_alloc | apply pw_below_drewN | apply below_drew1 | refine below_set ?_ GE157.out) | exact HB.out)⟩

/-! ### impl_validDevice: function 74 -/
mutual
def impl_validDevice.j0 : Nat → Bool → Int → List Int → List (S67) → Option (Bool)
  | 0, _, _, _, _ => none
  | k + 1, x21, x161000, x161001, x161002 => if x21 = true then (some false) else (if (x161002.length : Int) > 2048 then (some false) else (impl_validDevice.l0 k x161002 (x161002.length : Int) 0 x161000 x161001 x161002))
def impl_validDevice.l0 : Nat → List (S67) → Int → Int → Int → List Int → List (S67) → Option (Bool)
  | 0, _, _, _, _, _, _ => none
  | k + 1, x27, x28, x29, x161000, x161001, x161002 => if x29 < x28 then (if 0 ≤ x29 then (if x29 < (x27.length : Int) then (if ((rd_T67 x27 x29).f0) < 0 then (some false) else (if ((rd_T67 x27 x29).f0) ≥ x161000 then (some false) else (if (((rd_T67 x27 x29).f1).length : Int) = 128 then (impl_validDevice.l0 k x27 x28 (wrap64 (x29 + 1)) x161000 x161001 x161002) else (some false)))) else (none)) else (none)) else (some true)
end
def impl_validDevice.f (k : Nat) (a0_0 : Int) (l0_1 : List Int) (l0_2 : List (S67)) : Option (Bool) := if a0_0 < 8 then (impl_validDevice.j0 k true a0_0 l0_1 l0_2) else (if a0_0 > 512 then (impl_validDevice.j0 k true a0_0 l0_1 l0_2) else (impl_validDevice.j0 k ((l0_1.length : Int) != (wrap64 (a0_0 * 128))) a0_0 l0_1 l0_2))
theorem impl_validDevice.mono_l : ∀ k, (∀ y0 y1 y2 y3, LeO (impl_validDevice.j0 k y0 y1 y2 y3) (impl_validDevice.j0 (k + 1) y0 y1 y2 y3)) ∧ (∀ y0 y1 y2 y3 y4 y5, LeO (impl_validDevice.l0 k y0 y1 y2 y3 y4 y5) (impl_validDevice.l0 (k + 1) y0 y1 y2 y3 y4 y5))
  | 0 => ⟨fun _ _ _ _ r h => by simp [impl_validDevice.j0] at h, fun _ _ _ _ _ _ r h => by simp [impl_validDevice.l0] at h⟩
  | k + 1 => by
    obtain ⟨ih0, ih1⟩ := impl_validDevice.mono_l k
    refine ⟨?_, ?_⟩
    · intro y0 y1 y2 y3
      unfold impl_validDevice.j0
      repeat' first
      | (with_reducible exact ih0 _ _ _ _)
      | (with_reducible exact ih1 _ _ _ _ _ _)
      | (with_reducible exact LeO.refl _)
      | (with_reducible exact LeO.none _)
      | (with_reducible refine LeO.ite ?_ ?_)
      | (with_reducible refine LeO.bind ?_ (fun _ => ?_))
      | exact ih0 _ _ _ _
      | exact ih1 _ _ _ _ _ _
      | exact LeO.none _
      | refine LeO.ite ?_ ?_
      | refine LeO.bind ?_ (fun _ => ?_)
    · intro y0 y1 y2 y3 y4 y5
      unfold impl_validDevice.l0
      repeat' first
      | (with_reducible exact ih0 _ _ _ _)
      | (with_reducible exact ih1 _ _ _ _ _ _)
      | (with_reducible exact LeO.refl _)
      | (with_reducible exact LeO.none _)
      | (with_reducible refine LeO.ite ?_ ?_)
      | (with_reducible refine LeO.bind ?_ (fun _ => ?_))
      | exact ih0 _ _ _ _
      | exact ih1 _ _ _ _ _ _
      | exact LeO.none _
      | refine LeO.ite ?_ ?_
      | refine LeO.bind ?_ (fun _ => ?_)
theorem impl_validDevice.mono : ∀ a0 a1 a2 k, LeO (impl_validDevice.f k a0 a1 a2) (impl_validDevice.f (k + 1) a0 a1 a2) := by
  intro a0 a1 a2 k
  obtain ⟨ih0, ih1⟩ := impl_validDevice.mono_l k
  unfold impl_validDevice.f
  repeat' first
      | (with_reducible exact ih0 _ _ _ _)
      | (with_reducible exact ih1 _ _ _ _ _ _)
      | (with_reducible exact LeO.refl _)
      | (with_reducible exact LeO.none _)
      | (with_reducible refine LeO.ite ?_ ?_)
      | (with_reducible refine LeO.bind ?_ (fun _ => ?_))
      | exact ih0 _ _ _ _
      | exact ih1 _ _ _ _ _ _
      | exact LeO.none _
      | refine LeO.ite ?_ ?_
      | refine LeO.bind ?_ (fun _ => ?_)
set_option maxHeartbeats 8000000 in
set_option maxRecDepth 100000 in
theorem impl_validDevice.calls (k : Nat) (a0_0 : Int) (A0_1 : Option Addr) (c0_1 : Nat) (l0_1 : List Int) (A0_2 : Option Addr) (c0_2 : Nat) (l0_2 : List (S67)) (r : Bool) (w : World) (hr0_1 : Kd.C (Kd.int .u8) w A0_1 l0_1.length l0_1) (hc0_1 : l0_1.length ≤ c0_1) (hr0_2 : Kd.C k67 w A0_2 l0_2.length l0_2) (hc0_2 : l0_2.length ≤ c0_2) (h : impl_validDevice.f k a0_0 l0_1 l0_2 = some r) :
    Calls Try.prog 74 #[.agg #[.int .i64 a0_0, .slice A0_1 l0_1.length c0_1, .slice A0_2 l0_2.length c0_2]] w fun e w' => e = .returned (.bool r) ∧ Below w.heap.size w w' := by
  have hu47 := Try.underlying47
  have hu67 := Try.underlying67
  have HR0_1 := Aside0.mk hr0_1
  have HC0_1 := Aside0.mk hc0_1
  clear hr0_1 hc0_1
  have HR0_2 := Aside0.mk hr0_2
  have HC0_2 := Aside0.mk hc0_2
  clear hr0_2 hc0_2
  have HB := Aside0.mk (Below.refl w.heap.size w)
  have H : (if a0_0 < 8 then (impl_validDevice.j0 k true a0_0 l0_1 l0_2) else (if a0_0 > 512 then (impl_validDevice.j0 k true a0_0 l0_1 l0_2) else (impl_validDevice.j0 k ((l0_1.length : Int) != (wrap64 (a0_0 * 128))) a0_0 l0_1 l0_2))) = some r := h
  clear h
  have HC2 := Aside0.mk H
  clear H
  go_enter Try.func74, Try.ntmps74
  go_upto_region 1 with (first | ((with_reducible refine gate_dst (N := 1) rfl ?_); (try (refine gate_guard (by rfl) ?_; dsimp only)); refine box_event ?hg (N := 1) ?hd (cs := #[.int .i64 a0_0, .slice A0_1 l0_1.length c0_1, .slice A0_2 l0_2.length c0_2]) (t := 47) ?hr ?_; (case hd => rfl); (case hg => rfl); (case hr => first | (go_simp; done) | (go_simp; rfl)); intro gb160 hg w3 hbox hb; have n0_ := Aside0.mk (below_step (by repeat (first | (with_reducible first | exact HB.out | apply below_alloc | apply pw_below_drewN | apply below_drew1) | exact HB.out)) hb); have n1_ := Aside0.mk (hbox); have n2_ := Aside0.mk ((by rw [hg]; exact (below_size (by repeat (first | (with_reducible first | exact HB.out | apply below_alloc | apply pw_below_drewN | apply below_drew1) | exact HB.out))) : w.heap.size ≤ gb160)); have n3_ := Aside0.mk ((by rw [hg]; exact (below_size (by repeat (first | (with_reducible first | exact HB.out | apply below_alloc | apply pw_below_drewN | apply below_drew1) | exact HB.out))) : w.heap.size ≤ gb160)); clear HB; have HB := n0_; have BK160 := n1_; have GW160 := n2_; have GE160 := n3_; clear n0_ n1_ n2_ n3_; clear hb hbox hg))
  (try simp only [Act.put, List.setIfInBounds_toArray, List.set_cons_zero, List.set_cons_succ])
  go_cut [21] (fun v21 wc => ∃ (kq : Nat) (x21_1 : Bool), v21 = .bool x21_1 ∧ Aside0 (impl_validDevice.j0 kq x21_1 a0_0 l0_1 l0_2 = some r) ∧ Aside0 (kq ≤ k) ∧ Aside0 (wc.heap[gb160]? = some (.cells #[.int .i64 a0_0, (.slice A0_1 l0_1.length c0_1), (.slice A0_2 l0_2.length c0_2)] 47 (0, 0))) ∧ Aside0 (Below w.heap.size w wc))
  case first =>
    have H := HC2.out
    clear HC2
    by_cases c4 : a0_0 < 8
    · rw [if_pos c4] at H
      have c4b0 : decide (a0_0 < 8) = true := decide_eq_true c4
      clear c4
      (first | rw [c4b0] | (simp only [i64_w, i32_w]; rw [c4b0]) | skip)
      have H' := Aside0.mk H
      clear H
      have hcz5_0 : w3.cell? ⟨gb160, 0, none⟩ = some (.int .i64 a0_0) := (blk_cell BK160.out 0).trans rfl
      have hcz5_1 : w3.cell? ⟨gb160, 1, none⟩ = some (.slice A0_1 l0_1.length c0_1) := (blk_cell BK160.out 1).trans rfl
      have hcz5_2 : w3.cell? ⟨gb160, 2, none⟩ = some (.slice A0_2 l0_2.length c0_2) := (blk_cell BK160.out 2).trans rfl
      have hfz5_0 := blk_frozen BK160.out 0
      have hfz5_1 := blk_frozen BK160.out 1
      have hfz5_2 := blk_frozen BK160.out 2
      go_wp2
      go_meet
      case rel => exact ⟨_, (true), (by first | rfl | (simp; done) | (simp [*]; done)), H', ⟨by first | omega | exact Nat.le_refl _⟩, ⟨by (with_reducible repeat (first | refine blk_drewN ?_ _ | refine blk_drew ?_ | refine blk_alloc ?_ _)); exact BK160.out⟩, ⟨by repeat (first | (with_reducible first | exact HB.out | apply below_alloc | apply pw_below_drewN | apply below_drew1 | refine below_set ?_ GE160.out) | exact HB.out)⟩⟩
    · rw [if_neg c4] at H
      have c4b0 : decide (a0_0 < 8) = false := decide_eq_false c4
      clear c4
      (first | rw [c4b0] | (simp only [i64_w, i32_w]; rw [c4b0]) | skip)
      by_cases c6 : a0_0 > 512
      · rw [if_pos c6] at H
        have c6b0 : decide (512 < a0_0) = true := decide_eq_true c6
        clear c6
        have H' := Aside0.mk H
        clear H
        have hcz7_0 : w3.cell? ⟨gb160, 0, none⟩ = some (.int .i64 a0_0) := (blk_cell BK160.out 0).trans rfl
        have hcz7_1 : w3.cell? ⟨gb160, 1, none⟩ = some (.slice A0_1 l0_1.length c0_1) := (blk_cell BK160.out 1).trans rfl
        have hcz7_2 : w3.cell? ⟨gb160, 2, none⟩ = some (.slice A0_2 l0_2.length c0_2) := (blk_cell BK160.out 2).trans rfl
        have hfz7_0 := blk_frozen BK160.out 0
        have hfz7_1 := blk_frozen BK160.out 1
        have hfz7_2 := blk_frozen BK160.out 2
        go_wp2
        go_meet
        case rel => exact ⟨_, (true), (by first | rfl | (simp; done) | (simp [*]; done)), H', ⟨by first | omega | exact Nat.le_refl _⟩, ⟨by (with_reducible repeat (first | refine blk_drewN ?_ _ | refine blk_drew ?_ | refine blk_alloc ?_ _)); exact BK160.out⟩, ⟨by repeat (first | (with_reducible first | exact HB.out | apply below_alloc | apply pw_below_drewN | apply below_drew1 | refine below_set ?_ GE160.out) | exact HB.out)⟩⟩
      · rw [if_neg c6] at H
        have c6b0 : decide (512 < a0_0) = false := decide_eq_false c6
        clear c6
        have H' := Aside0.mk H
        clear H
        have hcz8_0 : w3.cell? ⟨gb160, 0, none⟩ = some (.int .i64 a0_0) := (blk_cell BK160.out 0).trans rfl
        have hcz8_1 : w3.cell? ⟨gb160, 1, none⟩ = some (.slice A0_1 l0_1.length c0_1) := (blk_cell BK160.out 1).trans rfl
        have hcz8_2 : w3.cell? ⟨gb160, 2, none⟩ = some (.slice A0_2 l0_2.length c0_2) := (blk_cell BK160.out 2).trans rfl
        have hfz8_0 := blk_frozen BK160.out 0
        have hfz8_1 := blk_frozen BK160.out 1
        have hfz8_2 := blk_frozen BK160.out 2
        go_wp2
        go_meet
        case rel => exact ⟨_, (((l0_1.length : Int) != (wrap64 (a0_0 * 128)))), (by first | rfl | (simp; done) | (simp [*]; done)), H', ⟨by first | omega | exact Nat.le_refl _⟩, ⟨by (with_reducible repeat (first | refine blk_drewN ?_ _ | refine blk_drew ?_ | refine blk_alloc ?_ _)); exact BK160.out⟩, ⟨by repeat (first | (with_reducible first | exact HB.out | apply below_alloc | apply pw_below_drewN | apply below_drew1 | refine below_set ?_ GE160.out) | exact HB.out)⟩⟩
  case rest =>
    clear HC2
    try clear p2
    try clear c4
    try clear c4b0
    try clear c6
    try clear c6b0
    try clear p6
    try clear c7
    try clear hcz5_0
    try clear hcz5_1
    try clear hcz5_2
    try clear hcz7_0
    try clear hcz7_1
    try clear hcz7_2
    try clear hcz8_0
    try clear hcz8_1
    try clear hcz8_2
    try clear hfz5_0
    try clear hfz5_1
    try clear hfz5_2
    try clear hfz7_0
    try clear hfz7_1
    try clear hfz7_2
    try clear hfz8_0
    try clear hfz8_1
    try clear hfz8_2
    obtain ⟨kq, x21_1, rfl, HA, HJ1, BK160, HB⟩ := hcut
    cases kq with
    | zero => exact absurd HA.out (by simp [impl_validDevice.j0])
    | succ kj1 =>
      have H := HA.out
      clear HA
      simp only [impl_validDevice.j0] at H
      by_cases c9 : x21_1 = true
      · subst c9
        have H1 : (some false) = some r := by rw [if_pos rfl] at H; exact H
        clear H
        have H := H1
        clear H1
        obtain rfl := Option.some.inj H
        go_wp2
        go_ret
        exact ⟨by first | rfl | (simp [errW_none, errW_some] <;> rfl) | (simp [*, errW_none, errW_some] <;> rfl), by repeat (first | (with_reducible first | exact HB.out | apply below_alloc | apply pw_below_drewN | apply below_drew1 | refine below_set ?_ GE160.out) | exact HB.out)⟩
      · replace c9 := Bool.eq_false_iff.mpr c9
        subst c9
        have H1 : (if (l0_2.length : Int) > 2048 then (some false) else (impl_validDevice.l0 kj1 l0_2 (l0_2.length : Int) 0 a0_0 l0_1 l0_2)) = some r := by rw [if_neg (show ¬ (false = true) by decide)] at H; exact H
        clear H
        have H := H1
        clear H1
        by_cases c10 : (l0_2.length : Int) > 2048
        · rw [if_pos c10] at H
          have c10b0 : decide (2048 < (l0_2.length : Int)) = true := decide_eq_true c10
          have c10b1 : decide (2048 < l0_2.length) = true := decide_eq_true (by omega)
          clear c10
          obtain rfl := Option.some.inj H
          have hcz11_0 : wc.cell? ⟨gb160, 0, none⟩ = some (.int .i64 a0_0) := (blk_cell BK160.out 0).trans rfl
          have hcz11_1 : wc.cell? ⟨gb160, 1, none⟩ = some (.slice A0_1 l0_1.length c0_1) := (blk_cell BK160.out 1).trans rfl
          have hcz11_2 : wc.cell? ⟨gb160, 2, none⟩ = some (.slice A0_2 l0_2.length c0_2) := (blk_cell BK160.out 2).trans rfl
          have hfz11_0 := blk_frozen BK160.out 0
          have hfz11_1 := blk_frozen BK160.out 1
          have hfz11_2 := blk_frozen BK160.out 2
          go_wp2
          go_ret
          exact ⟨by first | rfl | (simp [errW_none, errW_some] <;> rfl) | (simp [*, errW_none, errW_some] <;> rfl), by repeat (first | (with_reducible first | exact HB.out | apply below_alloc | apply pw_below_drewN | apply below_drew1 | refine below_set ?_ GE160.out) | exact HB.out)⟩
        · rw [if_neg c10] at H
          have c10b0 : decide (2048 < (l0_2.length : Int)) = false := decide_eq_false c10
          have c10b1 : decide (2048 < l0_2.length) = false := decide_eq_false (by omega)
          clear c10
          have H' := Aside0.mk H
          clear H
          have hcz12_0 : wc.cell? ⟨gb160, 0, none⟩ = some (.int .i64 a0_0) := (blk_cell BK160.out 0).trans rfl
          have hcz12_1 : wc.cell? ⟨gb160, 1, none⟩ = some (.slice A0_1 l0_1.length c0_1) := (blk_cell BK160.out 1).trans rfl
          have hcz12_2 : wc.cell? ⟨gb160, 2, none⟩ = some (.slice A0_2 l0_2.length c0_2) := (blk_cell BK160.out 2).trans rfl
          have hfz12_0 := blk_frozen BK160.out 0
          have hfz12_1 := blk_frozen BK160.out 1
          have hfz12_2 := blk_frozen BK160.out 2
          go_wp2
          go_loopg [29] kj1 (fun kq v29 w' => ∃ (x29_2 : Int), v29 = .int .i64 x29_2 ∧ Aside0 (impl_validDevice.l0 kq l0_2 (l0_2.length : Int) x29_2 a0_0 l0_1 l0_2 = some r) ∧ Aside0 (kq ≤ kj1) ∧ Aside0 (w'.heap[gb160]? = some (.cells #[.int .i64 a0_0, (.slice A0_1 l0_1.length c0_1), (.slice A0_2 l0_2.length c0_2)] 47 (0, 0))) ∧ Aside0 (Below w.heap.size w w'))
          case atStart => exact ⟨(0), (by first | rfl | (simp; done) | (simp [*]; done)), H', ⟨Nat.le_refl _⟩, ⟨by (with_reducible repeat (first | refine blk_drewN ?_ _ | refine blk_drew ?_ | refine blk_alloc ?_ _)); exact BK160.out⟩, ⟨by repeat (first | (with_reducible first | exact HB.out | apply below_alloc | apply pw_below_drewN | apply below_drew1 | refine below_set ?_ GE160.out) | exact HB.out)⟩⟩
          case round =>
            clear H'
            try clear c1
            try clear p2
            try clear c4
            try clear c4b0
            try clear c6
            try clear c6b0
            try clear p6
            try clear c7
            try clear c9
            try clear c10
            try clear c10b0
            try clear c10b1
            try clear hcz11_0
            try clear hcz11_1
            try clear hcz11_2
            try clear hcz12_0
            try clear hcz12_1
            try clear hcz12_2
            try clear hcz5_0
            try clear hcz5_1
            try clear hcz5_2
            try clear hcz7_0
            try clear hcz7_1
            try clear hcz7_2
            try clear hcz8_0
            try clear hcz8_1
            try clear hcz8_2
            try clear hfz11_0
            try clear hfz11_1
            try clear hfz11_2
            try clear hfz12_0
            try clear hfz12_1
            try clear hfz12_2
            try clear hfz5_0
            try clear hfz5_1
            try clear hfz5_2
            try clear hfz7_0
            try clear hfz7_1
            try clear hfz7_2
            try clear hfz8_0
            try clear hfz8_1
            try clear hfz8_2
            try clear p2
            try clear p6
            obtain ⟨x29_2, rfl, HA, HK2, BK160, HB⟩ := hrel
            cases gk with
            | zero => exact absurd HA.out (by simp [impl_validDevice.l0])
            | succ k2 =>
              have H := HA.out
              clear HA
              simp only [impl_validDevice.l0] at H
              by_cases c13 : x29_2 < (l0_2.length : Int)
              · rw [if_pos c13] at H
                have c13b0 : decide (x29_2 < (l0_2.length : Int)) = true := decide_eq_true c13
                clear c13
                by_cases c14 : 0 ≤ x29_2
                · rw [if_pos c14] at H
                  have c14b0 : decide (0 ≤ x29_2) = true := decide_eq_true c14
                  clear c14
                  by_cases c15 : x29_2 < (l0_2.length : Int)
                  · rw [if_pos c15] at H
                    have c15b0 : decide (x29_2 < (l0_2.length : Int)) = true := decide_eq_true c15
                    clear c15
                    by_cases c16 : ((rd_T67 l0_2 x29_2).f0) < 0
                    · rw [if_pos c16] at H
                      have c16b0 : decide (((rd_T67 l0_2 x29_2).f0) < 0) = true := decide_eq_true c16
                      clear c16
                      obtain rfl := Option.some.inj H
                      have p161 : 0 ≤ (x29_2 : Int) := of_decide_eq_true (by first | (with_reducible assumption) | assumption)
                      have q161 : x29_2 < (l0_2.length : Int) := of_decide_eq_true (by first | (with_reducible assumption) | assumption)
                      obtain ⟨ad161, A161_1, c161_1, e161, hx161_0, hx161_1, hl161_1, hi161_1⟩ := at_T67 HR0_2.out x29_2 p161 q161
                      cases e161
                      replace hx161_0 := (HB.out.cell (World.block_lt_of_cell? w _ hx161_0)).trans hx161_0
                      replace hx161_1 := (HB.out.cell (World.block_lt_of_cell? w _ hx161_1)).trans hx161_1
                      have HR161_1 := Aside0.mk hi161_1
                      have HC161_1 := Aside0.mk hl161_1
                      clear hi161_1 hl161_1
                      replace p161 := eq_true p161
                      replace q161 := eq_true q161
                      go_wp2_with (first | ((with_reducible refine gate_dst (N := 4) rfl ?_); (try (refine gate_guard (by rfl) ?_; dsimp only)); refine box_event ?hg (N := 4) ?hd (cs := #[.int .i64 0, .slice none 0 0]) (t := 67) ?hr ?_; (case hd => rfl); (case hg => rfl); (case hr => first | (go_simp; done) | (go_simp; rfl)); intro gb162 hg w17 hbox hb; have n0_ := Aside0.mk (blk_below (g := gb160) (o := .cells #[.int .i64 a0_0, .slice A0_1 l0_1.length c0_1, .slice (some ad161) l0_2.length c0_2] 47 (0, 0)) (by (with_reducible repeat (first | refine blk_drewN ?_ _ | refine blk_drew ?_ | refine blk_alloc ?_ _)); exact BK160.out) hb); have n1_ := Aside0.mk (below_step (by repeat (first | (with_reducible first | exact HB.out | apply below_alloc | apply pw_below_drewN | apply below_drew1 | refine below_set ?_ GE160.out) | exact HB.out)) hb); have n2_ := Aside0.mk (hbox); have n3_ := Aside0.mk ((by rw [hg]; exact (below_size (by repeat (first | (with_reducible first | exact HB.out | apply below_alloc | apply pw_below_drewN | apply below_drew1 | refine below_set ?_ GE160.out) | exact HB.out))) : w.heap.size ≤ gb162)); have n4_ := Aside0.mk ((by rw [hg]; exact (below_size (by repeat (first | (with_reducible first | exact HB.out | apply below_alloc | apply pw_below_drewN | apply below_drew1 | refine below_set ?_ GE160.out) | exact HB.out))) : w.heap.size ≤ gb162)); have n5_ := Aside0.mk ((by rw [hg]; exact Nat.ne_of_lt (blk_lt (g := gb160) (o := .cells #[.int .i64 a0_0, .slice A0_1 l0_1.length c0_1, .slice (some ad161) l0_2.length c0_2] 47 (0, 0)) (by (with_reducible repeat (first | refine blk_drewN ?_ _ | refine blk_drew ?_ | refine blk_alloc ?_ _)); exact BK160.out)) : gb160 ≠ gb162)); have n6_ := Aside0.mk ((by rw [hg]; exact Nat.ne_of_gt (blk_lt (g := gb160) (o := .cells #[.int .i64 a0_0, .slice A0_1 l0_1.length c0_1, .slice (some ad161) l0_2.length c0_2] 47 (0, 0)) (by (with_reducible repeat (first | refine blk_drewN ?_ _ | refine blk_drew ?_ | refine blk_alloc ?_ _)); exact BK160.out)) : gb162 ≠ gb160)); clear BK160; clear HB; have BK160 := n0_; have HB := n1_; have BK162 := n2_; have GW162 := n3_; have GE162 := n4_; have NB160_162 := n5_; have NB162_160 := n6_; clear n0_ n1_ n2_ n3_ n4_ n5_ n6_; clear hb hbox hg; have hnb18 := NB162_160.out; have hnc18 := NB160_162.out; have hcz19_0 : w17.cell? ⟨gb162, 0, none⟩ = some (.int .i64 0) := (blk_cell BK162.out 0).trans rfl; have hcz19_1 : w17.cell? ⟨gb162, 1, none⟩ = some (.slice none 0 0) := (blk_cell BK162.out 1).trans rfl; have hfz19_0 := blk_frozen BK162.out 0; have hfz19_1 := blk_frozen BK162.out 1))
                      go_ret
                      exact ⟨by first | rfl | (simp [errW_none, errW_some] <;> rfl) | (simp [*, errW_none, errW_some] <;> rfl), by repeat (first | (with_reducible first | exact HB.out | apply below_alloc | apply pw_below_drewN | apply below_drew1 | refine below_set ?_ GE160.out | refine below_set ?_ GE162.out) | exact HB.out)⟩
                    · rw [if_neg c16] at H
                      have c16b0 : decide (((rd_T67 l0_2 x29_2).f0) < 0) = false := decide_eq_false c16
                      clear c16
                      by_cases c20 : ((rd_T67 l0_2 x29_2).f0) ≥ a0_0
                      · rw [if_pos c20] at H
                        have c20b0 : decide (a0_0 ≤ ((rd_T67 l0_2 x29_2).f0)) = true := decide_eq_true c20
                        clear c20
                        obtain rfl := Option.some.inj H
                        have p161 : 0 ≤ (x29_2 : Int) := of_decide_eq_true (by first | (with_reducible assumption) | assumption)
                        have q161 : x29_2 < (l0_2.length : Int) := of_decide_eq_true (by first | (with_reducible assumption) | assumption)
                        obtain ⟨ad161, A161_1, c161_1, e161, hx161_0, hx161_1, hl161_1, hi161_1⟩ := at_T67 HR0_2.out x29_2 p161 q161
                        cases e161
                        replace hx161_0 := (HB.out.cell (World.block_lt_of_cell? w _ hx161_0)).trans hx161_0
                        replace hx161_1 := (HB.out.cell (World.block_lt_of_cell? w _ hx161_1)).trans hx161_1
                        have HR161_1 := Aside0.mk hi161_1
                        have HC161_1 := Aside0.mk hl161_1
                        clear hi161_1 hl161_1
                        replace p161 := eq_true p161
                        replace q161 := eq_true q161
                        go_wp2_with (first | ((with_reducible refine gate_dst (N := 4) rfl ?_); (try (refine gate_guard (by rfl) ?_; dsimp only)); refine box_event ?hg (N := 4) ?hd (cs := #[.int .i64 0, .slice none 0 0]) (t := 67) ?hr ?_; (case hd => rfl); (case hg => rfl); (case hr => first | (go_simp; done) | (go_simp; rfl)); intro gb162 hg w21 hbox hb; have n0_ := Aside0.mk (blk_below (g := gb160) (o := .cells #[.int .i64 a0_0, .slice A0_1 l0_1.length c0_1, .slice (some ad161) l0_2.length c0_2] 47 (0, 0)) (by (with_reducible repeat (first | refine blk_drewN ?_ _ | refine blk_drew ?_ | refine blk_alloc ?_ _)); exact BK160.out) hb); have n1_ := Aside0.mk (below_step (by repeat (first | (with_reducible first | exact HB.out | apply below_alloc | apply pw_below_drewN | apply below_drew1 | refine below_set ?_ GE160.out) | exact HB.out)) hb); have n2_ := Aside0.mk (hbox); have n3_ := Aside0.mk ((by rw [hg]; exact (below_size (by repeat (first | (with_reducible first | exact HB.out | apply below_alloc | apply pw_below_drewN | apply below_drew1 | refine below_set ?_ GE160.out) | exact HB.out))) : w.heap.size ≤ gb162)); have n4_ := Aside0.mk ((by rw [hg]; exact (below_size (by repeat (first | (with_reducible first | exact HB.out | apply below_alloc | apply pw_below_drewN | apply below_drew1 | refine below_set ?_ GE160.out) | exact HB.out))) : w.heap.size ≤ gb162)); have n5_ := Aside0.mk ((by rw [hg]; exact Nat.ne_of_lt (blk_lt (g := gb160) (o := .cells #[.int .i64 a0_0, .slice A0_1 l0_1.length c0_1, .slice (some ad161) l0_2.length c0_2] 47 (0, 0)) (by (with_reducible repeat (first | refine blk_drewN ?_ _ | refine blk_drew ?_ | refine blk_alloc ?_ _)); exact BK160.out)) : gb160 ≠ gb162)); have n6_ := Aside0.mk ((by rw [hg]; exact Nat.ne_of_gt (blk_lt (g := gb160) (o := .cells #[.int .i64 a0_0, .slice A0_1 l0_1.length c0_1, .slice (some ad161) l0_2.length c0_2] 47 (0, 0)) (by (with_reducible repeat (first | refine blk_drewN ?_ _ | refine blk_drew ?_ | refine blk_alloc ?_ _)); exact BK160.out)) : gb162 ≠ gb160)); clear BK160; clear HB; have BK160 := n0_; have HB := n1_; have BK162 := n2_; have GW162 := n3_; have GE162 := n4_; have NB160_162 := n5_; have NB162_160 := n6_; clear n0_ n1_ n2_ n3_ n4_ n5_ n6_; clear hb hbox hg; have hnb22 := NB162_160.out; have hnc22 := NB160_162.out; have hcz23_0 : w21.cell? ⟨gb162, 0, none⟩ = some (.int .i64 0) := (blk_cell BK162.out 0).trans rfl; have hcz23_1 : w21.cell? ⟨gb162, 1, none⟩ = some (.slice none 0 0) := (blk_cell BK162.out 1).trans rfl; have hfz23_0 := blk_frozen BK162.out 0; have hfz23_1 := blk_frozen BK162.out 1; have hcz24_0 : w21.cell? ⟨gb160, 0, none⟩ = some (.int .i64 a0_0) := (blk_cell BK160.out 0).trans rfl; have hcz24_1 : w21.cell? ⟨gb160, 1, none⟩ = some (.slice A0_1 l0_1.length c0_1) := (blk_cell BK160.out 1).trans rfl; have hcz24_2 : w21.cell? ⟨gb160, 2, none⟩ = some (.slice (some ad161) l0_2.length c0_2) := (blk_cell BK160.out 2).trans rfl; have hfz24_0 := blk_frozen BK160.out 0; have hfz24_1 := blk_frozen BK160.out 1; have hfz24_2 := blk_frozen BK160.out 2))
                        go_ret
                        exact ⟨by first | rfl | (simp [errW_none, errW_some] <;> rfl) | (simp [*, errW_none, errW_some] <;> rfl), by repeat (first | (with_reducible first | exact HB.out | apply below_alloc | apply pw_below_drewN | apply below_drew1 | refine below_set ?_ GE160.out | refine below_set ?_ GE162.out) | exact HB.out)⟩
                      · rw [if_neg c20] at H
                        have c20b0 : decide (a0_0 ≤ ((rd_T67 l0_2 x29_2).f0)) = false := decide_eq_false c20
                        clear c20
                        by_cases c25 : (((rd_T67 l0_2 x29_2).f1).length : Int) = 128
                        · rw [if_pos c25] at H
                          have c25b0 : ((((rd_T67 l0_2 x29_2).f1).length : Int) == 128) = true := beq_iff_eq.mpr c25
                          have c25b1 : ((((rd_T67 l0_2 x29_2).f1).length : Int) != 128) = false := bne_eq_false_iff_eq.mpr c25
                          clear c25
                          have H' := Aside0.mk H
                          clear H
                          have p161 : 0 ≤ (x29_2 : Int) := of_decide_eq_true (by first | (with_reducible assumption) | assumption)
                          have q161 : x29_2 < (l0_2.length : Int) := of_decide_eq_true (by first | (with_reducible assumption) | assumption)
                          obtain ⟨ad161, A161_1, c161_1, e161, hx161_0, hx161_1, hl161_1, hi161_1⟩ := at_T67 HR0_2.out x29_2 p161 q161
                          cases e161
                          replace hx161_0 := (HB.out.cell (World.block_lt_of_cell? w _ hx161_0)).trans hx161_0
                          replace hx161_1 := (HB.out.cell (World.block_lt_of_cell? w _ hx161_1)).trans hx161_1
                          have HR161_1 := Aside0.mk hi161_1
                          have HC161_1 := Aside0.mk hl161_1
                          clear hi161_1 hl161_1
                          replace p161 := eq_true p161
                          replace q161 := eq_true q161
                          go_wp2_with (first | ((with_reducible refine gate_dst (N := 4) rfl ?_); (try (refine gate_guard (by rfl) ?_; dsimp only)); refine box_event ?hg (N := 4) ?hd (cs := #[.int .i64 0, .slice none 0 0]) (t := 67) ?hr ?_; (case hd => rfl); (case hg => rfl); (case hr => first | (go_simp; done) | (go_simp; rfl)); intro gb162 hg w26 hbox hb; have n0_ := Aside0.mk (blk_below (g := gb160) (o := .cells #[.int .i64 a0_0, .slice A0_1 l0_1.length c0_1, .slice (some ad161) l0_2.length c0_2] 47 (0, 0)) (by (with_reducible repeat (first | refine blk_drewN ?_ _ | refine blk_drew ?_ | refine blk_alloc ?_ _)); exact BK160.out) hb); have n1_ := Aside0.mk (below_step (by repeat (first | (with_reducible first | exact HB.out | apply below_alloc | apply pw_below_drewN | apply below_drew1 | refine below_set ?_ GE160.out) | exact HB.out)) hb); have n2_ := Aside0.mk (hbox); have n3_ := Aside0.mk ((by rw [hg]; exact (below_size (by repeat (first | (with_reducible first | exact HB.out | apply below_alloc | apply pw_below_drewN | apply below_drew1 | refine below_set ?_ GE160.out) | exact HB.out))) : w.heap.size ≤ gb162)); have n4_ := Aside0.mk ((by rw [hg]; exact (below_size (by repeat (first | (with_reducible first | exact HB.out | apply below_alloc | apply pw_below_drewN | apply below_drew1 | refine below_set ?_ GE160.out) | exact HB.out))) : w.heap.size ≤ gb162)); have n5_ := Aside0.mk ((by rw [hg]; exact Nat.ne_of_lt (blk_lt (g := gb160) (o := .cells #[.int .i64 a0_0, .slice A0_1 l0_1.length c0_1, .slice (some ad161) l0_2.length c0_2] 47 (0, 0)) (by (with_reducible repeat (first | refine blk_drewN ?_ _ | refine blk_drew ?_ | refine blk_alloc ?_ _)); exact BK160.out)) : gb160 ≠ gb162)); have n6_ := Aside0.mk ((by rw [hg]; exact Nat.ne_of_gt (blk_lt (g := gb160) (o := .cells #[.int .i64 a0_0, .slice A0_1 l0_1.length c0_1, .slice (some ad161) l0_2.length c0_2] 47 (0, 0)) (by (with_reducible repeat (first | refine blk_drewN ?_ _ | refine blk_drew ?_ | refine blk_alloc ?_ _)); exact BK160.out)) : gb162 ≠ gb160)); clear BK160; clear HB; have BK160 := n0_; have HB := n1_; have BK162 := n2_; have GW162 := n3_; have GE162 := n4_; have NB160_162 := n5_; have NB162_160 := n6_; clear n0_ n1_ n2_ n3_ n4_ n5_ n6_; clear hb hbox hg; have hnb27 := NB162_160.out; have hnc27 := NB160_162.out; have hcz28_0 : w26.cell? ⟨gb162, 0, none⟩ = some (.int .i64 0) := (blk_cell BK162.out 0).trans rfl; have hcz28_1 : w26.cell? ⟨gb162, 1, none⟩ = some (.slice none 0 0) := (blk_cell BK162.out 1).trans rfl; have hfz28_0 := blk_frozen BK162.out 0; have hfz28_1 := blk_frozen BK162.out 1; have hcz29_0 : w26.cell? ⟨gb160, 0, none⟩ = some (.int .i64 a0_0) := (blk_cell BK160.out 0).trans rfl; have hcz29_1 : w26.cell? ⟨gb160, 1, none⟩ = some (.slice A0_1 l0_1.length c0_1) := (blk_cell BK160.out 1).trans rfl; have hcz29_2 : w26.cell? ⟨gb160, 2, none⟩ = some (.slice (some ad161) l0_2.length c0_2) := (blk_cell BK160.out 2).trans rfl; have hfz29_0 := blk_frozen BK160.out 0; have hfz29_1 := blk_frozen BK160.out 1; have hfz29_2 := blk_frozen BK160.out 2))
                          go_roundg k2
                          case measure => have := HJ1.out; have := HK2.out; omega
                          case rel => exact ⟨(wrap64 (x29_2 + 1)), (by first | rfl | (simp; done) | (simp [*]; done)), H', ⟨by have := HJ1.out; have := HK2.out; omega⟩, ⟨by (with_reducible repeat (first | refine blk_drewN ?_ _ | refine blk_drew ?_ | refine blk_alloc ?_ _)); refine blk_far ?_ NB160_162.out _; (with_reducible repeat (first | refine blk_drewN ?_ _ | refine blk_drew ?_ | refine blk_alloc ?_ _)); refine blk_far ?_ NB160_162.out _; (with_reducible repeat (first | refine blk_drewN ?_ _ | refine blk_drew ?_ | refine blk_alloc ?_ _)); exact BK160.out⟩, ⟨by repeat (first | (with_reducible first | exact HB.out | apply below_alloc | apply pw_below_drewN | apply below_drew1 | refine below_set ?_ GE160.out | refine below_set ?_ GE162.out) | exact HB.out)⟩⟩
                        · rw [if_neg c25] at H
                          have c25b0 : ((((rd_T67 l0_2 x29_2).f1).length : Int) == 128) = false := beq_eq_false_iff_ne.mpr c25
                          have c25b1 : ((((rd_T67 l0_2 x29_2).f1).length : Int) != 128) = true := bne_iff_ne.mpr c25
                          obtain rfl := Option.some.inj H
                          have p161 : 0 ≤ (x29_2 : Int) := of_decide_eq_true (by first | (with_reducible assumption) | assumption)
                          have q161 : x29_2 < (l0_2.length : Int) := of_decide_eq_true (by first | (with_reducible assumption) | assumption)
                          obtain ⟨ad161, A161_1, c161_1, e161, hx161_0, hx161_1, hl161_1, hi161_1⟩ := at_T67 HR0_2.out x29_2 p161 q161
                          cases e161
                          replace hx161_0 := (HB.out.cell (World.block_lt_of_cell? w _ hx161_0)).trans hx161_0
                          replace hx161_1 := (HB.out.cell (World.block_lt_of_cell? w _ hx161_1)).trans hx161_1
                          have HR161_1 := Aside0.mk hi161_1
                          have HC161_1 := Aside0.mk hl161_1
                          clear hi161_1 hl161_1
                          replace p161 := eq_true p161
                          replace q161 := eq_true q161
                          go_wp2_with (first | ((with_reducible refine gate_dst (N := 4) rfl ?_); (try (refine gate_guard (by rfl) ?_; dsimp only)); refine box_event ?hg (N := 4) ?hd (cs := #[.int .i64 0, .slice none 0 0]) (t := 67) ?hr ?_; (case hd => rfl); (case hg => rfl); (case hr => first | (go_simp; done) | (go_simp; rfl)); intro gb162 hg w30 hbox hb; have n0_ := Aside0.mk (blk_below (g := gb160) (o := .cells #[.int .i64 a0_0, .slice A0_1 l0_1.length c0_1, .slice (some ad161) l0_2.length c0_2] 47 (0, 0)) (by (with_reducible repeat (first | refine blk_drewN ?_ _ | refine blk_drew ?_ | refine blk_alloc ?_ _)); exact BK160.out) hb); have n1_ := Aside0.mk (below_step (by repeat (first | (with_reducible first | exact HB.out | apply below_alloc | apply pw_below_drewN | apply below_drew1 | refine below_set ?_ GE160.out) | exact HB.out)) hb); have n2_ := Aside0.mk (hbox); have n3_ := Aside0.mk ((by rw [hg]; exact (below_size (by repeat (first | (with_reducible first | exact HB.out | apply below_alloc | apply pw_below_drewN | apply below_drew1 | refine below_set ?_ GE160.out) | exact HB.out))) : w.heap.size ≤ gb162)); have n4_ := Aside0.mk ((by rw [hg]; exact (below_size (by repeat (first | (with_reducible first | exact HB.out | apply below_alloc | apply pw_below_drewN | apply below_drew1 | refine below_set ?_ GE160.out) | exact HB.out))) : w.heap.size ≤ gb162)); have n5_ := Aside0.mk ((by rw [hg]; exact Nat.ne_of_lt (blk_lt (g := gb160) (o := .cells #[.int .i64 a0_0, .slice A0_1 l0_1.length c0_1, .slice (some ad161) l0_2.length c0_2] 47 (0, 0)) (by (with_reducible repeat (first | refine blk_drewN ?_ _ | refine blk_drew ?_ | refine blk_alloc ?_ _)); exact BK160.out)) : gb160 ≠ gb162)); have n6_ := Aside0.mk ((by rw [hg]; exact Nat.ne_of_gt (blk_lt (g := gb160) (o := .cells #[.int .i64 a0_0, .slice A0_1 l0_1.length c0_1, .slice (some ad161) l0_2.length c0_2] 47 (0, 0)) (by (with_reducible repeat (first | refine blk_drewN ?_ _ | refine blk_drew ?_ | refine blk_alloc ?_ _)); exact BK160.out)) : gb162 ≠ gb160)); clear BK160; clear HB; have BK160 := n0_; have HB := n1_; have BK162 := n2_; have GW162 := n3_; have GE162 := n4_; have NB160_162 := n5_; have NB162_160 := n6_; clear n0_ n1_ n2_ n3_ n4_ n5_ n6_; clear hb hbox hg; have hnb31 := NB162_160.out; have hnc31 := NB160_162.out; have hcz32_0 : w30.cell? ⟨gb162, 0, none⟩ = some (.int .i64 0) := (blk_cell BK162.out 0).trans rfl; have hcz32_1 : w30.cell? ⟨gb162, 1, none⟩ = some (.slice none 0 0) := (blk_cell BK162.out 1).trans rfl; have hfz32_0 := blk_frozen BK162.out 0; have hfz32_1 := blk_frozen BK162.out 1; have hcz33_0 : w30.cell? ⟨gb160, 0, none⟩ = some (.int .i64 a0_0) := (blk_cell BK160.out 0).trans rfl; have hcz33_1 : w30.cell? ⟨gb160, 1, none⟩ = some (.slice A0_1 l0_1.length c0_1) := (blk_cell BK160.out 1).trans rfl; have hcz33_2 : w30.cell? ⟨gb160, 2, none⟩ = some (.slice (some ad161) l0_2.length c0_2) := (blk_cell BK160.out 2).trans rfl; have hfz33_0 := blk_frozen BK160.out 0; have hfz33_1 := blk_frozen BK160.out 1; have hfz33_2 := blk_frozen BK160.out 2))
                          go_ret
                          exact ⟨by first | rfl | (simp [errW_none, errW_some] <;> rfl) | (simp [*, errW_none, errW_some] <;> rfl), by repeat (first | (with_reducible first | exact HB.out | apply below_alloc | apply pw_below_drewN | apply below_drew1 | refine below_set ?_ GE160.out | refine below_set ?_ GE162.out) | exact HB.out)⟩
                  · rw [if_neg c15] at H
                    exact absurd H (by simp)
                · rw [if_neg c14] at H
                  exact absurd H (by simp)
              · rw [if_neg c13] at H
                have c13b0 : decide (x29_2 < (l0_2.length : Int)) = false := decide_eq_false c13
                clear c13
                obtain rfl := Option.some.inj H
                go_wp2
                go_ret
                exact ⟨by first | rfl | (simp [errW_none, errW_some] <;> rfl) | (simp [*, errW_none, errW_some] <;> rfl), by repeat (first | (with_reducible first | exact HB.out | apply below_alloc | apply pw_below_drewN | apply below_drew1 | refine below_set ?_ GE160.out) | exact HB.out)⟩

end Go.Proofs.Ytbimmmmjdimebaa.PFnExactDevApply
