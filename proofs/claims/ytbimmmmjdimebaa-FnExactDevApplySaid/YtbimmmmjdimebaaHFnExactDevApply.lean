/- Contracts by hand, beside the printed ones. -/
import Derived.Test.YtbimmmmjdimebaaGFnExactDevApply
namespace Go.Proofs.Ytbimmmmjdimebaa.PFnExactDevApply
open Go.RowKit Go.Proofs.YtbimmmmjdimebaaW.PrintWords Go.Proofs.YtbimmmmjdimebaaW.PrintLast Go.Proofs.YtbimmmmjdimebaaW.PrintMore
attribute [local go_sem] max2_int min2_int max_two min_two max_three min_three max_four min_four   -- for this text's walks alone
set_option linter.unusedVariables false
set_option linter.unusedSimpArgs false

/-! ### laws_FnExactDevApply: what each call on its way comes to; its walk -/
def laws_FnExactDevApply.Facts (a0_0 : Int) (l0_1 : List Int) (l0_2 : List S127) (l1 : List S122) (a2 : Int) : Prop :=
  (∃ (k : Nat) (r4 : Int), laws_szDevice.f k a0_0 l0_1 l0_2 1048576 = some r4 ∧ r4 < 0) ∨
  (∃ (k : Nat) (r4 : Int) (r10 : Int), laws_szDevice.f k a0_0 l0_1 l0_2 1048576 = some r4 ∧ ¬ r4 < 0 ∧ laws_szStepS.f k l1 r4 = some r10 ∧ r10 < 0) ∨
  (∃ (k : Nat) (r4 : Int) (r10 : Int) (r16 : Int) (r17 : List Int) (r18 : List (S67)) (r31 : List (S71)) (r40 : Int) (r41 : List Int) (r42 : List (S67)) (r43 : Int) (r127 : Int) (r128 : List Int) (r129 : List S67) (r136 : Int) (r137 : List S71) (r147 : Int) (r148 : List Int) (r149 : List S67), laws_szDevice.f k a0_0 l0_1 l0_2 1048576 = some r4 ∧ ¬ r4 < 0 ∧ laws_szStepS.f k l1 r4 = some r10 ∧ ¬ r10 < 0 ∧ laws_toDevice.f k a0_0 l0_1 l0_2 = some (r16, r17, r18) ∧ laws_toStepS.f k l1 = some r31 ∧ spec_DevApply.f k r16 r17 r18 r31 a2 = some (r40, r41, r42, r43) ∧ impl_DevApply.f k r16 r17 r18 r31 a2 = some (r40, r41, r42, r43) ∧ laws_eqDevice.f k r40 r41 r42 r40 r41 r42 = some true ∧ laws_eqDevice.f k r16 r17 r18 r16 r17 r18 = some true ∧ laws_eqStepS.f k r31 r31 = some true ∧ laws_markDevice.f k r16 r17 r18 1 = some (r127, r128, r129) ∧ laws_markStepS.f k r31 r127 = some (r136, r137) ∧ ¬ r136 < 0 ∧ laws_markDevice.f k r40 r41 r42 1 = some (r147, r148, r149) ∧ laws_heldDevice.f k r40 r148 r149 1 = some r147 ∧ ¬ r147 < 0)
set_option maxHeartbeats 16000000 in
set_option maxRecDepth 100000 in
theorem laws_FnExactDevApply.walk0 (a0_0 : Int) (A0_1 : Option Addr) (c0_1 : Nat) (l0_1 : List Int) (A0_2 : Option Addr) (c0_2 : Nat) (l0_2 : List S127) (A1 : Option Addr) (c1 : Nat) (l1 : List S122) (a2 : Int) (W : World) (hr0_1 : Kd.C (Kd.int .u8) W A0_1 l0_1.length l0_1) (hc0_1 : l0_1.length ≤ c0_1) (hr0_2 : Kd.C k127 W A0_2 l0_2.length l0_2) (hc0_2 : l0_2.length ≤ c0_2) (hr1 : Kd.C k122 W A1 l1.length l1) (hc1 : l1.length ≤ c1) (k : Nat) (r4 : Int) (E5 : laws_szDevice.f k a0_0 l0_1 l0_2 1048576 = some r4) (T9 : r4 < 0) :
    Calls Try.prog 12 #[.agg #[.int .i64 a0_0, .slice A0_1 l0_1.length c0_1, .slice A0_2 l0_2.length c0_2], .slice A1 l1.length c1, .int .i64 a2] W fun e w' => e = .returned (.bool true) ∧ Below W.heap.size W w' := by
  have HB := Aside0.mk (Below.refl W.heap.size W)
  have I : Law.Inv [] W := trivial
  have hu41 := Try.underlying41
  have DT9 : decide (r4 < 0) = true := decide_eq_true T9
  clear T9
  replace E5 := Aside0.mk E5
  go_enter Try.func12, Try.ntmps12
  go_wp2_with (first
    | ((with_reducible refine gate_dst (N := 3) rfl ?_)
       refine box_event ?hg (N := 3) ?hd (cs := #[.int .i64 a0_0, .slice A0_1 l0_1.length c0_1, .slice A0_2 l0_2.length c0_2]) (t := 41) ?hr ?_
       (case hd => rfl)
       (case hg => rfl)
       (case hr => first | (go_simp; done) | (go_simp; rfl))
       intro gb1 hg w2 hbox hb
       have I1 := Law.Inv.below (Law.Inv.on I (fun I => by (with_reducible repeat (first | apply Law.Inv.alloc | apply Law.Inv.drewN | apply Law.Inv.drew)); exact I)) hb
       have HB1 := Aside0.mk (below_step (by repeat (first | (with_reducible first | exact HB.out | apply below_alloc | apply pw_below_drewN | apply below_drew1) | exact HB.out)) hb)
       have SZ3 := Aside0.mk (show W.heap.size ≤ gb1 ∧ gb1 + 1 ≤ w2.heap.size from ⟨by rw [hg]; exact (by repeat (first | (with_reducible first | exact HB.out | apply below_alloc | apply pw_below_drewN | apply below_drew1) | exact HB.out) : Below W.heap.size W _).size, blk_lt hbox⟩)
       have I2 := Law.Inv.cons (s := Law.boxI gb1 #[.int .i64 a0_0, .slice A0_1 l0_1.length c0_1, .slice A0_2 l0_2.length c0_2] 41) ⟨hbox, blk_lt hbox⟩ I1
       clear I HB hbox hb hg I1
       have I := I2
       have HB := HB1
       clear I2 HB1
       have hcz_gb1_w2_0 : w2.cell? ⟨gb1, 0, none⟩ = some (.int .i64 a0_0) := (blk_cell (Law.blk_of (I.1.1)) 0).trans rfl
       have hfz_gb1_w2_0 := blk_frozen (Law.blk_of (I.1.1)) 0
       have hcz_gb1_w2_1 : w2.cell? ⟨gb1, 1, none⟩ = some (.slice A0_1 l0_1.length c0_1) := (blk_cell (Law.blk_of (I.1.1)) 1).trans rfl
       have hfz_gb1_w2_1 := blk_frozen (Law.blk_of (I.1.1)) 1
       have hcz_gb1_w2_2 : w2.cell? ⟨gb1, 2, none⟩ = some (.slice A0_2 l0_2.length c0_2) := (blk_cell (Law.blk_of (I.1.1)) 2).trans rfl
       have hfz_gb1_w2_2 := blk_frozen (Law.blk_of (I.1.1)) 2)
    | ((with_reducible refine gate_callee (f := 26) rfl ?_)
       refine goesL_ (some 21) rfl rfl Try.func26 (by kernel_rfl) rfl #[.agg #[.int .i64 a0_0, .slice A0_1 l0_1.length c0_1, .slice A0_2 l0_2.length c0_2], .int .i64 1048576] rfl (by (try simp only [List.map_toArray, List.map_cons, List.map_nil]); first | done | rfl) ?_
       refine Law.at_world (fun w6 hw1 => ?_)
       have I1 := Law.Inv.to I hw1 (fun I => by (with_reducible repeat (first | apply Law.Inv.alloc | apply Law.Inv.drewN | apply Law.Inv.drew)); exact I)
       have HB1 := Aside0.mk (show Below W.heap.size W w6 by rw [hw1]; repeat (first | (with_reducible first | exact HB.out | apply below_alloc | apply pw_below_drewN | apply below_drew1) | exact HB.out))
       clear I HB hw1
       have I := I1
       have HB := HB1
       clear I1 HB1
       refine (laws_szDevice.calls k a0_0 A0_1 c0_1 l0_1 A0_2 c0_2 l0_2 1048576 r4 w6 ?_ ?_ ?_ ?_ E5.out).mono ?_
       · exact Kd.C_below hr0_1 HB.out
       · exact hc0_1
       · exact Kd.C_below hr0_2 HB.out
       · exact hc0_2
       rintro e w7 ⟨rfl, hq0⟩
       refine ⟨_, rfl, ?_⟩
       have I1 := Law.Inv.below I hq0
       have HB1 := Aside0.mk (below_step HB.out hq0)
       have SZ8 := Aside0.mk (show W.heap.size ≤ w6.heap.size ∧ gb1 + 1 ≤ w6.heap.size ∧ w6.heap.size ≤ w7.heap.size from ⟨HB.out.size, I.1.2, hq0.size⟩)
       clear I HB
       have I := I1
       have HB := HB1
       clear I1 HB1
       have hcz_gb1_w7_0 : w7.cell? ⟨gb1, 0, none⟩ = some (.int .i64 a0_0) := (blk_cell (Law.blk_of (I.1.1)) 0).trans rfl
       have hfz_gb1_w7_0 := blk_frozen (Law.blk_of (I.1.1)) 0
       have hcz_gb1_w7_1 : w7.cell? ⟨gb1, 1, none⟩ = some (.slice A0_1 l0_1.length c0_1) := (blk_cell (Law.blk_of (I.1.1)) 1).trans rfl
       have hfz_gb1_w7_1 := blk_frozen (Law.blk_of (I.1.1)) 1
       have hcz_gb1_w7_2 : w7.cell? ⟨gb1, 2, none⟩ = some (.slice A0_2 l0_2.length c0_2) := (blk_cell (Law.blk_of (I.1.1)) 2).trans rfl
       have hfz_gb1_w7_2 := blk_frozen (Law.blk_of (I.1.1)) 2))
  try go_wp2
  go_ret
  exact ⟨rfl, by repeat (first | (with_reducible first | exact HB.out | apply below_alloc | apply pw_below_drewN | apply below_drew1) | exact HB.out)⟩
set_option maxHeartbeats 16000000 in
set_option maxRecDepth 100000 in
theorem laws_FnExactDevApply.walk1 (a0_0 : Int) (A0_1 : Option Addr) (c0_1 : Nat) (l0_1 : List Int) (A0_2 : Option Addr) (c0_2 : Nat) (l0_2 : List S127) (A1 : Option Addr) (c1 : Nat) (l1 : List S122) (a2 : Int) (W : World) (hr0_1 : Kd.C (Kd.int .u8) W A0_1 l0_1.length l0_1) (hc0_1 : l0_1.length ≤ c0_1) (hr0_2 : Kd.C k127 W A0_2 l0_2.length l0_2) (hc0_2 : l0_2.length ≤ c0_2) (hr1 : Kd.C k122 W A1 l1.length l1) (hc1 : l1.length ≤ c1) (k : Nat) (r4 : Int) (r10 : Int) (E5 : laws_szDevice.f k a0_0 l0_1 l0_2 1048576 = some r4) (T9 : ¬ r4 < 0) (E11 : laws_szStepS.f k l1 r4 = some r10) (T15 : r10 < 0) :
    Calls Try.prog 12 #[.agg #[.int .i64 a0_0, .slice A0_1 l0_1.length c0_1, .slice A0_2 l0_2.length c0_2], .slice A1 l1.length c1, .int .i64 a2] W fun e w' => e = .returned (.bool true) ∧ Below W.heap.size W w' := by
  have HB := Aside0.mk (Below.refl W.heap.size W)
  have I : Law.Inv [] W := trivial
  have hu41 := Try.underlying41
  have DT9 : decide (r4 < 0) = false := decide_eq_false T9
  clear T9
  have DT15 : decide (r10 < 0) = true := decide_eq_true T15
  clear T15
  replace E5 := Aside0.mk E5
  replace E11 := Aside0.mk E11
  go_enter Try.func12, Try.ntmps12
  go_wp2_with (first
    | ((with_reducible refine gate_dst (N := 3) rfl ?_)
       refine box_event ?hg (N := 3) ?hd (cs := #[.int .i64 a0_0, .slice A0_1 l0_1.length c0_1, .slice A0_2 l0_2.length c0_2]) (t := 41) ?hr ?_
       (case hd => rfl)
       (case hg => rfl)
       (case hr => first | (go_simp; done) | (go_simp; rfl))
       intro gb1 hg w2 hbox hb
       have I1 := Law.Inv.below (Law.Inv.on I (fun I => by (with_reducible repeat (first | apply Law.Inv.alloc | apply Law.Inv.drewN | apply Law.Inv.drew)); exact I)) hb
       have HB1 := Aside0.mk (below_step (by repeat (first | (with_reducible first | exact HB.out | apply below_alloc | apply pw_below_drewN | apply below_drew1) | exact HB.out)) hb)
       have SZ3 := Aside0.mk (show W.heap.size ≤ gb1 ∧ gb1 + 1 ≤ w2.heap.size from ⟨by rw [hg]; exact (by repeat (first | (with_reducible first | exact HB.out | apply below_alloc | apply pw_below_drewN | apply below_drew1) | exact HB.out) : Below W.heap.size W _).size, blk_lt hbox⟩)
       have I2 := Law.Inv.cons (s := Law.boxI gb1 #[.int .i64 a0_0, .slice A0_1 l0_1.length c0_1, .slice A0_2 l0_2.length c0_2] 41) ⟨hbox, blk_lt hbox⟩ I1
       clear I HB hbox hb hg I1
       have I := I2
       have HB := HB1
       clear I2 HB1
       have hcz_gb1_w2_0 : w2.cell? ⟨gb1, 0, none⟩ = some (.int .i64 a0_0) := (blk_cell (Law.blk_of (I.1.1)) 0).trans rfl
       have hfz_gb1_w2_0 := blk_frozen (Law.blk_of (I.1.1)) 0
       have hcz_gb1_w2_1 : w2.cell? ⟨gb1, 1, none⟩ = some (.slice A0_1 l0_1.length c0_1) := (blk_cell (Law.blk_of (I.1.1)) 1).trans rfl
       have hfz_gb1_w2_1 := blk_frozen (Law.blk_of (I.1.1)) 1
       have hcz_gb1_w2_2 : w2.cell? ⟨gb1, 2, none⟩ = some (.slice A0_2 l0_2.length c0_2) := (blk_cell (Law.blk_of (I.1.1)) 2).trans rfl
       have hfz_gb1_w2_2 := blk_frozen (Law.blk_of (I.1.1)) 2)
    | ((with_reducible refine gate_callee (f := 26) rfl ?_)
       refine goesL_ (some 21) rfl rfl Try.func26 (by kernel_rfl) rfl #[.agg #[.int .i64 a0_0, .slice A0_1 l0_1.length c0_1, .slice A0_2 l0_2.length c0_2], .int .i64 1048576] rfl (by (try simp only [List.map_toArray, List.map_cons, List.map_nil]); first | done | rfl) ?_
       refine Law.at_world (fun w6 hw1 => ?_)
       have I1 := Law.Inv.to I hw1 (fun I => by (with_reducible repeat (first | apply Law.Inv.alloc | apply Law.Inv.drewN | apply Law.Inv.drew)); exact I)
       have HB1 := Aside0.mk (show Below W.heap.size W w6 by rw [hw1]; repeat (first | (with_reducible first | exact HB.out | apply below_alloc | apply pw_below_drewN | apply below_drew1) | exact HB.out))
       clear I HB hw1
       have I := I1
       have HB := HB1
       clear I1 HB1
       refine (laws_szDevice.calls k a0_0 A0_1 c0_1 l0_1 A0_2 c0_2 l0_2 1048576 r4 w6 ?_ ?_ ?_ ?_ E5.out).mono ?_
       · exact Kd.C_below hr0_1 HB.out
       · exact hc0_1
       · exact Kd.C_below hr0_2 HB.out
       · exact hc0_2
       rintro e w7 ⟨rfl, hq0⟩
       refine ⟨_, rfl, ?_⟩
       have I1 := Law.Inv.below I hq0
       have HB1 := Aside0.mk (below_step HB.out hq0)
       have SZ8 := Aside0.mk (show W.heap.size ≤ w6.heap.size ∧ gb1 + 1 ≤ w6.heap.size ∧ w6.heap.size ≤ w7.heap.size from ⟨HB.out.size, I.1.2, hq0.size⟩)
       clear I HB
       have I := I1
       have HB := HB1
       clear I1 HB1
       have hcz_gb1_w7_0 : w7.cell? ⟨gb1, 0, none⟩ = some (.int .i64 a0_0) := (blk_cell (Law.blk_of (I.1.1)) 0).trans rfl
       have hfz_gb1_w7_0 := blk_frozen (Law.blk_of (I.1.1)) 0
       have hcz_gb1_w7_1 : w7.cell? ⟨gb1, 1, none⟩ = some (.slice A0_1 l0_1.length c0_1) := (blk_cell (Law.blk_of (I.1.1)) 1).trans rfl
       have hfz_gb1_w7_1 := blk_frozen (Law.blk_of (I.1.1)) 1
       have hcz_gb1_w7_2 : w7.cell? ⟨gb1, 2, none⟩ = some (.slice A0_2 l0_2.length c0_2) := (blk_cell (Law.blk_of (I.1.1)) 2).trans rfl
       have hfz_gb1_w7_2 := blk_frozen (Law.blk_of (I.1.1)) 2)
    | ((with_reducible refine gate_callee (f := 54) rfl ?_)
       refine goesL_ (some 26) rfl rfl Try.func54 (by kernel_rfl) rfl #[.slice A1 l1.length c1, .int .i64 r4] rfl (by (try simp only [List.map_toArray, List.map_cons, List.map_nil]); first | done | rfl) ?_
       refine Law.at_world (fun w12 hw1 => ?_)
       have I1 := Law.Inv.to I hw1 (fun I => by (with_reducible repeat (first | apply Law.Inv.alloc | apply Law.Inv.drewN | apply Law.Inv.drew)); exact I)
       have HB1 := Aside0.mk (show Below W.heap.size W w12 by rw [hw1]; repeat (first | (with_reducible first | exact HB.out | apply below_alloc | apply pw_below_drewN | apply below_drew1) | exact HB.out))
       clear I HB hw1
       have I := I1
       have HB := HB1
       clear I1 HB1
       refine (laws_szStepS.calls k A1 c1 l1 r4 r10 w12 ?_ ?_ E11.out).mono ?_
       · exact Kd.C_below hr1 HB.out
       · exact hc1
       rintro e w13 ⟨rfl, hq0⟩
       refine ⟨_, rfl, ?_⟩
       have I1 := Law.Inv.below I hq0
       have HB1 := Aside0.mk (below_step HB.out hq0)
       have SZ14 := Aside0.mk (show W.heap.size ≤ w12.heap.size ∧ gb1 + 1 ≤ w12.heap.size ∧ w12.heap.size ≤ w13.heap.size from ⟨HB.out.size, I.1.2, hq0.size⟩)
       clear I HB
       have I := I1
       have HB := HB1
       clear I1 HB1
       have hcz_gb1_w13_0 : w13.cell? ⟨gb1, 0, none⟩ = some (.int .i64 a0_0) := (blk_cell (Law.blk_of (I.1.1)) 0).trans rfl
       have hfz_gb1_w13_0 := blk_frozen (Law.blk_of (I.1.1)) 0
       have hcz_gb1_w13_1 : w13.cell? ⟨gb1, 1, none⟩ = some (.slice A0_1 l0_1.length c0_1) := (blk_cell (Law.blk_of (I.1.1)) 1).trans rfl
       have hfz_gb1_w13_1 := blk_frozen (Law.blk_of (I.1.1)) 1
       have hcz_gb1_w13_2 : w13.cell? ⟨gb1, 2, none⟩ = some (.slice A0_2 l0_2.length c0_2) := (blk_cell (Law.blk_of (I.1.1)) 2).trans rfl
       have hfz_gb1_w13_2 := blk_frozen (Law.blk_of (I.1.1)) 2))
  try go_wp2
  go_ret
  exact ⟨rfl, by repeat (first | (with_reducible first | exact HB.out | apply below_alloc | apply pw_below_drewN | apply below_drew1) | exact HB.out)⟩
set_option maxHeartbeats 16000000 in
set_option maxRecDepth 100000 in
theorem laws_FnExactDevApply.walk2 (a0_0 : Int) (A0_1 : Option Addr) (c0_1 : Nat) (l0_1 : List Int) (A0_2 : Option Addr) (c0_2 : Nat) (l0_2 : List S127) (A1 : Option Addr) (c1 : Nat) (l1 : List S122) (a2 : Int) (W : World) (hr0_1 : Kd.C (Kd.int .u8) W A0_1 l0_1.length l0_1) (hc0_1 : l0_1.length ≤ c0_1) (hr0_2 : Kd.C k127 W A0_2 l0_2.length l0_2) (hc0_2 : l0_2.length ≤ c0_2) (hr1 : Kd.C k122 W A1 l1.length l1) (hc1 : l1.length ≤ c1) (k : Nat) (r4 : Int) (r10 : Int) (r16 : Int) (r17 : List Int) (r18 : List (S67)) (r31 : List (S71)) (r40 : Int) (r41 : List Int) (r42 : List (S67)) (r43 : Int) (r127 : Int) (r128 : List Int) (r129 : List S67) (r136 : Int) (r137 : List S71) (r147 : Int) (r148 : List Int) (r149 : List S67) (E5 : laws_szDevice.f k a0_0 l0_1 l0_2 1048576 = some r4) (T9 : ¬ r4 < 0) (E11 : laws_szStepS.f k l1 r4 = some r10) (T15 : ¬ r10 < 0) (E19 : laws_toDevice.f k a0_0 l0_1 l0_2 = some (r16, r17, r18)) (E32 : laws_toStepS.f k l1 = some r31) (E44 : spec_DevApply.f k r16 r17 r18 r31 a2 = some (r40, r41, r42, r43)) (E80 : impl_DevApply.f k r16 r17 r18 r31 a2 = some (r40, r41, r42, r43)) (E95 : laws_eqDevice.f k r40 r41 r42 r40 r41 r42 = some true) (E112 : laws_eqDevice.f k r16 r17 r18 r16 r17 r18 = some true) (E123 : laws_eqStepS.f k r31 r31 = some true) (E130 : laws_markDevice.f k r16 r17 r18 1 = some (r127, r128, r129)) (E138 : laws_markStepS.f k r31 r127 = some (r136, r137)) (T143 : ¬ r136 < 0) (E150 : laws_markDevice.f k r40 r41 r42 1 = some (r147, r148, r149)) (E156 : laws_heldDevice.f k r40 r148 r149 1 = some r147) (T160 : ¬ r147 < 0) :
    Calls Try.prog 12 #[.agg #[.int .i64 a0_0, .slice A0_1 l0_1.length c0_1, .slice A0_2 l0_2.length c0_2], .slice A1 l1.length c1, .int .i64 a2] W fun e w' => e = .returned (.bool true) ∧ Below W.heap.size W w' := by
  have HB := Aside0.mk (Below.refl W.heap.size W)
  have I : Law.Inv [] W := trivial
  have hu41 := Try.underlying41
  have hu47 := Try.underlying47
  have DT9 : decide (r4 < 0) = false := decide_eq_false T9
  clear T9
  have DT15 : decide (r10 < 0) = false := decide_eq_false T15
  clear T15
  have DT143 : decide (r136 < 0) = false := decide_eq_false T143
  clear T143
  have DT160 : decide (r147 < 0) = false := decide_eq_false T160
  clear T160
  replace E5 := Aside0.mk E5
  replace E11 := Aside0.mk E11
  replace E19 := Aside0.mk E19
  replace E32 := Aside0.mk E32
  replace E44 := Aside0.mk E44
  replace E80 := Aside0.mk E80
  replace E95 := Aside0.mk E95
  replace E112 := Aside0.mk E112
  replace E123 := Aside0.mk E123
  replace E130 := Aside0.mk E130
  replace E138 := Aside0.mk E138
  replace E150 := Aside0.mk E150
  replace E156 := Aside0.mk E156
  go_enter Try.func12, Try.ntmps12
  go_wp2_with (first
    | ((with_reducible refine gate_dst (N := 3) rfl ?_)
       refine box_event ?hg (N := 3) ?hd (cs := #[.int .i64 a0_0, .slice A0_1 l0_1.length c0_1, .slice A0_2 l0_2.length c0_2]) (t := 41) ?hr ?_
       (case hd => rfl)
       (case hg => rfl)
       (case hr => first | (go_simp; done) | (go_simp; rfl))
       intro gb1 hg w2 hbox hb
       have I1 := Law.Inv.below (Law.Inv.on I (fun I => by (with_reducible repeat (first | apply Law.Inv.alloc | apply Law.Inv.drewN | apply Law.Inv.drew)); exact I)) hb
       have HB1 := Aside0.mk (below_step (by repeat (first | (with_reducible first | exact HB.out | apply below_alloc | apply pw_below_drewN | apply below_drew1) | exact HB.out)) hb)
       have SZ3 := Aside0.mk (show W.heap.size ≤ gb1 ∧ gb1 + 1 ≤ w2.heap.size from ⟨by rw [hg]; exact (by repeat (first | (with_reducible first | exact HB.out | apply below_alloc | apply pw_below_drewN | apply below_drew1) | exact HB.out) : Below W.heap.size W _).size, blk_lt hbox⟩)
       have I2 := Law.Inv.cons (s := Law.boxI gb1 #[.int .i64 a0_0, .slice A0_1 l0_1.length c0_1, .slice A0_2 l0_2.length c0_2] 41) ⟨hbox, blk_lt hbox⟩ I1
       clear I HB hbox hb hg I1
       have I := I2
       have HB := HB1
       clear I2 HB1
       have hcz_gb1_w2_0 : w2.cell? ⟨gb1, 0, none⟩ = some (.int .i64 a0_0) := (blk_cell (Law.blk_of (I.1.1)) 0).trans rfl
       have hfz_gb1_w2_0 := blk_frozen (Law.blk_of (I.1.1)) 0
       have hcz_gb1_w2_1 : w2.cell? ⟨gb1, 1, none⟩ = some (.slice A0_1 l0_1.length c0_1) := (blk_cell (Law.blk_of (I.1.1)) 1).trans rfl
       have hfz_gb1_w2_1 := blk_frozen (Law.blk_of (I.1.1)) 1
       have hcz_gb1_w2_2 : w2.cell? ⟨gb1, 2, none⟩ = some (.slice A0_2 l0_2.length c0_2) := (blk_cell (Law.blk_of (I.1.1)) 2).trans rfl
       have hfz_gb1_w2_2 := blk_frozen (Law.blk_of (I.1.1)) 2)
    | ((with_reducible refine gate_callee (f := 26) rfl ?_)
       refine goesL_ (some 21) rfl rfl Try.func26 (by kernel_rfl) rfl #[.agg #[.int .i64 a0_0, .slice A0_1 l0_1.length c0_1, .slice A0_2 l0_2.length c0_2], .int .i64 1048576] rfl (by (try simp only [List.map_toArray, List.map_cons, List.map_nil]); first | done | rfl) ?_
       refine Law.at_world (fun w6 hw1 => ?_)
       have I1 := Law.Inv.to I hw1 (fun I => by (with_reducible repeat (first | apply Law.Inv.alloc | apply Law.Inv.drewN | apply Law.Inv.drew)); exact I)
       have HB1 := Aside0.mk (show Below W.heap.size W w6 by rw [hw1]; repeat (first | (with_reducible first | exact HB.out | apply below_alloc | apply pw_below_drewN | apply below_drew1) | exact HB.out))
       clear I HB hw1
       have I := I1
       have HB := HB1
       clear I1 HB1
       refine (laws_szDevice.calls k a0_0 A0_1 c0_1 l0_1 A0_2 c0_2 l0_2 1048576 r4 w6 ?_ ?_ ?_ ?_ E5.out).mono ?_
       · exact Kd.C_below hr0_1 HB.out
       · exact hc0_1
       · exact Kd.C_below hr0_2 HB.out
       · exact hc0_2
       rintro e w7 ⟨rfl, hq0⟩
       refine ⟨_, rfl, ?_⟩
       have I1 := Law.Inv.below I hq0
       have HB1 := Aside0.mk (below_step HB.out hq0)
       have SZ8 := Aside0.mk (show W.heap.size ≤ w6.heap.size ∧ gb1 + 1 ≤ w6.heap.size ∧ w6.heap.size ≤ w7.heap.size from ⟨HB.out.size, I.1.2, hq0.size⟩)
       clear I HB
       have I := I1
       have HB := HB1
       clear I1 HB1
       have hcz_gb1_w7_0 : w7.cell? ⟨gb1, 0, none⟩ = some (.int .i64 a0_0) := (blk_cell (Law.blk_of (I.1.1)) 0).trans rfl
       have hfz_gb1_w7_0 := blk_frozen (Law.blk_of (I.1.1)) 0
       have hcz_gb1_w7_1 : w7.cell? ⟨gb1, 1, none⟩ = some (.slice A0_1 l0_1.length c0_1) := (blk_cell (Law.blk_of (I.1.1)) 1).trans rfl
       have hfz_gb1_w7_1 := blk_frozen (Law.blk_of (I.1.1)) 1
       have hcz_gb1_w7_2 : w7.cell? ⟨gb1, 2, none⟩ = some (.slice A0_2 l0_2.length c0_2) := (blk_cell (Law.blk_of (I.1.1)) 2).trans rfl
       have hfz_gb1_w7_2 := blk_frozen (Law.blk_of (I.1.1)) 2)
    | ((with_reducible refine gate_callee (f := 54) rfl ?_)
       refine goesL_ (some 26) rfl rfl Try.func54 (by kernel_rfl) rfl #[.slice A1 l1.length c1, .int .i64 r4] rfl (by (try simp only [List.map_toArray, List.map_cons, List.map_nil]); first | done | rfl) ?_
       refine Law.at_world (fun w12 hw1 => ?_)
       have I1 := Law.Inv.to I hw1 (fun I => by (with_reducible repeat (first | apply Law.Inv.alloc | apply Law.Inv.drewN | apply Law.Inv.drew)); exact I)
       have HB1 := Aside0.mk (show Below W.heap.size W w12 by rw [hw1]; repeat (first | (with_reducible first | exact HB.out | apply below_alloc | apply pw_below_drewN | apply below_drew1) | exact HB.out))
       clear I HB hw1
       have I := I1
       have HB := HB1
       clear I1 HB1
       refine (laws_szStepS.calls k A1 c1 l1 r4 r10 w12 ?_ ?_ E11.out).mono ?_
       · exact Kd.C_below hr1 HB.out
       · exact hc1
       rintro e w13 ⟨rfl, hq0⟩
       refine ⟨_, rfl, ?_⟩
       have I1 := Law.Inv.below I hq0
       have HB1 := Aside0.mk (below_step HB.out hq0)
       have SZ14 := Aside0.mk (show W.heap.size ≤ w12.heap.size ∧ gb1 + 1 ≤ w12.heap.size ∧ w12.heap.size ≤ w13.heap.size from ⟨HB.out.size, I.1.2, hq0.size⟩)
       clear I HB
       have I := I1
       have HB := HB1
       clear I1 HB1
       have hcz_gb1_w13_0 : w13.cell? ⟨gb1, 0, none⟩ = some (.int .i64 a0_0) := (blk_cell (Law.blk_of (I.1.1)) 0).trans rfl
       have hfz_gb1_w13_0 := blk_frozen (Law.blk_of (I.1.1)) 0
       have hcz_gb1_w13_1 : w13.cell? ⟨gb1, 1, none⟩ = some (.slice A0_1 l0_1.length c0_1) := (blk_cell (Law.blk_of (I.1.1)) 1).trans rfl
       have hfz_gb1_w13_1 := blk_frozen (Law.blk_of (I.1.1)) 1
       have hcz_gb1_w13_2 : w13.cell? ⟨gb1, 2, none⟩ = some (.slice A0_2 l0_2.length c0_2) := (blk_cell (Law.blk_of (I.1.1)) 2).trans rfl
       have hfz_gb1_w13_2 := blk_frozen (Law.blk_of (I.1.1)) 2)
    | ((with_reducible refine gate_callee (f := 28) rfl ?_)
       refine goesL_ (some 31) rfl rfl Try.func28 (by kernel_rfl) rfl #[.agg #[.int .i64 a0_0, .slice A0_1 l0_1.length c0_1, .slice A0_2 l0_2.length c0_2]] rfl (by (try simp only [List.map_toArray, List.map_cons, List.map_nil]); first | done | rfl) ?_
       refine Law.at_world (fun w20 hw1 => ?_)
       have I1 := Law.Inv.to I hw1 (fun I => by (with_reducible repeat (first | apply Law.Inv.alloc | apply Law.Inv.drewN | apply Law.Inv.drew)); exact I)
       have HB1 := Aside0.mk (show Below W.heap.size W w20 by rw [hw1]; repeat (first | (with_reducible first | exact HB.out | apply below_alloc | apply pw_below_drewN | apply below_drew1) | exact HB.out))
       clear I HB hw1
       have I := I1
       have HB := HB1
       clear I1 HB1
       refine (laws_toDevice.calls k a0_0 A0_1 c0_1 l0_1 A0_2 c0_2 l0_2 r16 r17 r18 w20 ?_ ?_ ?_ ?_ E19.out).mono ?_
       · exact Kd.C_below hr0_1 HB.out
       · exact hc0_1
       · exact Kd.C_below hr0_2 HB.out
       · exact hc0_2
       rintro e w21 ⟨v22, v23, rfl, hq0, hq1, hq2⟩
       refine ⟨_, rfl, ?_⟩
       obtain ⟨Ao24, co25, eo26⟩ := Kd.R_slice hq0
       subst eo26
       obtain ⟨Ao27, co28, eo29⟩ := Kd.S_slice hq1
       subst eo29
       have I1 := Law.Inv.below I hq2
       have HB1 := Aside0.mk (below_step HB.out hq2)
       have SZ30 := Aside0.mk (show W.heap.size ≤ w20.heap.size ∧ gb1 + 1 ≤ w20.heap.size ∧ w20.heap.size ≤ w21.heap.size from ⟨HB.out.size, I.1.2, hq2.size⟩)
       have I1 := Law.Inv.cons (s := Law.rowI (Kd.int .u8) 5 w20.heap.size w20.heap.size w21.heap.size (fun _ => True) (.slice Ao24 r17.length co25) r17) (Law.rowI_new hq0 (fun _ h => h)) I1
       have I1 := Law.Inv.cons (s := Law.rowsI k67 67 w20.heap.size w20.heap.size w21.heap.size (fun k_ => some k_ ≠ (.slice Ao24 r17.length co25 : Value).ownBlock) (.slice Ao27 r18.length co28) r18) (Law.rowsI_new hq1 (fun _ h => h)) I1
       clear I HB
       have I := I1
       have HB := HB1
       clear I1 HB1
       have hcz_gb1_w21_0 : w21.cell? ⟨gb1, 0, none⟩ = some (.int .i64 a0_0) := (blk_cell (Law.blk_of (I.2.2.1.1)) 0).trans rfl
       have hfz_gb1_w21_0 := blk_frozen (Law.blk_of (I.2.2.1.1)) 0
       have hcz_gb1_w21_1 : w21.cell? ⟨gb1, 1, none⟩ = some (.slice A0_1 l0_1.length c0_1) := (blk_cell (Law.blk_of (I.2.2.1.1)) 1).trans rfl
       have hfz_gb1_w21_1 := blk_frozen (Law.blk_of (I.2.2.1.1)) 1
       have hcz_gb1_w21_2 : w21.cell? ⟨gb1, 2, none⟩ = some (.slice A0_2 l0_2.length c0_2) := (blk_cell (Law.blk_of (I.2.2.1.1)) 2).trans rfl
       have hfz_gb1_w21_2 := blk_frozen (Law.blk_of (I.2.2.1.1)) 2)
    | ((with_reducible refine gate_callee (f := 56) rfl ?_)
       refine goesL_ (some 33) rfl rfl Try.func56 (by kernel_rfl) rfl #[.slice A1 l1.length c1] rfl (by (try simp only [List.map_toArray, List.map_cons, List.map_nil]); first | done | rfl) ?_
       refine Law.at_world (fun w33 hw1 => ?_)
       have I1 := Law.Inv.to I hw1 (fun I => by (with_reducible repeat (first | apply Law.Inv.alloc | apply Law.Inv.drewN | apply Law.Inv.drew)); exact I)
       have HB1 := Aside0.mk (show Below W.heap.size W w33 by rw [hw1]; repeat (first | (with_reducible first | exact HB.out | apply below_alloc | apply pw_below_drewN | apply below_drew1) | exact HB.out))
       clear I HB hw1
       have I := I1
       have HB := HB1
       clear I1 HB1
       refine (laws_toStepS.calls k A1 c1 l1 r31 w33 ?_ ?_ E32.out).mono ?_
       · exact Kd.C_below hr1 HB.out
       · exact hc1
       rintro e w34 ⟨v35, rfl, hq0, hq1⟩
       refine ⟨_, rfl, ?_⟩
       obtain ⟨Ao36, co37, eo38⟩ := Kd.S_slice hq0
       subst eo38
       have I1 := Law.Inv.below I hq1
       have HB1 := Aside0.mk (below_step HB.out hq1)
       have SZ39 := Aside0.mk (show W.heap.size ≤ w33.heap.size ∧ w21.heap.size ≤ w33.heap.size ∧ w33.heap.size ≤ w34.heap.size from ⟨HB.out.size, I.1.2, hq1.size⟩)
       have I1 := Law.Inv.cons (s := Law.rowsI k71 71 w33.heap.size w33.heap.size w34.heap.size (fun _ => True) (.slice Ao36 r31.length co37) r31) (Law.rowsI_new hq0 (fun _ h => h)) I1
       clear I HB
       have I := I1
       have HB := HB1
       clear I1 HB1
       have hcz_gb1_w34_0 : w34.cell? ⟨gb1, 0, none⟩ = some (.int .i64 a0_0) := (blk_cell (Law.blk_of (I.2.2.2.1.1)) 0).trans rfl
       have hfz_gb1_w34_0 := blk_frozen (Law.blk_of (I.2.2.2.1.1)) 0
       have hcz_gb1_w34_1 : w34.cell? ⟨gb1, 1, none⟩ = some (.slice A0_1 l0_1.length c0_1) := (blk_cell (Law.blk_of (I.2.2.2.1.1)) 1).trans rfl
       have hfz_gb1_w34_1 := blk_frozen (Law.blk_of (I.2.2.2.1.1)) 1
       have hcz_gb1_w34_2 : w34.cell? ⟨gb1, 2, none⟩ = some (.slice A0_2 l0_2.length c0_2) := (blk_cell (Law.blk_of (I.2.2.2.1.1)) 2).trans rfl
       have hfz_gb1_w34_2 := blk_frozen (Law.blk_of (I.2.2.2.1.1)) 2)
    | ((with_reducible refine gate_callee (f := 55) rfl ?_)
       refine goesL_ (some 35) rfl rfl Try.func55 (by kernel_rfl) rfl #[.agg #[.int .i64 r16, .slice Ao24 r17.length co25, .slice Ao27 r18.length co28], .slice Ao36 r31.length co37, .int .i64 a2] rfl (by (try simp only [List.map_toArray, List.map_cons, List.map_nil]); first | done | rfl) ?_
       refine Law.at_world (fun w45 hw1 => ?_)
       have I1 := Law.Inv.to I hw1 (fun I => by (with_reducible repeat (first | apply Law.Inv.alloc | apply Law.Inv.drewN | apply Law.Inv.drew)); exact I)
       have HB1 := Aside0.mk (show Below W.heap.size W w45 by rw [hw1]; repeat (first | (with_reducible first | exact HB.out | apply below_alloc | apply pw_below_drewN | apply below_drew1) | exact HB.out))
       clear I HB hw1
       have I := I1
       have HB := HB1
       clear I1 HB1
       refine (spec_DevApply.calls k r16 Ao24 co25 r17 Ao27 co28 r18 Ao36 co37 r31 a2 r40 r41 r42 r43 w45 ?_ ?_ ?_ ?_ ?_ ?_ E44.out).mono ?_
       · exact (Kd.R_reads' (I.2.2.1.1)).2.2
       · exact (Kd.R_reads' (I.2.2.1.1)).2.1
       · exact (Kd.S_reads' (I.2.1.1)).2.2
       · exact (Kd.S_reads' (I.2.1.1)).2.1
       · exact (Kd.S_reads' (I.1.1)).2.2
       · exact (Kd.S_reads' (I.1.1)).2.1
       rintro e w46 ⟨v47, v48, rfl, hq0, hq1, hq2⟩
       refine ⟨_, rfl, ?_⟩
       obtain ⟨Ao49, co50, eo51⟩ := Kd.R_slice hq0
       subst eo51
       obtain ⟨Ao52, co53, eo54⟩ := Kd.S_slice hq1
       subst eo54
       have I1 := Law.Inv.below I hq2
       have HB1 := Aside0.mk (below_step HB.out hq2)
       have SZ55 := Aside0.mk (show W.heap.size ≤ w45.heap.size ∧ w34.heap.size ≤ w45.heap.size ∧ w45.heap.size ≤ w46.heap.size from ⟨HB.out.size, I.1.2, hq2.size⟩)
       have I1 := Law.Inv.cons (s := Law.rowI (Kd.int .u8) 5 w45.heap.size w45.heap.size w46.heap.size (fun _ => True) (.slice Ao49 r41.length co50) r41) (Law.rowI_new hq0 (fun _ h => h)) I1
       have I1 := Law.Inv.cons (s := Law.rowsI k67 67 w45.heap.size w45.heap.size w46.heap.size (fun k_ => some k_ ≠ (.slice Ao49 r41.length co50 : Value).ownBlock) (.slice Ao52 r42.length co53) r42) (Law.rowsI_new hq1 (fun _ h => h)) I1
       clear I HB
       have I := I1
       have HB := HB1
       clear I1 HB1
       have hcz_gb1_w46_0 : w46.cell? ⟨gb1, 0, none⟩ = some (.int .i64 a0_0) := (blk_cell (Law.blk_of (I.2.2.2.2.2.1.1)) 0).trans rfl
       have hfz_gb1_w46_0 := blk_frozen (Law.blk_of (I.2.2.2.2.2.1.1)) 0
       have hcz_gb1_w46_1 : w46.cell? ⟨gb1, 1, none⟩ = some (.slice A0_1 l0_1.length c0_1) := (blk_cell (Law.blk_of (I.2.2.2.2.2.1.1)) 1).trans rfl
       have hfz_gb1_w46_1 := blk_frozen (Law.blk_of (I.2.2.2.2.2.1.1)) 1
       have hcz_gb1_w46_2 : w46.cell? ⟨gb1, 2, none⟩ = some (.slice A0_2 l0_2.length c0_2) := (blk_cell (Law.blk_of (I.2.2.2.2.2.1.1)) 2).trans rfl
       have hfz_gb1_w46_2 := blk_frozen (Law.blk_of (I.2.2.2.2.2.1.1)) 2)
    | ((with_reducible refine gate_dst (N := 8) rfl ?_)
       refine box_event ?hg (N := 8) ?hd (cs := #[.int .i64 0, .slice none 0 0, .slice none 0 0]) (t := 47) ?hr ?_
       (case hd => rfl)
       (case hg => rfl)
       (case hr => first | (go_simp; done) | (go_simp; rfl))
       intro gb56 hg w57 hbox hb
       have I1 := Law.Inv.below (Law.Inv.on I (fun I => by (with_reducible repeat (first | apply Law.Inv.alloc | apply Law.Inv.drewN | apply Law.Inv.drew)); exact I)) hb
       have HB1 := Aside0.mk (below_step (by repeat (first | (with_reducible first | exact HB.out | apply below_alloc | apply pw_below_drewN | apply below_drew1) | exact HB.out)) hb)
       have SZ58 := Aside0.mk (show W.heap.size ≤ gb56 ∧ w46.heap.size ≤ gb56 ∧ gb56 + 1 ≤ w57.heap.size from ⟨by rw [hg]; exact (by repeat (first | (with_reducible first | exact HB.out | apply below_alloc | apply pw_below_drewN | apply below_drew1) | exact HB.out) : Below W.heap.size W _).size, by rw [hg]; exact (Law.Inv.on I (fun I => by (with_reducible repeat (first | apply Law.Inv.alloc | apply Law.Inv.drewN | apply Law.Inv.drew)); exact I)).1.2, blk_lt hbox⟩)
       have I2 := Law.Inv.cons (s := Law.boxI gb56 #[.int .i64 0, .slice none 0 0, .slice none 0 0] 47) ⟨hbox, blk_lt hbox⟩ I1
       clear I HB hbox hb hg I1
       have I := I2
       have HB := HB1
       clear I2 HB1
       have hne_gb56_gb1 : gb56 ≠ gb1 := (by have := SZ3.out; have := SZ8.out; have := SZ14.out; have := SZ30.out; have := SZ39.out; have := SZ55.out; have := SZ58.out; first | omega | (simp only [Law.rowI, Law.rowsI, Law.boxI]; omega))
       have hne_gb1_gb56 : gb1 ≠ gb56 := (by have := SZ3.out; have := SZ8.out; have := SZ14.out; have := SZ30.out; have := SZ39.out; have := SZ55.out; have := SZ58.out; first | omega | (simp only [Law.rowI, Law.rowsI, Law.boxI]; omega))
       have hcz_gb1_w57_0 : w57.cell? ⟨gb1, 0, none⟩ = some (.int .i64 a0_0) := (blk_cell (Law.blk_of (I.2.2.2.2.2.2.1.1)) 0).trans rfl
       have hfz_gb1_w57_0 := blk_frozen (Law.blk_of (I.2.2.2.2.2.2.1.1)) 0
       have hcz_gb1_w57_1 : w57.cell? ⟨gb1, 1, none⟩ = some (.slice A0_1 l0_1.length c0_1) := (blk_cell (Law.blk_of (I.2.2.2.2.2.2.1.1)) 1).trans rfl
       have hfz_gb1_w57_1 := blk_frozen (Law.blk_of (I.2.2.2.2.2.2.1.1)) 1
       have hcz_gb1_w57_2 : w57.cell? ⟨gb1, 2, none⟩ = some (.slice A0_2 l0_2.length c0_2) := (blk_cell (Law.blk_of (I.2.2.2.2.2.2.1.1)) 2).trans rfl
       have hfz_gb1_w57_2 := blk_frozen (Law.blk_of (I.2.2.2.2.2.2.1.1)) 2
       have hcz_gb56_w57_0 : w57.cell? ⟨gb56, 0, none⟩ = some (.int .i64 0) := (blk_cell (Law.blk_of (I.1.1)) 0).trans rfl
       have hfz_gb56_w57_0 := blk_frozen (Law.blk_of (I.1.1)) 0
       have hcz_gb56_w57_1 : w57.cell? ⟨gb56, 1, none⟩ = some (.slice none 0 0) := (blk_cell (Law.blk_of (I.1.1)) 1).trans rfl
       have hfz_gb56_w57_1 := blk_frozen (Law.blk_of (I.1.1)) 1
       have hcz_gb56_w57_2 : w57.cell? ⟨gb56, 2, none⟩ = some (.slice none 0 0) := (blk_cell (Law.blk_of (I.1.1)) 2).trans rfl
       have hfz_gb56_w57_2 := blk_frozen (Law.blk_of (I.1.1)) 2)
    | ((with_reducible refine gate_callee (f := 28) rfl ?_)
       refine goesL_ (some 39) rfl rfl Try.func28 (by kernel_rfl) rfl #[.agg #[.int .i64 a0_0, .slice A0_1 l0_1.length c0_1, .slice A0_2 l0_2.length c0_2]] rfl (by (try simp only [List.map_toArray, List.map_cons, List.map_nil]); first | done | rfl) ?_
       refine Law.at_world (fun w59 hw1 => ?_)
       have I1 : Law.Inv [Law.boxI gb56 #[.int .i64 r40, .slice Ao49 r41.length co50, .slice Ao52 r42.length co53] 47, Law.rowsI k67 67 w45.heap.size w45.heap.size w46.heap.size (fun k_ => some k_ ≠ (.slice Ao49 r41.length co50 : Value).ownBlock) (.slice Ao52 r42.length co53) r42, Law.rowI (Kd.int .u8) 5 w45.heap.size w45.heap.size w46.heap.size (fun _ => True) (.slice Ao49 r41.length co50) r41, Law.rowsI k71 71 w33.heap.size w33.heap.size w34.heap.size (fun _ => True) (.slice Ao36 r31.length co37) r31, Law.rowsI k67 67 w20.heap.size w20.heap.size w21.heap.size (fun k_ => some k_ ≠ (.slice Ao24 r17.length co25 : Value).ownBlock) (.slice Ao27 r18.length co28) r18, Law.rowI (Kd.int .u8) 5 w20.heap.size w20.heap.size w21.heap.size (fun _ => True) (.slice Ao24 r17.length co25) r17, Law.boxI gb1 #[.int .i64 a0_0, .slice A0_1 l0_1.length c0_1, .slice A0_2 l0_2.length c0_2] 41] w59 := by rw [hw1]; (with_reducible repeat (first | apply Law.Inv.alloc | apply Law.Inv.drewN | apply Law.Inv.drew)); refine Law.Inv.put (cs := #[.int .i64 r40, .slice Ao49 r41.length co50, .slice none 0 0]) ?_ (by have := SZ3.out; have := SZ8.out; have := SZ14.out; have := SZ30.out; have := SZ39.out; have := SZ55.out; have := SZ58.out; refine ⟨?_, ?_, ?_, ?_, ?_, ?_, trivial⟩ <;> simp only [Law.rowI, Law.rowsI, Law.boxI] <;> omega) rfl; (with_reducible repeat (first | apply Law.Inv.alloc | apply Law.Inv.drewN | apply Law.Inv.drew)); refine Law.Inv.put (cs := #[.int .i64 r40, .slice none 0 0, .slice none 0 0]) ?_ (by have := SZ3.out; have := SZ8.out; have := SZ14.out; have := SZ30.out; have := SZ39.out; have := SZ55.out; have := SZ58.out; refine ⟨?_, ?_, ?_, ?_, ?_, ?_, trivial⟩ <;> simp only [Law.rowI, Law.rowsI, Law.boxI] <;> omega) rfl; (with_reducible repeat (first | apply Law.Inv.alloc | apply Law.Inv.drewN | apply Law.Inv.drew)); refine Law.Inv.put (cs := #[.int .i64 0, .slice none 0 0, .slice none 0 0]) ?_ (by have := SZ3.out; have := SZ8.out; have := SZ14.out; have := SZ30.out; have := SZ39.out; have := SZ55.out; have := SZ58.out; refine ⟨?_, ?_, ?_, ?_, ?_, ?_, trivial⟩ <;> simp only [Law.rowI, Law.rowsI, Law.boxI] <;> omega) rfl; (with_reducible repeat (first | apply Law.Inv.alloc | apply Law.Inv.drewN | apply Law.Inv.drew)); exact I
       have HB1 := Aside0.mk (show Below W.heap.size W w59 by rw [hw1]; repeat (first | (with_reducible first | exact HB.out | apply below_alloc | apply pw_below_drewN | apply below_drew1 | refine below_set ?_ (by have := SZ3.out; have := SZ8.out; have := SZ14.out; have := SZ30.out; have := SZ39.out; have := SZ55.out; have := SZ58.out; first | omega | (simp only [Law.rowI, Law.rowsI, Law.boxI]; omega))) | exact HB.out))
       clear I HB hw1
       have I := I1
       have HB := HB1
       clear I1 HB1
       refine (laws_toDevice.calls k a0_0 A0_1 c0_1 l0_1 A0_2 c0_2 l0_2 r16 r17 r18 w59 ?_ ?_ ?_ ?_ E19.out).mono ?_
       · exact Kd.C_below hr0_1 HB.out
       · exact hc0_1
       · exact Kd.C_below hr0_2 HB.out
       · exact hc0_2
       rintro e w60 ⟨v61, v62, rfl, hq0, hq1, hq2⟩
       refine ⟨_, rfl, ?_⟩
       obtain ⟨Ao63, co64, eo65⟩ := Kd.R_slice hq0
       subst eo65
       obtain ⟨Ao66, co67, eo68⟩ := Kd.S_slice hq1
       subst eo68
       have I1 := Law.Inv.below I hq2
       have HB1 := Aside0.mk (below_step HB.out hq2)
       have SZ69 := Aside0.mk (show W.heap.size ≤ w59.heap.size ∧ gb56 + 1 ≤ w59.heap.size ∧ w59.heap.size ≤ w60.heap.size from ⟨HB.out.size, I.1.2, hq2.size⟩)
       have I1 := Law.Inv.cons (s := Law.rowI (Kd.int .u8) 5 w59.heap.size w59.heap.size w60.heap.size (fun _ => True) (.slice Ao63 r17.length co64) r17) (Law.rowI_new hq0 (fun _ h => h)) I1
       have I1 := Law.Inv.cons (s := Law.rowsI k67 67 w59.heap.size w59.heap.size w60.heap.size (fun k_ => some k_ ≠ (.slice Ao63 r17.length co64 : Value).ownBlock) (.slice Ao66 r18.length co67) r18) (Law.rowsI_new hq1 (fun _ h => h)) I1
       clear I HB
       have I := I1
       have HB := HB1
       clear I1 HB1
       have hcz_gb1_w60_0 : w60.cell? ⟨gb1, 0, none⟩ = some (.int .i64 a0_0) := (blk_cell (Law.blk_of (I.2.2.2.2.2.2.2.2.1.1)) 0).trans rfl
       have hfz_gb1_w60_0 := blk_frozen (Law.blk_of (I.2.2.2.2.2.2.2.2.1.1)) 0
       have hcz_gb1_w60_1 : w60.cell? ⟨gb1, 1, none⟩ = some (.slice A0_1 l0_1.length c0_1) := (blk_cell (Law.blk_of (I.2.2.2.2.2.2.2.2.1.1)) 1).trans rfl
       have hfz_gb1_w60_1 := blk_frozen (Law.blk_of (I.2.2.2.2.2.2.2.2.1.1)) 1
       have hcz_gb1_w60_2 : w60.cell? ⟨gb1, 2, none⟩ = some (.slice A0_2 l0_2.length c0_2) := (blk_cell (Law.blk_of (I.2.2.2.2.2.2.2.2.1.1)) 2).trans rfl
       have hfz_gb1_w60_2 := blk_frozen (Law.blk_of (I.2.2.2.2.2.2.2.2.1.1)) 2
       have hcz_gb56_w60_0 : w60.cell? ⟨gb56, 0, none⟩ = some (.int .i64 r40) := (blk_cell (Law.blk_of (I.2.2.1.1)) 0).trans rfl
       have hfz_gb56_w60_0 := blk_frozen (Law.blk_of (I.2.2.1.1)) 0
       have hcz_gb56_w60_1 : w60.cell? ⟨gb56, 1, none⟩ = some (.slice Ao49 r41.length co50) := (blk_cell (Law.blk_of (I.2.2.1.1)) 1).trans rfl
       have hfz_gb56_w60_1 := blk_frozen (Law.blk_of (I.2.2.1.1)) 1
       have hcz_gb56_w60_2 : w60.cell? ⟨gb56, 2, none⟩ = some (.slice Ao52 r42.length co53) := (blk_cell (Law.blk_of (I.2.2.1.1)) 2).trans rfl
       have hfz_gb56_w60_2 := blk_frozen (Law.blk_of (I.2.2.1.1)) 2)
    | ((with_reducible refine gate_dst (N := 10) rfl ?_)
       refine box_event ?hg (N := 10) ?hd (cs := #[.int .i64 0, .slice none 0 0, .slice none 0 0]) (t := 47) ?hr ?_
       (case hd => rfl)
       (case hg => rfl)
       (case hr => first | (go_simp; done) | (go_simp; rfl))
       intro gb70 hg w71 hbox hb
       have I1 := Law.Inv.below (Law.Inv.on I (fun I => by (with_reducible repeat (first | apply Law.Inv.alloc | apply Law.Inv.drewN | apply Law.Inv.drew)); exact I)) hb
       have HB1 := Aside0.mk (below_step (by repeat (first | (with_reducible first | exact HB.out | apply below_alloc | apply pw_below_drewN | apply below_drew1) | exact HB.out)) hb)
       have SZ72 := Aside0.mk (show W.heap.size ≤ gb70 ∧ w60.heap.size ≤ gb70 ∧ gb70 + 1 ≤ w71.heap.size from ⟨by rw [hg]; exact (by repeat (first | (with_reducible first | exact HB.out | apply below_alloc | apply pw_below_drewN | apply below_drew1) | exact HB.out) : Below W.heap.size W _).size, by rw [hg]; exact (Law.Inv.on I (fun I => by (with_reducible repeat (first | apply Law.Inv.alloc | apply Law.Inv.drewN | apply Law.Inv.drew)); exact I)).1.2, blk_lt hbox⟩)
       have I2 := Law.Inv.cons (s := Law.boxI gb70 #[.int .i64 0, .slice none 0 0, .slice none 0 0] 47) ⟨hbox, blk_lt hbox⟩ I1
       clear I HB hbox hb hg I1
       have I := I2
       have HB := HB1
       clear I2 HB1
       have hne_gb70_gb1 : gb70 ≠ gb1 := (by have := SZ3.out; have := SZ8.out; have := SZ14.out; have := SZ30.out; have := SZ39.out; have := SZ55.out; have := SZ58.out; have := SZ69.out; have := SZ72.out; first | omega | (simp only [Law.rowI, Law.rowsI, Law.boxI]; omega))
       have hne_gb1_gb70 : gb1 ≠ gb70 := (by have := SZ3.out; have := SZ8.out; have := SZ14.out; have := SZ30.out; have := SZ39.out; have := SZ55.out; have := SZ58.out; have := SZ69.out; have := SZ72.out; first | omega | (simp only [Law.rowI, Law.rowsI, Law.boxI]; omega))
       have hne_gb70_gb56 : gb70 ≠ gb56 := (by have := SZ3.out; have := SZ8.out; have := SZ14.out; have := SZ30.out; have := SZ39.out; have := SZ55.out; have := SZ58.out; have := SZ69.out; have := SZ72.out; first | omega | (simp only [Law.rowI, Law.rowsI, Law.boxI]; omega))
       have hne_gb56_gb70 : gb56 ≠ gb70 := (by have := SZ3.out; have := SZ8.out; have := SZ14.out; have := SZ30.out; have := SZ39.out; have := SZ55.out; have := SZ58.out; have := SZ69.out; have := SZ72.out; first | omega | (simp only [Law.rowI, Law.rowsI, Law.boxI]; omega))
       have hcz_gb1_w71_0 : w71.cell? ⟨gb1, 0, none⟩ = some (.int .i64 a0_0) := (blk_cell (Law.blk_of (I.2.2.2.2.2.2.2.2.2.1.1)) 0).trans rfl
       have hfz_gb1_w71_0 := blk_frozen (Law.blk_of (I.2.2.2.2.2.2.2.2.2.1.1)) 0
       have hcz_gb1_w71_1 : w71.cell? ⟨gb1, 1, none⟩ = some (.slice A0_1 l0_1.length c0_1) := (blk_cell (Law.blk_of (I.2.2.2.2.2.2.2.2.2.1.1)) 1).trans rfl
       have hfz_gb1_w71_1 := blk_frozen (Law.blk_of (I.2.2.2.2.2.2.2.2.2.1.1)) 1
       have hcz_gb1_w71_2 : w71.cell? ⟨gb1, 2, none⟩ = some (.slice A0_2 l0_2.length c0_2) := (blk_cell (Law.blk_of (I.2.2.2.2.2.2.2.2.2.1.1)) 2).trans rfl
       have hfz_gb1_w71_2 := blk_frozen (Law.blk_of (I.2.2.2.2.2.2.2.2.2.1.1)) 2
       have hcz_gb56_w71_0 : w71.cell? ⟨gb56, 0, none⟩ = some (.int .i64 r40) := (blk_cell (Law.blk_of (I.2.2.2.1.1)) 0).trans rfl
       have hfz_gb56_w71_0 := blk_frozen (Law.blk_of (I.2.2.2.1.1)) 0
       have hcz_gb56_w71_1 : w71.cell? ⟨gb56, 1, none⟩ = some (.slice Ao49 r41.length co50) := (blk_cell (Law.blk_of (I.2.2.2.1.1)) 1).trans rfl
       have hfz_gb56_w71_1 := blk_frozen (Law.blk_of (I.2.2.2.1.1)) 1
       have hcz_gb56_w71_2 : w71.cell? ⟨gb56, 2, none⟩ = some (.slice Ao52 r42.length co53) := (blk_cell (Law.blk_of (I.2.2.2.1.1)) 2).trans rfl
       have hfz_gb56_w71_2 := blk_frozen (Law.blk_of (I.2.2.2.1.1)) 2
       have hcz_gb70_w71_0 : w71.cell? ⟨gb70, 0, none⟩ = some (.int .i64 0) := (blk_cell (Law.blk_of (I.1.1)) 0).trans rfl
       have hfz_gb70_w71_0 := blk_frozen (Law.blk_of (I.1.1)) 0
       have hcz_gb70_w71_1 : w71.cell? ⟨gb70, 1, none⟩ = some (.slice none 0 0) := (blk_cell (Law.blk_of (I.1.1)) 1).trans rfl
       have hfz_gb70_w71_1 := blk_frozen (Law.blk_of (I.1.1)) 1
       have hcz_gb70_w71_2 : w71.cell? ⟨gb70, 2, none⟩ = some (.slice none 0 0) := (blk_cell (Law.blk_of (I.1.1)) 2).trans rfl
       have hfz_gb70_w71_2 := blk_frozen (Law.blk_of (I.1.1)) 2)
    | ((with_reducible refine gate_callee (f := 56) rfl ?_)
       refine goesL_ (some 41) rfl rfl Try.func56 (by kernel_rfl) rfl #[.slice A1 l1.length c1] rfl (by (try simp only [List.map_toArray, List.map_cons, List.map_nil]); first | done | rfl) ?_
       refine Law.at_world (fun w73 hw1 => ?_)
       have I1 : Law.Inv [Law.boxI gb70 #[.int .i64 r16, .slice Ao63 r17.length co64, .slice Ao66 r18.length co67] 47, Law.rowsI k67 67 w59.heap.size w59.heap.size w60.heap.size (fun k_ => some k_ ≠ (.slice Ao63 r17.length co64 : Value).ownBlock) (.slice Ao66 r18.length co67) r18, Law.rowI (Kd.int .u8) 5 w59.heap.size w59.heap.size w60.heap.size (fun _ => True) (.slice Ao63 r17.length co64) r17, Law.boxI gb56 #[.int .i64 r40, .slice Ao49 r41.length co50, .slice Ao52 r42.length co53] 47, Law.rowsI k67 67 w45.heap.size w45.heap.size w46.heap.size (fun k_ => some k_ ≠ (.slice Ao49 r41.length co50 : Value).ownBlock) (.slice Ao52 r42.length co53) r42, Law.rowI (Kd.int .u8) 5 w45.heap.size w45.heap.size w46.heap.size (fun _ => True) (.slice Ao49 r41.length co50) r41, Law.rowsI k71 71 w33.heap.size w33.heap.size w34.heap.size (fun _ => True) (.slice Ao36 r31.length co37) r31, Law.rowsI k67 67 w20.heap.size w20.heap.size w21.heap.size (fun k_ => some k_ ≠ (.slice Ao24 r17.length co25 : Value).ownBlock) (.slice Ao27 r18.length co28) r18, Law.rowI (Kd.int .u8) 5 w20.heap.size w20.heap.size w21.heap.size (fun _ => True) (.slice Ao24 r17.length co25) r17, Law.boxI gb1 #[.int .i64 a0_0, .slice A0_1 l0_1.length c0_1, .slice A0_2 l0_2.length c0_2] 41] w73 := by rw [hw1]; (with_reducible repeat (first | apply Law.Inv.alloc | apply Law.Inv.drewN | apply Law.Inv.drew)); refine Law.Inv.put (cs := #[.int .i64 r16, .slice Ao63 r17.length co64, .slice none 0 0]) ?_ (by have := SZ3.out; have := SZ8.out; have := SZ14.out; have := SZ30.out; have := SZ39.out; have := SZ55.out; have := SZ58.out; have := SZ69.out; have := SZ72.out; refine ⟨?_, ?_, ?_, ?_, ?_, ?_, ?_, ?_, ?_, trivial⟩ <;> simp only [Law.rowI, Law.rowsI, Law.boxI] <;> omega) rfl; (with_reducible repeat (first | apply Law.Inv.alloc | apply Law.Inv.drewN | apply Law.Inv.drew)); refine Law.Inv.put (cs := #[.int .i64 r16, .slice none 0 0, .slice none 0 0]) ?_ (by have := SZ3.out; have := SZ8.out; have := SZ14.out; have := SZ30.out; have := SZ39.out; have := SZ55.out; have := SZ58.out; have := SZ69.out; have := SZ72.out; refine ⟨?_, ?_, ?_, ?_, ?_, ?_, ?_, ?_, ?_, trivial⟩ <;> simp only [Law.rowI, Law.rowsI, Law.boxI] <;> omega) rfl; (with_reducible repeat (first | apply Law.Inv.alloc | apply Law.Inv.drewN | apply Law.Inv.drew)); refine Law.Inv.put (cs := #[.int .i64 0, .slice none 0 0, .slice none 0 0]) ?_ (by have := SZ3.out; have := SZ8.out; have := SZ14.out; have := SZ30.out; have := SZ39.out; have := SZ55.out; have := SZ58.out; have := SZ69.out; have := SZ72.out; refine ⟨?_, ?_, ?_, ?_, ?_, ?_, ?_, ?_, ?_, trivial⟩ <;> simp only [Law.rowI, Law.rowsI, Law.boxI] <;> omega) rfl; (with_reducible repeat (first | apply Law.Inv.alloc | apply Law.Inv.drewN | apply Law.Inv.drew)); exact I
       have HB1 := Aside0.mk (show Below W.heap.size W w73 by rw [hw1]; repeat (first | (with_reducible first | exact HB.out | apply below_alloc | apply pw_below_drewN | apply below_drew1 | refine below_set ?_ (by have := SZ3.out; have := SZ8.out; have := SZ14.out; have := SZ30.out; have := SZ39.out; have := SZ55.out; have := SZ58.out; have := SZ69.out; have := SZ72.out; first | omega | (simp only [Law.rowI, Law.rowsI, Law.boxI]; omega))) | exact HB.out))
       clear I HB hw1
       have I := I1
       have HB := HB1
       clear I1 HB1
       refine (laws_toStepS.calls k A1 c1 l1 r31 w73 ?_ ?_ E32.out).mono ?_
       · exact Kd.C_below hr1 HB.out
       · exact hc1
       rintro e w74 ⟨v75, rfl, hq0, hq1⟩
       refine ⟨_, rfl, ?_⟩
       obtain ⟨Ao76, co77, eo78⟩ := Kd.S_slice hq0
       subst eo78
       have I1 := Law.Inv.below I hq1
       have HB1 := Aside0.mk (below_step HB.out hq1)
       have SZ79 := Aside0.mk (show W.heap.size ≤ w73.heap.size ∧ gb70 + 1 ≤ w73.heap.size ∧ w73.heap.size ≤ w74.heap.size from ⟨HB.out.size, I.1.2, hq1.size⟩)
       have I1 := Law.Inv.cons (s := Law.rowsI k71 71 w73.heap.size w73.heap.size w74.heap.size (fun _ => True) (.slice Ao76 r31.length co77) r31) (Law.rowsI_new hq0 (fun _ h => h)) I1
       clear I HB
       have I := I1
       have HB := HB1
       clear I1 HB1
       have hcz_gb1_w74_0 : w74.cell? ⟨gb1, 0, none⟩ = some (.int .i64 a0_0) := (blk_cell (Law.blk_of (I.2.2.2.2.2.2.2.2.2.2.1.1)) 0).trans rfl
       have hfz_gb1_w74_0 := blk_frozen (Law.blk_of (I.2.2.2.2.2.2.2.2.2.2.1.1)) 0
       have hcz_gb1_w74_1 : w74.cell? ⟨gb1, 1, none⟩ = some (.slice A0_1 l0_1.length c0_1) := (blk_cell (Law.blk_of (I.2.2.2.2.2.2.2.2.2.2.1.1)) 1).trans rfl
       have hfz_gb1_w74_1 := blk_frozen (Law.blk_of (I.2.2.2.2.2.2.2.2.2.2.1.1)) 1
       have hcz_gb1_w74_2 : w74.cell? ⟨gb1, 2, none⟩ = some (.slice A0_2 l0_2.length c0_2) := (blk_cell (Law.blk_of (I.2.2.2.2.2.2.2.2.2.2.1.1)) 2).trans rfl
       have hfz_gb1_w74_2 := blk_frozen (Law.blk_of (I.2.2.2.2.2.2.2.2.2.2.1.1)) 2
       have hcz_gb56_w74_0 : w74.cell? ⟨gb56, 0, none⟩ = some (.int .i64 r40) := (blk_cell (Law.blk_of (I.2.2.2.2.1.1)) 0).trans rfl
       have hfz_gb56_w74_0 := blk_frozen (Law.blk_of (I.2.2.2.2.1.1)) 0
       have hcz_gb56_w74_1 : w74.cell? ⟨gb56, 1, none⟩ = some (.slice Ao49 r41.length co50) := (blk_cell (Law.blk_of (I.2.2.2.2.1.1)) 1).trans rfl
       have hfz_gb56_w74_1 := blk_frozen (Law.blk_of (I.2.2.2.2.1.1)) 1
       have hcz_gb56_w74_2 : w74.cell? ⟨gb56, 2, none⟩ = some (.slice Ao52 r42.length co53) := (blk_cell (Law.blk_of (I.2.2.2.2.1.1)) 2).trans rfl
       have hfz_gb56_w74_2 := blk_frozen (Law.blk_of (I.2.2.2.2.1.1)) 2
       have hcz_gb70_w74_0 : w74.cell? ⟨gb70, 0, none⟩ = some (.int .i64 r16) := (blk_cell (Law.blk_of (I.2.1.1)) 0).trans rfl
       have hfz_gb70_w74_0 := blk_frozen (Law.blk_of (I.2.1.1)) 0
       have hcz_gb70_w74_1 : w74.cell? ⟨gb70, 1, none⟩ = some (.slice Ao63 r17.length co64) := (blk_cell (Law.blk_of (I.2.1.1)) 1).trans rfl
       have hfz_gb70_w74_1 := blk_frozen (Law.blk_of (I.2.1.1)) 1
       have hcz_gb70_w74_2 : w74.cell? ⟨gb70, 2, none⟩ = some (.slice Ao66 r18.length co67) := (blk_cell (Law.blk_of (I.2.1.1)) 2).trans rfl
       have hfz_gb70_w74_2 := blk_frozen (Law.blk_of (I.2.1.1)) 2)
    | ((with_reducible refine gate_callee (f := 47) rfl ?_)
       refine goesL_ (some 46) rfl rfl Try.func47 (by kernel_rfl) rfl #[.agg #[.int .i64 r16, .slice Ao63 r17.length co64, .slice Ao66 r18.length co67], .slice Ao76 r31.length co77, .int .i64 a2] rfl (by (try simp only [List.map_toArray, List.map_cons, List.map_nil]); first | done | rfl) ?_
       refine Law.at_world (fun w81 hw1 => ?_)
       have I1 := Law.Inv.to I hw1 (fun I => by (with_reducible repeat (first | apply Law.Inv.alloc | apply Law.Inv.drewN | apply Law.Inv.drew)); exact I)
       have HB1 := Aside0.mk (show Below W.heap.size W w81 by rw [hw1]; repeat (first | (with_reducible first | exact HB.out | apply below_alloc | apply pw_below_drewN | apply below_drew1) | exact HB.out))
       clear I HB hw1
       have I := I1
       have HB := HB1
       clear I1 HB1
       refine (impl_DevApply.calls k r16 Ao63 co64 r17 Ao66 co67 r18 Ao76 co77 r31 a2 r40 r41 r42 r43 w81 ?_ ?_ ?_ ?_ ?_ ?_ E80.out).mono ?_
       · exact (Kd.R_reads' (I.2.2.2.1.1)).2.2
       · exact (Kd.R_reads' (I.2.2.2.1.1)).2.1
       · exact (Kd.S_reads' (I.2.2.1.1)).2.2
       · exact (Kd.S_reads' (I.2.2.1.1)).2.1
       · exact (Kd.S_reads' (I.1.1)).2.2
       · exact (Kd.S_reads' (I.1.1)).2.1
       rintro e w82 ⟨v83, v84, rfl, hq0, hq1, hq2⟩
       refine ⟨_, rfl, ?_⟩
       obtain ⟨Ao85, co86, eo87⟩ := Kd.R_slice hq0
       subst eo87
       obtain ⟨Ao88, co89, eo90⟩ := Kd.S_slice hq1
       subst eo90
       have I1 := Law.Inv.below I hq2
       have HB1 := Aside0.mk (below_step HB.out hq2)
       have SZ91 := Aside0.mk (show W.heap.size ≤ w81.heap.size ∧ w74.heap.size ≤ w81.heap.size ∧ w81.heap.size ≤ w82.heap.size from ⟨HB.out.size, I.1.2, hq2.size⟩)
       have I1 := Law.Inv.cons (s := Law.rowI (Kd.int .u8) 5 w81.heap.size w81.heap.size w82.heap.size (fun _ => True) (.slice Ao85 r41.length co86) r41) (Law.rowI_new hq0 (fun _ h => h)) I1
       have I1 := Law.Inv.cons (s := Law.rowsI k67 67 w81.heap.size w81.heap.size w82.heap.size (fun k_ => some k_ ≠ (.slice Ao85 r41.length co86 : Value).ownBlock) (.slice Ao88 r42.length co89) r42) (Law.rowsI_new hq1 (fun _ h => h)) I1
       clear I HB
       have I := I1
       have HB := HB1
       clear I1 HB1
       have hcz_gb1_w82_0 : w82.cell? ⟨gb1, 0, none⟩ = some (.int .i64 a0_0) := (blk_cell (Law.blk_of (I.2.2.2.2.2.2.2.2.2.2.2.2.1.1)) 0).trans rfl
       have hfz_gb1_w82_0 := blk_frozen (Law.blk_of (I.2.2.2.2.2.2.2.2.2.2.2.2.1.1)) 0
       have hcz_gb1_w82_1 : w82.cell? ⟨gb1, 1, none⟩ = some (.slice A0_1 l0_1.length c0_1) := (blk_cell (Law.blk_of (I.2.2.2.2.2.2.2.2.2.2.2.2.1.1)) 1).trans rfl
       have hfz_gb1_w82_1 := blk_frozen (Law.blk_of (I.2.2.2.2.2.2.2.2.2.2.2.2.1.1)) 1
       have hcz_gb1_w82_2 : w82.cell? ⟨gb1, 2, none⟩ = some (.slice A0_2 l0_2.length c0_2) := (blk_cell (Law.blk_of (I.2.2.2.2.2.2.2.2.2.2.2.2.1.1)) 2).trans rfl
       have hfz_gb1_w82_2 := blk_frozen (Law.blk_of (I.2.2.2.2.2.2.2.2.2.2.2.2.1.1)) 2
       have hcz_gb56_w82_0 : w82.cell? ⟨gb56, 0, none⟩ = some (.int .i64 r40) := (blk_cell (Law.blk_of (I.2.2.2.2.2.2.1.1)) 0).trans rfl
       have hfz_gb56_w82_0 := blk_frozen (Law.blk_of (I.2.2.2.2.2.2.1.1)) 0
       have hcz_gb56_w82_1 : w82.cell? ⟨gb56, 1, none⟩ = some (.slice Ao49 r41.length co50) := (blk_cell (Law.blk_of (I.2.2.2.2.2.2.1.1)) 1).trans rfl
       have hfz_gb56_w82_1 := blk_frozen (Law.blk_of (I.2.2.2.2.2.2.1.1)) 1
       have hcz_gb56_w82_2 : w82.cell? ⟨gb56, 2, none⟩ = some (.slice Ao52 r42.length co53) := (blk_cell (Law.blk_of (I.2.2.2.2.2.2.1.1)) 2).trans rfl
       have hfz_gb56_w82_2 := blk_frozen (Law.blk_of (I.2.2.2.2.2.2.1.1)) 2
       have hcz_gb70_w82_0 : w82.cell? ⟨gb70, 0, none⟩ = some (.int .i64 r16) := (blk_cell (Law.blk_of (I.2.2.2.1.1)) 0).trans rfl
       have hfz_gb70_w82_0 := blk_frozen (Law.blk_of (I.2.2.2.1.1)) 0
       have hcz_gb70_w82_1 : w82.cell? ⟨gb70, 1, none⟩ = some (.slice Ao63 r17.length co64) := (blk_cell (Law.blk_of (I.2.2.2.1.1)) 1).trans rfl
       have hfz_gb70_w82_1 := blk_frozen (Law.blk_of (I.2.2.2.1.1)) 1
       have hcz_gb70_w82_2 : w82.cell? ⟨gb70, 2, none⟩ = some (.slice Ao66 r18.length co67) := (blk_cell (Law.blk_of (I.2.2.2.1.1)) 2).trans rfl
       have hfz_gb70_w82_2 := blk_frozen (Law.blk_of (I.2.2.2.1.1)) 2)
    | ((with_reducible refine gate_dst (N := 12) rfl ?_)
       refine box_event ?hg (N := 12) ?hd (cs := #[.int .i64 0, .slice none 0 0, .slice none 0 0]) (t := 47) ?hr ?_
       (case hd => rfl)
       (case hg => rfl)
       (case hr => first | (go_simp; done) | (go_simp; rfl))
       intro gb92 hg w93 hbox hb
       have I1 := Law.Inv.below (Law.Inv.on I (fun I => by (with_reducible repeat (first | apply Law.Inv.alloc | apply Law.Inv.drewN | apply Law.Inv.drew)); exact I)) hb
       have HB1 := Aside0.mk (below_step (by repeat (first | (with_reducible first | exact HB.out | apply below_alloc | apply pw_below_drewN | apply below_drew1) | exact HB.out)) hb)
       have SZ94 := Aside0.mk (show W.heap.size ≤ gb92 ∧ w82.heap.size ≤ gb92 ∧ gb92 + 1 ≤ w93.heap.size from ⟨by rw [hg]; exact (by repeat (first | (with_reducible first | exact HB.out | apply below_alloc | apply pw_below_drewN | apply below_drew1) | exact HB.out) : Below W.heap.size W _).size, by rw [hg]; exact (Law.Inv.on I (fun I => by (with_reducible repeat (first | apply Law.Inv.alloc | apply Law.Inv.drewN | apply Law.Inv.drew)); exact I)).1.2, blk_lt hbox⟩)
       have I2 := Law.Inv.cons (s := Law.boxI gb92 #[.int .i64 0, .slice none 0 0, .slice none 0 0] 47) ⟨hbox, blk_lt hbox⟩ I1
       clear I HB hbox hb hg I1
       have I := I2
       have HB := HB1
       clear I2 HB1
       have hne_gb92_gb1 : gb92 ≠ gb1 := (by have := SZ3.out; have := SZ8.out; have := SZ14.out; have := SZ30.out; have := SZ39.out; have := SZ55.out; have := SZ58.out; have := SZ69.out; have := SZ72.out; have := SZ79.out; have := SZ91.out; have := SZ94.out; first | omega | (simp only [Law.rowI, Law.rowsI, Law.boxI]; omega))
       have hne_gb1_gb92 : gb1 ≠ gb92 := (by have := SZ3.out; have := SZ8.out; have := SZ14.out; have := SZ30.out; have := SZ39.out; have := SZ55.out; have := SZ58.out; have := SZ69.out; have := SZ72.out; have := SZ79.out; have := SZ91.out; have := SZ94.out; first | omega | (simp only [Law.rowI, Law.rowsI, Law.boxI]; omega))
       have hne_gb92_gb56 : gb92 ≠ gb56 := (by have := SZ3.out; have := SZ8.out; have := SZ14.out; have := SZ30.out; have := SZ39.out; have := SZ55.out; have := SZ58.out; have := SZ69.out; have := SZ72.out; have := SZ79.out; have := SZ91.out; have := SZ94.out; first | omega | (simp only [Law.rowI, Law.rowsI, Law.boxI]; omega))
       have hne_gb56_gb92 : gb56 ≠ gb92 := (by have := SZ3.out; have := SZ8.out; have := SZ14.out; have := SZ30.out; have := SZ39.out; have := SZ55.out; have := SZ58.out; have := SZ69.out; have := SZ72.out; have := SZ79.out; have := SZ91.out; have := SZ94.out; first | omega | (simp only [Law.rowI, Law.rowsI, Law.boxI]; omega))
       have hne_gb92_gb70 : gb92 ≠ gb70 := (by have := SZ3.out; have := SZ8.out; have := SZ14.out; have := SZ30.out; have := SZ39.out; have := SZ55.out; have := SZ58.out; have := SZ69.out; have := SZ72.out; have := SZ79.out; have := SZ91.out; have := SZ94.out; first | omega | (simp only [Law.rowI, Law.rowsI, Law.boxI]; omega))
       have hne_gb70_gb92 : gb70 ≠ gb92 := (by have := SZ3.out; have := SZ8.out; have := SZ14.out; have := SZ30.out; have := SZ39.out; have := SZ55.out; have := SZ58.out; have := SZ69.out; have := SZ72.out; have := SZ79.out; have := SZ91.out; have := SZ94.out; first | omega | (simp only [Law.rowI, Law.rowsI, Law.boxI]; omega))
       have hcz_gb1_w93_0 : w93.cell? ⟨gb1, 0, none⟩ = some (.int .i64 a0_0) := (blk_cell (Law.blk_of (I.2.2.2.2.2.2.2.2.2.2.2.2.2.1.1)) 0).trans rfl
       have hfz_gb1_w93_0 := blk_frozen (Law.blk_of (I.2.2.2.2.2.2.2.2.2.2.2.2.2.1.1)) 0
       have hcz_gb1_w93_1 : w93.cell? ⟨gb1, 1, none⟩ = some (.slice A0_1 l0_1.length c0_1) := (blk_cell (Law.blk_of (I.2.2.2.2.2.2.2.2.2.2.2.2.2.1.1)) 1).trans rfl
       have hfz_gb1_w93_1 := blk_frozen (Law.blk_of (I.2.2.2.2.2.2.2.2.2.2.2.2.2.1.1)) 1
       have hcz_gb1_w93_2 : w93.cell? ⟨gb1, 2, none⟩ = some (.slice A0_2 l0_2.length c0_2) := (blk_cell (Law.blk_of (I.2.2.2.2.2.2.2.2.2.2.2.2.2.1.1)) 2).trans rfl
       have hfz_gb1_w93_2 := blk_frozen (Law.blk_of (I.2.2.2.2.2.2.2.2.2.2.2.2.2.1.1)) 2
       have hcz_gb56_w93_0 : w93.cell? ⟨gb56, 0, none⟩ = some (.int .i64 r40) := (blk_cell (Law.blk_of (I.2.2.2.2.2.2.2.1.1)) 0).trans rfl
       have hfz_gb56_w93_0 := blk_frozen (Law.blk_of (I.2.2.2.2.2.2.2.1.1)) 0
       have hcz_gb56_w93_1 : w93.cell? ⟨gb56, 1, none⟩ = some (.slice Ao49 r41.length co50) := (blk_cell (Law.blk_of (I.2.2.2.2.2.2.2.1.1)) 1).trans rfl
       have hfz_gb56_w93_1 := blk_frozen (Law.blk_of (I.2.2.2.2.2.2.2.1.1)) 1
       have hcz_gb56_w93_2 : w93.cell? ⟨gb56, 2, none⟩ = some (.slice Ao52 r42.length co53) := (blk_cell (Law.blk_of (I.2.2.2.2.2.2.2.1.1)) 2).trans rfl
       have hfz_gb56_w93_2 := blk_frozen (Law.blk_of (I.2.2.2.2.2.2.2.1.1)) 2
       have hcz_gb70_w93_0 : w93.cell? ⟨gb70, 0, none⟩ = some (.int .i64 r16) := (blk_cell (Law.blk_of (I.2.2.2.2.1.1)) 0).trans rfl
       have hfz_gb70_w93_0 := blk_frozen (Law.blk_of (I.2.2.2.2.1.1)) 0
       have hcz_gb70_w93_1 : w93.cell? ⟨gb70, 1, none⟩ = some (.slice Ao63 r17.length co64) := (blk_cell (Law.blk_of (I.2.2.2.2.1.1)) 1).trans rfl
       have hfz_gb70_w93_1 := blk_frozen (Law.blk_of (I.2.2.2.2.1.1)) 1
       have hcz_gb70_w93_2 : w93.cell? ⟨gb70, 2, none⟩ = some (.slice Ao66 r18.length co67) := (blk_cell (Law.blk_of (I.2.2.2.2.1.1)) 2).trans rfl
       have hfz_gb70_w93_2 := blk_frozen (Law.blk_of (I.2.2.2.2.1.1)) 2
       have hcz_gb92_w93_0 : w93.cell? ⟨gb92, 0, none⟩ = some (.int .i64 0) := (blk_cell (Law.blk_of (I.1.1)) 0).trans rfl
       have hfz_gb92_w93_0 := blk_frozen (Law.blk_of (I.1.1)) 0
       have hcz_gb92_w93_1 : w93.cell? ⟨gb92, 1, none⟩ = some (.slice none 0 0) := (blk_cell (Law.blk_of (I.1.1)) 1).trans rfl
       have hfz_gb92_w93_1 := blk_frozen (Law.blk_of (I.1.1)) 1
       have hcz_gb92_w93_2 : w93.cell? ⟨gb92, 2, none⟩ = some (.slice none 0 0) := (blk_cell (Law.blk_of (I.1.1)) 2).trans rfl
       have hfz_gb92_w93_2 := blk_frozen (Law.blk_of (I.1.1)) 2)
    | ((with_reducible refine gate_callee (f := 31) rfl ?_)
       refine goesL_ (some 51) rfl rfl Try.func31 (by kernel_rfl) rfl #[.agg #[.int .i64 r40, .slice Ao85 r41.length co86, .slice Ao88 r42.length co89], .agg #[.int .i64 r40, .slice Ao49 r41.length co50, .slice Ao52 r42.length co53]] rfl (by (try simp only [List.map_toArray, List.map_cons, List.map_nil]); first | done | rfl) ?_
       refine Law.at_world (fun w96 hw1 => ?_)
       have I1 : Law.Inv [Law.boxI gb92 #[.int .i64 r40, .slice Ao85 r41.length co86, .slice Ao88 r42.length co89] 47, Law.rowsI k67 67 w81.heap.size w81.heap.size w82.heap.size (fun k_ => some k_ ≠ (.slice Ao85 r41.length co86 : Value).ownBlock) (.slice Ao88 r42.length co89) r42, Law.rowI (Kd.int .u8) 5 w81.heap.size w81.heap.size w82.heap.size (fun _ => True) (.slice Ao85 r41.length co86) r41, Law.rowsI k71 71 w73.heap.size w73.heap.size w74.heap.size (fun _ => True) (.slice Ao76 r31.length co77) r31, Law.boxI gb70 #[.int .i64 r16, .slice Ao63 r17.length co64, .slice Ao66 r18.length co67] 47, Law.rowsI k67 67 w59.heap.size w59.heap.size w60.heap.size (fun k_ => some k_ ≠ (.slice Ao63 r17.length co64 : Value).ownBlock) (.slice Ao66 r18.length co67) r18, Law.rowI (Kd.int .u8) 5 w59.heap.size w59.heap.size w60.heap.size (fun _ => True) (.slice Ao63 r17.length co64) r17, Law.boxI gb56 #[.int .i64 r40, .slice Ao49 r41.length co50, .slice Ao52 r42.length co53] 47, Law.rowsI k67 67 w45.heap.size w45.heap.size w46.heap.size (fun k_ => some k_ ≠ (.slice Ao49 r41.length co50 : Value).ownBlock) (.slice Ao52 r42.length co53) r42, Law.rowI (Kd.int .u8) 5 w45.heap.size w45.heap.size w46.heap.size (fun _ => True) (.slice Ao49 r41.length co50) r41, Law.rowsI k71 71 w33.heap.size w33.heap.size w34.heap.size (fun _ => True) (.slice Ao36 r31.length co37) r31, Law.rowsI k67 67 w20.heap.size w20.heap.size w21.heap.size (fun k_ => some k_ ≠ (.slice Ao24 r17.length co25 : Value).ownBlock) (.slice Ao27 r18.length co28) r18, Law.rowI (Kd.int .u8) 5 w20.heap.size w20.heap.size w21.heap.size (fun _ => True) (.slice Ao24 r17.length co25) r17, Law.boxI gb1 #[.int .i64 a0_0, .slice A0_1 l0_1.length c0_1, .slice A0_2 l0_2.length c0_2] 41] w96 := by rw [hw1]; (with_reducible repeat (first | apply Law.Inv.alloc | apply Law.Inv.drewN | apply Law.Inv.drew)); refine Law.Inv.put (cs := #[.int .i64 r40, .slice Ao85 r41.length co86, .slice none 0 0]) ?_ (by have := SZ3.out; have := SZ8.out; have := SZ14.out; have := SZ30.out; have := SZ39.out; have := SZ55.out; have := SZ58.out; have := SZ69.out; have := SZ72.out; have := SZ79.out; have := SZ91.out; have := SZ94.out; refine ⟨?_, ?_, ?_, ?_, ?_, ?_, ?_, ?_, ?_, ?_, ?_, ?_, ?_, trivial⟩ <;> simp only [Law.rowI, Law.rowsI, Law.boxI] <;> omega) rfl; (with_reducible repeat (first | apply Law.Inv.alloc | apply Law.Inv.drewN | apply Law.Inv.drew)); refine Law.Inv.put (cs := #[.int .i64 r40, .slice none 0 0, .slice none 0 0]) ?_ (by have := SZ3.out; have := SZ8.out; have := SZ14.out; have := SZ30.out; have := SZ39.out; have := SZ55.out; have := SZ58.out; have := SZ69.out; have := SZ72.out; have := SZ79.out; have := SZ91.out; have := SZ94.out; refine ⟨?_, ?_, ?_, ?_, ?_, ?_, ?_, ?_, ?_, ?_, ?_, ?_, ?_, trivial⟩ <;> simp only [Law.rowI, Law.rowsI, Law.boxI] <;> omega) rfl; (with_reducible repeat (first | apply Law.Inv.alloc | apply Law.Inv.drewN | apply Law.Inv.drew)); refine Law.Inv.put (cs := #[.int .i64 0, .slice none 0 0, .slice none 0 0]) ?_ (by have := SZ3.out; have := SZ8.out; have := SZ14.out; have := SZ30.out; have := SZ39.out; have := SZ55.out; have := SZ58.out; have := SZ69.out; have := SZ72.out; have := SZ79.out; have := SZ91.out; have := SZ94.out; refine ⟨?_, ?_, ?_, ?_, ?_, ?_, ?_, ?_, ?_, ?_, ?_, ?_, ?_, trivial⟩ <;> simp only [Law.rowI, Law.rowsI, Law.boxI] <;> omega) rfl; (with_reducible repeat (first | apply Law.Inv.alloc | apply Law.Inv.drewN | apply Law.Inv.drew)); exact I
       have HB1 := Aside0.mk (show Below W.heap.size W w96 by rw [hw1]; repeat (first | (with_reducible first | exact HB.out | apply below_alloc | apply pw_below_drewN | apply below_drew1 | refine below_set ?_ (by have := SZ3.out; have := SZ8.out; have := SZ14.out; have := SZ30.out; have := SZ39.out; have := SZ55.out; have := SZ58.out; have := SZ69.out; have := SZ72.out; have := SZ79.out; have := SZ91.out; have := SZ94.out; first | omega | (simp only [Law.rowI, Law.rowsI, Law.boxI]; omega))) | exact HB.out))
       clear I HB hw1
       have I := I1
       have HB := HB1
       clear I1 HB1
       refine (laws_eqDevice.calls k r40 Ao85 co86 r41 Ao88 co89 r42 r40 Ao49 co50 r41 Ao52 co53 r42 true w96 ?_ ?_ ?_ ?_ ?_ ?_ ?_ ?_ E95.out).mono ?_
       · exact (Kd.R_reads' (I.2.2.1.1)).2.2
       · exact (Kd.R_reads' (I.2.2.1.1)).2.1
       · exact (Kd.S_reads' (I.2.1.1)).2.2
       · exact (Kd.S_reads' (I.2.1.1)).2.1
       · exact (Kd.R_reads' (I.2.2.2.2.2.2.2.2.2.1.1)).2.2
       · exact (Kd.R_reads' (I.2.2.2.2.2.2.2.2.2.1.1)).2.1
       · exact (Kd.S_reads' (I.2.2.2.2.2.2.2.2.1.1)).2.2
       · exact (Kd.S_reads' (I.2.2.2.2.2.2.2.2.1.1)).2.1
       rintro e w97 ⟨rfl, hq0⟩
       refine ⟨_, rfl, ?_⟩
       have I1 := Law.Inv.below I hq0
       have HB1 := Aside0.mk (below_step HB.out hq0)
       have SZ98 := Aside0.mk (show W.heap.size ≤ w96.heap.size ∧ gb92 + 1 ≤ w96.heap.size ∧ w96.heap.size ≤ w97.heap.size from ⟨HB.out.size, I.1.2, hq0.size⟩)
       clear I HB
       have I := I1
       have HB := HB1
       clear I1 HB1
       have hcz_gb1_w97_0 : w97.cell? ⟨gb1, 0, none⟩ = some (.int .i64 a0_0) := (blk_cell (Law.blk_of (I.2.2.2.2.2.2.2.2.2.2.2.2.2.1.1)) 0).trans rfl
       have hfz_gb1_w97_0 := blk_frozen (Law.blk_of (I.2.2.2.2.2.2.2.2.2.2.2.2.2.1.1)) 0
       have hcz_gb1_w97_1 : w97.cell? ⟨gb1, 1, none⟩ = some (.slice A0_1 l0_1.length c0_1) := (blk_cell (Law.blk_of (I.2.2.2.2.2.2.2.2.2.2.2.2.2.1.1)) 1).trans rfl
       have hfz_gb1_w97_1 := blk_frozen (Law.blk_of (I.2.2.2.2.2.2.2.2.2.2.2.2.2.1.1)) 1
       have hcz_gb1_w97_2 : w97.cell? ⟨gb1, 2, none⟩ = some (.slice A0_2 l0_2.length c0_2) := (blk_cell (Law.blk_of (I.2.2.2.2.2.2.2.2.2.2.2.2.2.1.1)) 2).trans rfl
       have hfz_gb1_w97_2 := blk_frozen (Law.blk_of (I.2.2.2.2.2.2.2.2.2.2.2.2.2.1.1)) 2
       have hcz_gb56_w97_0 : w97.cell? ⟨gb56, 0, none⟩ = some (.int .i64 r40) := (blk_cell (Law.blk_of (I.2.2.2.2.2.2.2.1.1)) 0).trans rfl
       have hfz_gb56_w97_0 := blk_frozen (Law.blk_of (I.2.2.2.2.2.2.2.1.1)) 0
       have hcz_gb56_w97_1 : w97.cell? ⟨gb56, 1, none⟩ = some (.slice Ao49 r41.length co50) := (blk_cell (Law.blk_of (I.2.2.2.2.2.2.2.1.1)) 1).trans rfl
       have hfz_gb56_w97_1 := blk_frozen (Law.blk_of (I.2.2.2.2.2.2.2.1.1)) 1
       have hcz_gb56_w97_2 : w97.cell? ⟨gb56, 2, none⟩ = some (.slice Ao52 r42.length co53) := (blk_cell (Law.blk_of (I.2.2.2.2.2.2.2.1.1)) 2).trans rfl
       have hfz_gb56_w97_2 := blk_frozen (Law.blk_of (I.2.2.2.2.2.2.2.1.1)) 2
       have hcz_gb70_w97_0 : w97.cell? ⟨gb70, 0, none⟩ = some (.int .i64 r16) := (blk_cell (Law.blk_of (I.2.2.2.2.1.1)) 0).trans rfl
       have hfz_gb70_w97_0 := blk_frozen (Law.blk_of (I.2.2.2.2.1.1)) 0
       have hcz_gb70_w97_1 : w97.cell? ⟨gb70, 1, none⟩ = some (.slice Ao63 r17.length co64) := (blk_cell (Law.blk_of (I.2.2.2.2.1.1)) 1).trans rfl
       have hfz_gb70_w97_1 := blk_frozen (Law.blk_of (I.2.2.2.2.1.1)) 1
       have hcz_gb70_w97_2 : w97.cell? ⟨gb70, 2, none⟩ = some (.slice Ao66 r18.length co67) := (blk_cell (Law.blk_of (I.2.2.2.2.1.1)) 2).trans rfl
       have hfz_gb70_w97_2 := blk_frozen (Law.blk_of (I.2.2.2.2.1.1)) 2
       have hcz_gb92_w97_0 : w97.cell? ⟨gb92, 0, none⟩ = some (.int .i64 r40) := (blk_cell (Law.blk_of (I.1.1)) 0).trans rfl
       have hfz_gb92_w97_0 := blk_frozen (Law.blk_of (I.1.1)) 0
       have hcz_gb92_w97_1 : w97.cell? ⟨gb92, 1, none⟩ = some (.slice Ao85 r41.length co86) := (blk_cell (Law.blk_of (I.1.1)) 1).trans rfl
       have hfz_gb92_w97_1 := blk_frozen (Law.blk_of (I.1.1)) 1
       have hcz_gb92_w97_2 : w97.cell? ⟨gb92, 2, none⟩ = some (.slice Ao88 r42.length co89) := (blk_cell (Law.blk_of (I.1.1)) 2).trans rfl
       have hfz_gb92_w97_2 := blk_frozen (Law.blk_of (I.1.1)) 2))
  try go_wp2
  refine Law.region_world (fun w99 hw1 => ?_)
  have I1 := Law.Inv.to I hw1 (fun I => by (with_reducible repeat (first | apply Law.Inv.alloc | apply Law.Inv.drewN | apply Law.Inv.drew)); exact I)
  have HB1 : Below W.heap.size W w99 := by rw [hw1]; repeat (first | (with_reducible first | exact HB.out | apply below_alloc | apply pw_below_drewN | apply below_drew1) | exact HB.out)
  obtain ⟨wd100, hwD⟩ : ∃ wD : World, wD = w99.drew := ⟨_, rfl⟩
  have I2 := Law.Inv.to I1 hwD (fun I => I.drew)
  have HB2 := Aside0.mk (show Below W.heap.size W wd100 by rw [hwD]; exact below_drew1 HB1)
  clear I HB hw1
  have I := I2
  have HB := HB2
  clear I1 HB1 I2 HB2
  refine start_ (n := 5) (S := fun w' => w'.cell? ⟨gb1, 0, none⟩ = some (.int .i64 a0_0) ∧ w'.cell? ⟨gb1, 1, none⟩ = some (.slice A0_1 l0_1.length c0_1) ∧ w'.cell? ⟨gb1, 2, none⟩ = some (.slice A0_2 l0_2.length c0_2) ∧ w'.cell? ⟨gb56, 0, none⟩ = some (.int .i64 r40) ∧ w'.cell? ⟨gb56, 1, none⟩ = some (.slice Ao49 r41.length co50) ∧ w'.cell? ⟨gb56, 2, none⟩ = some (.slice Ao52 r42.length co53) ∧ w'.cell? ⟨gb70, 0, none⟩ = some (.int .i64 r16) ∧ w'.cell? ⟨gb70, 1, none⟩ = some (.slice Ao63 r17.length co64) ∧ w'.cell? ⟨gb70, 2, none⟩ = some (.slice Ao66 r18.length co67) ∧ w'.cell? ⟨gb92, 0, none⟩ = some (.int .i64 r40) ∧ w'.cell? ⟨gb92, 1, none⟩ = some (.slice Ao85 r41.length co86) ∧ w'.cell? ⟨gb92, 2, none⟩ = some (.slice Ao88 r42.length co89)) (ds := []) #[false, false, false, false, false] (by kernel_rfl) rfl rfl (by rw [← hwD]; exact ⟨(blk_cell (Law.blk_of (I.2.2.2.2.2.2.2.2.2.2.2.2.2.1.1)) 0).trans rfl, (blk_cell (Law.blk_of (I.2.2.2.2.2.2.2.2.2.2.2.2.2.1.1)) 1).trans rfl, (blk_cell (Law.blk_of (I.2.2.2.2.2.2.2.2.2.2.2.2.2.1.1)) 2).trans rfl, (blk_cell (Law.blk_of (I.2.2.2.2.2.2.2.1.1)) 0).trans rfl, (blk_cell (Law.blk_of (I.2.2.2.2.2.2.2.1.1)) 1).trans rfl, (blk_cell (Law.blk_of (I.2.2.2.2.2.2.2.1.1)) 2).trans rfl, (blk_cell (Law.blk_of (I.2.2.2.2.1.1)) 0).trans rfl, (blk_cell (Law.blk_of (I.2.2.2.2.1.1)) 1).trans rfl, (blk_cell (Law.blk_of (I.2.2.2.2.1.1)) 2).trans rfl, (blk_cell (Law.blk_of (I.1.1)) 0).trans rfl, (blk_cell (Law.blk_of (I.1.1)) 1).trans rfl, (blk_cell (Law.blk_of (I.1.1)) 2).trans rfl⟩) ?_
  rw [← hwD]
  intro hHeld
  clear hwD
  have hcz_gb1_wd100_0 : wd100.cell? ⟨gb1, 0, none⟩ = some (.int .i64 a0_0) := (blk_cell (Law.blk_of (I.2.2.2.2.2.2.2.2.2.2.2.2.2.1.1)) 0).trans rfl
  have hfz_gb1_wd100_0 := blk_frozen (Law.blk_of (I.2.2.2.2.2.2.2.2.2.2.2.2.2.1.1)) 0
  have hcz_gb1_wd100_1 : wd100.cell? ⟨gb1, 1, none⟩ = some (.slice A0_1 l0_1.length c0_1) := (blk_cell (Law.blk_of (I.2.2.2.2.2.2.2.2.2.2.2.2.2.1.1)) 1).trans rfl
  have hfz_gb1_wd100_1 := blk_frozen (Law.blk_of (I.2.2.2.2.2.2.2.2.2.2.2.2.2.1.1)) 1
  have hcz_gb1_wd100_2 : wd100.cell? ⟨gb1, 2, none⟩ = some (.slice A0_2 l0_2.length c0_2) := (blk_cell (Law.blk_of (I.2.2.2.2.2.2.2.2.2.2.2.2.2.1.1)) 2).trans rfl
  have hfz_gb1_wd100_2 := blk_frozen (Law.blk_of (I.2.2.2.2.2.2.2.2.2.2.2.2.2.1.1)) 2
  have hcz_gb56_wd100_0 : wd100.cell? ⟨gb56, 0, none⟩ = some (.int .i64 r40) := (blk_cell (Law.blk_of (I.2.2.2.2.2.2.2.1.1)) 0).trans rfl
  have hfz_gb56_wd100_0 := blk_frozen (Law.blk_of (I.2.2.2.2.2.2.2.1.1)) 0
  have hcz_gb56_wd100_1 : wd100.cell? ⟨gb56, 1, none⟩ = some (.slice Ao49 r41.length co50) := (blk_cell (Law.blk_of (I.2.2.2.2.2.2.2.1.1)) 1).trans rfl
  have hfz_gb56_wd100_1 := blk_frozen (Law.blk_of (I.2.2.2.2.2.2.2.1.1)) 1
  have hcz_gb56_wd100_2 : wd100.cell? ⟨gb56, 2, none⟩ = some (.slice Ao52 r42.length co53) := (blk_cell (Law.blk_of (I.2.2.2.2.2.2.2.1.1)) 2).trans rfl
  have hfz_gb56_wd100_2 := blk_frozen (Law.blk_of (I.2.2.2.2.2.2.2.1.1)) 2
  have hcz_gb70_wd100_0 : wd100.cell? ⟨gb70, 0, none⟩ = some (.int .i64 r16) := (blk_cell (Law.blk_of (I.2.2.2.2.1.1)) 0).trans rfl
  have hfz_gb70_wd100_0 := blk_frozen (Law.blk_of (I.2.2.2.2.1.1)) 0
  have hcz_gb70_wd100_1 : wd100.cell? ⟨gb70, 1, none⟩ = some (.slice Ao63 r17.length co64) := (blk_cell (Law.blk_of (I.2.2.2.2.1.1)) 1).trans rfl
  have hfz_gb70_wd100_1 := blk_frozen (Law.blk_of (I.2.2.2.2.1.1)) 1
  have hcz_gb70_wd100_2 : wd100.cell? ⟨gb70, 2, none⟩ = some (.slice Ao66 r18.length co67) := (blk_cell (Law.blk_of (I.2.2.2.2.1.1)) 2).trans rfl
  have hfz_gb70_wd100_2 := blk_frozen (Law.blk_of (I.2.2.2.2.1.1)) 2
  have hcz_gb92_wd100_0 : wd100.cell? ⟨gb92, 0, none⟩ = some (.int .i64 r40) := (blk_cell (Law.blk_of (I.1.1)) 0).trans rfl
  have hfz_gb92_wd100_0 := blk_frozen (Law.blk_of (I.1.1)) 0
  have hcz_gb92_wd100_1 : wd100.cell? ⟨gb92, 1, none⟩ = some (.slice Ao85 r41.length co86) := (blk_cell (Law.blk_of (I.1.1)) 1).trans rfl
  have hfz_gb92_wd100_1 := blk_frozen (Law.blk_of (I.1.1)) 1
  have hcz_gb92_wd100_2 : wd100.cell? ⟨gb92, 2, none⟩ = some (.slice Ao88 r42.length co89) := (blk_cell (Law.blk_of (I.1.1)) 2).trans rfl
  have hfz_gb92_wd100_2 := blk_frozen (Law.blk_of (I.1.1)) 2
  refine take_ (i := 0) (N := some 58) (v := ?_) (a' := ?_) #[true, false, false, false, false] rfl rfl (by kernel_rfl) (fun _ _ _ h => h) (Or.inl ⟨by rfl, ?_⟩) hHeld ?_ ?_
  rotate_left
  · rintro w' ⟨s0, s1, s2, s3, s4, s5, s6, s7, s8, s9, s10, s11⟩
    go_simp
    with_reducible rfl
  rotate_left
  · simp only [Act.put, List.setIfInBounds_toArray, List.set_cons_zero, List.set_cons_succ, i64_w, i32_w]
    rfl
  refine take_ (i := 1) (N := some 59) (v := ?_) (a' := ?_) #[true, true, false, false, false] rfl rfl (by kernel_rfl) (fun _ _ _ h => h) (Or.inl ⟨by rfl, ?_⟩) hHeld ?_ ?_
  rotate_left
  · rintro w' ⟨s0, s1, s2, s3, s4, s5, s6, s7, s8, s9, s10, s11⟩
    go_simp
    with_reducible rfl
  rotate_left
  · simp only [Act.put, List.setIfInBounds_toArray, List.set_cons_zero, List.set_cons_succ, i64_w, i32_w]
    rfl
  refine one_ (i := 2) (N := some 60) #[true, true, true, false, false] rfl rfl (by kernel_rfl) (by decide) (fun K hK => ?_)
  refine goes_ Try.func28 (by kernel_rfl) rfl #[.agg #[.int .i64 a0_0, .slice A0_1 l0_1.length c0_1, .slice A0_2 l0_2.length c0_2]] (by rfl) rfl rfl (by (try simp only [List.map_toArray, List.map_cons, List.map_nil]); first | done | rfl) ?_
  refine Law.at_world (fun w101 hw1 => ?_)
  have I1 := Law.Inv.to I hw1 (fun I => by (with_reducible repeat (first | apply Law.Inv.alloc | apply Law.Inv.drewN | apply Law.Inv.drew)); exact I)
  have HB1 := Aside0.mk (show Below W.heap.size W w101 by rw [hw1]; repeat (first | (with_reducible first | exact HB.out | apply below_alloc | apply pw_below_drewN | apply below_drew1) | exact HB.out))
  clear I HB hw1
  have I := I1
  have HB := HB1
  clear I1 HB1
  refine (laws_toDevice.calls k a0_0 A0_1 c0_1 l0_1 A0_2 c0_2 l0_2 r16 r17 r18 w101 ?_ ?_ ?_ ?_ E19.out).mono ?_
  · exact Kd.C_below hr0_1 HB.out
  · exact hc0_1
  · exact Kd.C_below hr0_2 HB.out
  · exact hc0_2
  rintro e w102 ⟨v103, v104, rfl, hq0, hq1, hq2⟩
  refine ⟨_, rfl, ?_⟩
  obtain ⟨Ao105, co106, eo107⟩ := Kd.R_slice hq0
  subst eo107
  obtain ⟨Ao108, co109, eo110⟩ := Kd.S_slice hq1
  subst eo110
  have I1 := Law.Inv.below I hq2
  have HB1 := Aside0.mk (below_step HB.out hq2)
  have SZ111 := Aside0.mk (show W.heap.size ≤ w101.heap.size ∧ gb92 + 1 ≤ w101.heap.size ∧ w101.heap.size ≤ w102.heap.size from ⟨HB.out.size, I.1.2, hq2.size⟩)
  have I1 := Law.Inv.cons (s := Law.rowI (Kd.int .u8) 5 w101.heap.size w101.heap.size w102.heap.size (fun _ => True) (.slice Ao105 r17.length co106) r17) (Law.rowI_new hq0 (fun _ h => h)) I1
  have I1 := Law.Inv.cons (s := Law.rowsI k67 67 w101.heap.size w101.heap.size w102.heap.size (fun k_ => some k_ ≠ (.slice Ao105 r17.length co106 : Value).ownBlock) (.slice Ao108 r18.length co109) r18) (Law.rowsI_new hq1 (fun _ h => h)) I1
  clear I HB
  have I := I1
  have HB := HB1
  clear I1 HB1
  have hcz_gb1_w102_0 : w102.cell? ⟨gb1, 0, none⟩ = some (.int .i64 a0_0) := (blk_cell (Law.blk_of (I.2.2.2.2.2.2.2.2.2.2.2.2.2.2.2.1.1)) 0).trans rfl
  have hfz_gb1_w102_0 := blk_frozen (Law.blk_of (I.2.2.2.2.2.2.2.2.2.2.2.2.2.2.2.1.1)) 0
  have hcz_gb1_w102_1 : w102.cell? ⟨gb1, 1, none⟩ = some (.slice A0_1 l0_1.length c0_1) := (blk_cell (Law.blk_of (I.2.2.2.2.2.2.2.2.2.2.2.2.2.2.2.1.1)) 1).trans rfl
  have hfz_gb1_w102_1 := blk_frozen (Law.blk_of (I.2.2.2.2.2.2.2.2.2.2.2.2.2.2.2.1.1)) 1
  have hcz_gb1_w102_2 : w102.cell? ⟨gb1, 2, none⟩ = some (.slice A0_2 l0_2.length c0_2) := (blk_cell (Law.blk_of (I.2.2.2.2.2.2.2.2.2.2.2.2.2.2.2.1.1)) 2).trans rfl
  have hfz_gb1_w102_2 := blk_frozen (Law.blk_of (I.2.2.2.2.2.2.2.2.2.2.2.2.2.2.2.1.1)) 2
  have hcz_gb56_w102_0 : w102.cell? ⟨gb56, 0, none⟩ = some (.int .i64 r40) := (blk_cell (Law.blk_of (I.2.2.2.2.2.2.2.2.2.1.1)) 0).trans rfl
  have hfz_gb56_w102_0 := blk_frozen (Law.blk_of (I.2.2.2.2.2.2.2.2.2.1.1)) 0
  have hcz_gb56_w102_1 : w102.cell? ⟨gb56, 1, none⟩ = some (.slice Ao49 r41.length co50) := (blk_cell (Law.blk_of (I.2.2.2.2.2.2.2.2.2.1.1)) 1).trans rfl
  have hfz_gb56_w102_1 := blk_frozen (Law.blk_of (I.2.2.2.2.2.2.2.2.2.1.1)) 1
  have hcz_gb56_w102_2 : w102.cell? ⟨gb56, 2, none⟩ = some (.slice Ao52 r42.length co53) := (blk_cell (Law.blk_of (I.2.2.2.2.2.2.2.2.2.1.1)) 2).trans rfl
  have hfz_gb56_w102_2 := blk_frozen (Law.blk_of (I.2.2.2.2.2.2.2.2.2.1.1)) 2
  have hcz_gb70_w102_0 : w102.cell? ⟨gb70, 0, none⟩ = some (.int .i64 r16) := (blk_cell (Law.blk_of (I.2.2.2.2.2.2.1.1)) 0).trans rfl
  have hfz_gb70_w102_0 := blk_frozen (Law.blk_of (I.2.2.2.2.2.2.1.1)) 0
  have hcz_gb70_w102_1 : w102.cell? ⟨gb70, 1, none⟩ = some (.slice Ao63 r17.length co64) := (blk_cell (Law.blk_of (I.2.2.2.2.2.2.1.1)) 1).trans rfl
  have hfz_gb70_w102_1 := blk_frozen (Law.blk_of (I.2.2.2.2.2.2.1.1)) 1
  have hcz_gb70_w102_2 : w102.cell? ⟨gb70, 2, none⟩ = some (.slice Ao66 r18.length co67) := (blk_cell (Law.blk_of (I.2.2.2.2.2.2.1.1)) 2).trans rfl
  have hfz_gb70_w102_2 := blk_frozen (Law.blk_of (I.2.2.2.2.2.2.1.1)) 2
  have hcz_gb92_w102_0 : w102.cell? ⟨gb92, 0, none⟩ = some (.int .i64 r40) := (blk_cell (Law.blk_of (I.2.2.1.1)) 0).trans rfl
  have hfz_gb92_w102_0 := blk_frozen (Law.blk_of (I.2.2.1.1)) 0
  have hcz_gb92_w102_1 : w102.cell? ⟨gb92, 1, none⟩ = some (.slice Ao85 r41.length co86) := (blk_cell (Law.blk_of (I.2.2.1.1)) 1).trans rfl
  have hfz_gb92_w102_1 := blk_frozen (Law.blk_of (I.2.2.1.1)) 1
  have hcz_gb92_w102_2 : w102.cell? ⟨gb92, 2, none⟩ = some (.slice Ao88 r42.length co89) := (blk_cell (Law.blk_of (I.2.2.1.1)) 2).trans rfl
  have hfz_gb92_w102_2 := blk_frozen (Law.blk_of (I.2.2.1.1)) 2
  refine hK.out _ _ ⟨(blk_cell (Law.blk_of (I.2.2.2.2.2.2.2.2.2.2.2.2.2.2.2.1.1)) 0).trans rfl, (blk_cell (Law.blk_of (I.2.2.2.2.2.2.2.2.2.2.2.2.2.2.2.1.1)) 1).trans rfl, (blk_cell (Law.blk_of (I.2.2.2.2.2.2.2.2.2.2.2.2.2.2.2.1.1)) 2).trans rfl, (blk_cell (Law.blk_of (I.2.2.2.2.2.2.2.2.2.1.1)) 0).trans rfl, (blk_cell (Law.blk_of (I.2.2.2.2.2.2.2.2.2.1.1)) 1).trans rfl, (blk_cell (Law.blk_of (I.2.2.2.2.2.2.2.2.2.1.1)) 2).trans rfl, (blk_cell (Law.blk_of (I.2.2.2.2.2.2.1.1)) 0).trans rfl, (blk_cell (Law.blk_of (I.2.2.2.2.2.2.1.1)) 1).trans rfl, (blk_cell (Law.blk_of (I.2.2.2.2.2.2.1.1)) 2).trans rfl, (blk_cell (Law.blk_of (I.2.2.1.1)) 0).trans rfl, (blk_cell (Law.blk_of (I.2.2.1.1)) 1).trans rfl, (blk_cell (Law.blk_of (I.2.2.1.1)) 2).trans rfl⟩ (fun hHeld => ?_)
  clear hK K
  refine norm_ (a' := ?_) ?_ ?_
  rotate_left
  · show Act.put _ (some 60) _ = _
    simp only [Act.put, List.setIfInBounds_toArray, List.set_cons_zero, List.set_cons_succ, i64_w, i32_w]
    rfl
  refine one_ (i := 3) (N := some 61) #[true, true, true, true, false] rfl rfl (by kernel_rfl) (by decide) (fun K hK => ?_)
  refine goes_ Try.func31 (by kernel_rfl) rfl #[.agg #[.int .i64 r16, .slice Ao63 r17.length co64, .slice Ao66 r18.length co67], .agg #[.int .i64 r16, .slice Ao105 r17.length co106, .slice Ao108 r18.length co109]] (by rfl) rfl rfl (by (try simp only [List.map_toArray, List.map_cons, List.map_nil]); first | done | rfl) ?_
  refine Law.at_world (fun w113 hw1 => ?_)
  have I1 := Law.Inv.to I hw1 (fun I => by (with_reducible repeat (first | apply Law.Inv.alloc | apply Law.Inv.drewN | apply Law.Inv.drew)); exact I)
  have HB1 := Aside0.mk (show Below W.heap.size W w113 by rw [hw1]; repeat (first | (with_reducible first | exact HB.out | apply below_alloc | apply pw_below_drewN | apply below_drew1) | exact HB.out))
  clear I HB hw1
  have I := I1
  have HB := HB1
  clear I1 HB1
  refine (laws_eqDevice.calls k r16 Ao63 co64 r17 Ao66 co67 r18 r16 Ao105 co106 r17 Ao108 co109 r18 true w113 ?_ ?_ ?_ ?_ ?_ ?_ ?_ ?_ E112.out).mono ?_
  · exact (Kd.R_reads' (I.2.2.2.2.2.2.2.2.1.1)).2.2
  · exact (Kd.R_reads' (I.2.2.2.2.2.2.2.2.1.1)).2.1
  · exact (Kd.S_reads' (I.2.2.2.2.2.2.2.1.1)).2.2
  · exact (Kd.S_reads' (I.2.2.2.2.2.2.2.1.1)).2.1
  · exact (Kd.R_reads' (I.2.1.1)).2.2
  · exact (Kd.R_reads' (I.2.1.1)).2.1
  · exact (Kd.S_reads' (I.1.1)).2.2
  · exact (Kd.S_reads' (I.1.1)).2.1
  rintro e w114 ⟨rfl, hq0⟩
  refine ⟨_, rfl, ?_⟩
  have I1 := Law.Inv.below I hq0
  have HB1 := Aside0.mk (below_step HB.out hq0)
  have SZ115 := Aside0.mk (show W.heap.size ≤ w113.heap.size ∧ w102.heap.size ≤ w113.heap.size ∧ w113.heap.size ≤ w114.heap.size from ⟨HB.out.size, I.1.2, hq0.size⟩)
  clear I HB
  have I := I1
  have HB := HB1
  clear I1 HB1
  have hcz_gb1_w114_0 : w114.cell? ⟨gb1, 0, none⟩ = some (.int .i64 a0_0) := (blk_cell (Law.blk_of (I.2.2.2.2.2.2.2.2.2.2.2.2.2.2.2.1.1)) 0).trans rfl
  have hfz_gb1_w114_0 := blk_frozen (Law.blk_of (I.2.2.2.2.2.2.2.2.2.2.2.2.2.2.2.1.1)) 0
  have hcz_gb1_w114_1 : w114.cell? ⟨gb1, 1, none⟩ = some (.slice A0_1 l0_1.length c0_1) := (blk_cell (Law.blk_of (I.2.2.2.2.2.2.2.2.2.2.2.2.2.2.2.1.1)) 1).trans rfl
  have hfz_gb1_w114_1 := blk_frozen (Law.blk_of (I.2.2.2.2.2.2.2.2.2.2.2.2.2.2.2.1.1)) 1
  have hcz_gb1_w114_2 : w114.cell? ⟨gb1, 2, none⟩ = some (.slice A0_2 l0_2.length c0_2) := (blk_cell (Law.blk_of (I.2.2.2.2.2.2.2.2.2.2.2.2.2.2.2.1.1)) 2).trans rfl
  have hfz_gb1_w114_2 := blk_frozen (Law.blk_of (I.2.2.2.2.2.2.2.2.2.2.2.2.2.2.2.1.1)) 2
  have hcz_gb56_w114_0 : w114.cell? ⟨gb56, 0, none⟩ = some (.int .i64 r40) := (blk_cell (Law.blk_of (I.2.2.2.2.2.2.2.2.2.1.1)) 0).trans rfl
  have hfz_gb56_w114_0 := blk_frozen (Law.blk_of (I.2.2.2.2.2.2.2.2.2.1.1)) 0
  have hcz_gb56_w114_1 : w114.cell? ⟨gb56, 1, none⟩ = some (.slice Ao49 r41.length co50) := (blk_cell (Law.blk_of (I.2.2.2.2.2.2.2.2.2.1.1)) 1).trans rfl
  have hfz_gb56_w114_1 := blk_frozen (Law.blk_of (I.2.2.2.2.2.2.2.2.2.1.1)) 1
  have hcz_gb56_w114_2 : w114.cell? ⟨gb56, 2, none⟩ = some (.slice Ao52 r42.length co53) := (blk_cell (Law.blk_of (I.2.2.2.2.2.2.2.2.2.1.1)) 2).trans rfl
  have hfz_gb56_w114_2 := blk_frozen (Law.blk_of (I.2.2.2.2.2.2.2.2.2.1.1)) 2
  have hcz_gb70_w114_0 : w114.cell? ⟨gb70, 0, none⟩ = some (.int .i64 r16) := (blk_cell (Law.blk_of (I.2.2.2.2.2.2.1.1)) 0).trans rfl
  have hfz_gb70_w114_0 := blk_frozen (Law.blk_of (I.2.2.2.2.2.2.1.1)) 0
  have hcz_gb70_w114_1 : w114.cell? ⟨gb70, 1, none⟩ = some (.slice Ao63 r17.length co64) := (blk_cell (Law.blk_of (I.2.2.2.2.2.2.1.1)) 1).trans rfl
  have hfz_gb70_w114_1 := blk_frozen (Law.blk_of (I.2.2.2.2.2.2.1.1)) 1
  have hcz_gb70_w114_2 : w114.cell? ⟨gb70, 2, none⟩ = some (.slice Ao66 r18.length co67) := (blk_cell (Law.blk_of (I.2.2.2.2.2.2.1.1)) 2).trans rfl
  have hfz_gb70_w114_2 := blk_frozen (Law.blk_of (I.2.2.2.2.2.2.1.1)) 2
  have hcz_gb92_w114_0 : w114.cell? ⟨gb92, 0, none⟩ = some (.int .i64 r40) := (blk_cell (Law.blk_of (I.2.2.1.1)) 0).trans rfl
  have hfz_gb92_w114_0 := blk_frozen (Law.blk_of (I.2.2.1.1)) 0
  have hcz_gb92_w114_1 : w114.cell? ⟨gb92, 1, none⟩ = some (.slice Ao85 r41.length co86) := (blk_cell (Law.blk_of (I.2.2.1.1)) 1).trans rfl
  have hfz_gb92_w114_1 := blk_frozen (Law.blk_of (I.2.2.1.1)) 1
  have hcz_gb92_w114_2 : w114.cell? ⟨gb92, 2, none⟩ = some (.slice Ao88 r42.length co89) := (blk_cell (Law.blk_of (I.2.2.1.1)) 2).trans rfl
  have hfz_gb92_w114_2 := blk_frozen (Law.blk_of (I.2.2.1.1)) 2
  refine hK.out _ _ ⟨(blk_cell (Law.blk_of (I.2.2.2.2.2.2.2.2.2.2.2.2.2.2.2.1.1)) 0).trans rfl, (blk_cell (Law.blk_of (I.2.2.2.2.2.2.2.2.2.2.2.2.2.2.2.1.1)) 1).trans rfl, (blk_cell (Law.blk_of (I.2.2.2.2.2.2.2.2.2.2.2.2.2.2.2.1.1)) 2).trans rfl, (blk_cell (Law.blk_of (I.2.2.2.2.2.2.2.2.2.1.1)) 0).trans rfl, (blk_cell (Law.blk_of (I.2.2.2.2.2.2.2.2.2.1.1)) 1).trans rfl, (blk_cell (Law.blk_of (I.2.2.2.2.2.2.2.2.2.1.1)) 2).trans rfl, (blk_cell (Law.blk_of (I.2.2.2.2.2.2.1.1)) 0).trans rfl, (blk_cell (Law.blk_of (I.2.2.2.2.2.2.1.1)) 1).trans rfl, (blk_cell (Law.blk_of (I.2.2.2.2.2.2.1.1)) 2).trans rfl, (blk_cell (Law.blk_of (I.2.2.1.1)) 0).trans rfl, (blk_cell (Law.blk_of (I.2.2.1.1)) 1).trans rfl, (blk_cell (Law.blk_of (I.2.2.1.1)) 2).trans rfl⟩ (fun hHeld => ?_)
  clear hK K
  refine norm_ (a' := ?_) ?_ ?_
  rotate_left
  · show Act.put _ (some 61) _ = _
    simp only [Act.put, List.setIfInBounds_toArray, List.set_cons_zero, List.set_cons_succ, i64_w, i32_w]
    rfl
  refine pure_ (i := 4) (N := some 62) (v := ?_) (a' := ?_) #[true, true, true, true, true] rfl rfl (by kernel_rfl) (fun _ _ _ h => h) (Or.inl ⟨by rfl, ?_⟩) ?_ ?_
  rotate_left
  · intro w'
    go_simp
    with_reducible rfl
  rotate_left
  · simp only [Act.put, List.setIfInBounds_toArray, List.set_cons_zero, List.set_cons_succ, i64_w, i32_w]
    rfl
  refine done_ (by kernel_rfl) ?_
  go_wp2_with (first
    | ((with_reducible refine gate_callee (f := 56) rfl ?_)
       refine goesL_ (some 65) rfl rfl Try.func56 (by kernel_rfl) rfl #[.slice A1 l1.length c1] rfl (by (try simp only [List.map_toArray, List.map_cons, List.map_nil]); first | done | rfl) ?_
       refine Law.at_world (fun w116 hw1 => ?_)
       have I1 := Law.Inv.to I hw1 (fun I => by (with_reducible repeat (first | apply Law.Inv.alloc | apply Law.Inv.drewN | apply Law.Inv.drew)); exact I)
       have HB1 := Aside0.mk (show Below W.heap.size W w116 by rw [hw1]; repeat (first | (with_reducible first | exact HB.out | apply below_alloc | apply pw_below_drewN | apply below_drew1) | exact HB.out))
       clear I HB hw1
       have I := I1
       have HB := HB1
       clear I1 HB1
       refine (laws_toStepS.calls k A1 c1 l1 r31 w116 ?_ ?_ E32.out).mono ?_
       · exact Kd.C_below hr1 HB.out
       · exact hc1
       rintro e w117 ⟨v118, rfl, hq0, hq1⟩
       refine ⟨_, rfl, ?_⟩
       obtain ⟨Ao119, co120, eo121⟩ := Kd.S_slice hq0
       subst eo121
       have I1 := Law.Inv.below I hq1
       have HB1 := Aside0.mk (below_step HB.out hq1)
       have SZ122 := Aside0.mk (show W.heap.size ≤ w116.heap.size ∧ w102.heap.size ≤ w116.heap.size ∧ w116.heap.size ≤ w117.heap.size from ⟨HB.out.size, I.1.2, hq1.size⟩)
       have I1 := Law.Inv.cons (s := Law.rowsI k71 71 w116.heap.size w116.heap.size w117.heap.size (fun _ => True) (.slice Ao119 r31.length co120) r31) (Law.rowsI_new hq0 (fun _ h => h)) I1
       clear I HB
       have I := I1
       have HB := HB1
       clear I1 HB1
       have hcz_gb1_w117_0 : w117.cell? ⟨gb1, 0, none⟩ = some (.int .i64 a0_0) := (blk_cell (Law.blk_of (I.2.2.2.2.2.2.2.2.2.2.2.2.2.2.2.2.1.1)) 0).trans rfl
       have hfz_gb1_w117_0 := blk_frozen (Law.blk_of (I.2.2.2.2.2.2.2.2.2.2.2.2.2.2.2.2.1.1)) 0
       have hcz_gb1_w117_1 : w117.cell? ⟨gb1, 1, none⟩ = some (.slice A0_1 l0_1.length c0_1) := (blk_cell (Law.blk_of (I.2.2.2.2.2.2.2.2.2.2.2.2.2.2.2.2.1.1)) 1).trans rfl
       have hfz_gb1_w117_1 := blk_frozen (Law.blk_of (I.2.2.2.2.2.2.2.2.2.2.2.2.2.2.2.2.1.1)) 1
       have hcz_gb1_w117_2 : w117.cell? ⟨gb1, 2, none⟩ = some (.slice A0_2 l0_2.length c0_2) := (blk_cell (Law.blk_of (I.2.2.2.2.2.2.2.2.2.2.2.2.2.2.2.2.1.1)) 2).trans rfl
       have hfz_gb1_w117_2 := blk_frozen (Law.blk_of (I.2.2.2.2.2.2.2.2.2.2.2.2.2.2.2.2.1.1)) 2
       have hcz_gb56_w117_0 : w117.cell? ⟨gb56, 0, none⟩ = some (.int .i64 r40) := (blk_cell (Law.blk_of (I.2.2.2.2.2.2.2.2.2.2.1.1)) 0).trans rfl
       have hfz_gb56_w117_0 := blk_frozen (Law.blk_of (I.2.2.2.2.2.2.2.2.2.2.1.1)) 0
       have hcz_gb56_w117_1 : w117.cell? ⟨gb56, 1, none⟩ = some (.slice Ao49 r41.length co50) := (blk_cell (Law.blk_of (I.2.2.2.2.2.2.2.2.2.2.1.1)) 1).trans rfl
       have hfz_gb56_w117_1 := blk_frozen (Law.blk_of (I.2.2.2.2.2.2.2.2.2.2.1.1)) 1
       have hcz_gb56_w117_2 : w117.cell? ⟨gb56, 2, none⟩ = some (.slice Ao52 r42.length co53) := (blk_cell (Law.blk_of (I.2.2.2.2.2.2.2.2.2.2.1.1)) 2).trans rfl
       have hfz_gb56_w117_2 := blk_frozen (Law.blk_of (I.2.2.2.2.2.2.2.2.2.2.1.1)) 2
       have hcz_gb70_w117_0 : w117.cell? ⟨gb70, 0, none⟩ = some (.int .i64 r16) := (blk_cell (Law.blk_of (I.2.2.2.2.2.2.2.1.1)) 0).trans rfl
       have hfz_gb70_w117_0 := blk_frozen (Law.blk_of (I.2.2.2.2.2.2.2.1.1)) 0
       have hcz_gb70_w117_1 : w117.cell? ⟨gb70, 1, none⟩ = some (.slice Ao63 r17.length co64) := (blk_cell (Law.blk_of (I.2.2.2.2.2.2.2.1.1)) 1).trans rfl
       have hfz_gb70_w117_1 := blk_frozen (Law.blk_of (I.2.2.2.2.2.2.2.1.1)) 1
       have hcz_gb70_w117_2 : w117.cell? ⟨gb70, 2, none⟩ = some (.slice Ao66 r18.length co67) := (blk_cell (Law.blk_of (I.2.2.2.2.2.2.2.1.1)) 2).trans rfl
       have hfz_gb70_w117_2 := blk_frozen (Law.blk_of (I.2.2.2.2.2.2.2.1.1)) 2
       have hcz_gb92_w117_0 : w117.cell? ⟨gb92, 0, none⟩ = some (.int .i64 r40) := (blk_cell (Law.blk_of (I.2.2.2.1.1)) 0).trans rfl
       have hfz_gb92_w117_0 := blk_frozen (Law.blk_of (I.2.2.2.1.1)) 0
       have hcz_gb92_w117_1 : w117.cell? ⟨gb92, 1, none⟩ = some (.slice Ao85 r41.length co86) := (blk_cell (Law.blk_of (I.2.2.2.1.1)) 1).trans rfl
       have hfz_gb92_w117_1 := blk_frozen (Law.blk_of (I.2.2.2.1.1)) 1
       have hcz_gb92_w117_2 : w117.cell? ⟨gb92, 2, none⟩ = some (.slice Ao88 r42.length co89) := (blk_cell (Law.blk_of (I.2.2.2.1.1)) 2).trans rfl
       have hfz_gb92_w117_2 := blk_frozen (Law.blk_of (I.2.2.2.1.1)) 2)
    | ((with_reducible refine gate_callee (f := 57) rfl ?_)
       refine goesL_ (some 66) rfl rfl Try.func57 (by kernel_rfl) rfl #[.slice Ao76 r31.length co77, .slice Ao119 r31.length co120] rfl (by (try simp only [List.map_toArray, List.map_cons, List.map_nil]); first | done | rfl) ?_
       refine Law.at_world (fun w124 hw1 => ?_)
       have I1 := Law.Inv.to I hw1 (fun I => by (with_reducible repeat (first | apply Law.Inv.alloc | apply Law.Inv.drewN | apply Law.Inv.drew)); exact I)
       have HB1 := Aside0.mk (show Below W.heap.size W w124 by rw [hw1]; repeat (first | (with_reducible first | exact HB.out | apply below_alloc | apply pw_below_drewN | apply below_drew1) | exact HB.out))
       clear I HB hw1
       have I := I1
       have HB := HB1
       clear I1 HB1
       refine (laws_eqStepS.calls k Ao76 co77 r31 Ao119 co120 r31 true w124 ?_ ?_ ?_ ?_ E123.out).mono ?_
       · exact (Kd.S_reads' (I.2.2.2.2.2.2.1.1)).2.2
       · exact (Kd.S_reads' (I.2.2.2.2.2.2.1.1)).2.1
       · exact (Kd.S_reads' (I.1.1)).2.2
       · exact (Kd.S_reads' (I.1.1)).2.1
       rintro e w125 ⟨rfl, hq0⟩
       refine ⟨_, rfl, ?_⟩
       have I1 := Law.Inv.below I hq0
       have HB1 := Aside0.mk (below_step HB.out hq0)
       have SZ126 := Aside0.mk (show W.heap.size ≤ w124.heap.size ∧ w117.heap.size ≤ w124.heap.size ∧ w124.heap.size ≤ w125.heap.size from ⟨HB.out.size, I.1.2, hq0.size⟩)
       clear I HB
       have I := I1
       have HB := HB1
       clear I1 HB1
       have hcz_gb1_w125_0 : w125.cell? ⟨gb1, 0, none⟩ = some (.int .i64 a0_0) := (blk_cell (Law.blk_of (I.2.2.2.2.2.2.2.2.2.2.2.2.2.2.2.2.1.1)) 0).trans rfl
       have hfz_gb1_w125_0 := blk_frozen (Law.blk_of (I.2.2.2.2.2.2.2.2.2.2.2.2.2.2.2.2.1.1)) 0
       have hcz_gb1_w125_1 : w125.cell? ⟨gb1, 1, none⟩ = some (.slice A0_1 l0_1.length c0_1) := (blk_cell (Law.blk_of (I.2.2.2.2.2.2.2.2.2.2.2.2.2.2.2.2.1.1)) 1).trans rfl
       have hfz_gb1_w125_1 := blk_frozen (Law.blk_of (I.2.2.2.2.2.2.2.2.2.2.2.2.2.2.2.2.1.1)) 1
       have hcz_gb1_w125_2 : w125.cell? ⟨gb1, 2, none⟩ = some (.slice A0_2 l0_2.length c0_2) := (blk_cell (Law.blk_of (I.2.2.2.2.2.2.2.2.2.2.2.2.2.2.2.2.1.1)) 2).trans rfl
       have hfz_gb1_w125_2 := blk_frozen (Law.blk_of (I.2.2.2.2.2.2.2.2.2.2.2.2.2.2.2.2.1.1)) 2
       have hcz_gb56_w125_0 : w125.cell? ⟨gb56, 0, none⟩ = some (.int .i64 r40) := (blk_cell (Law.blk_of (I.2.2.2.2.2.2.2.2.2.2.1.1)) 0).trans rfl
       have hfz_gb56_w125_0 := blk_frozen (Law.blk_of (I.2.2.2.2.2.2.2.2.2.2.1.1)) 0
       have hcz_gb56_w125_1 : w125.cell? ⟨gb56, 1, none⟩ = some (.slice Ao49 r41.length co50) := (blk_cell (Law.blk_of (I.2.2.2.2.2.2.2.2.2.2.1.1)) 1).trans rfl
       have hfz_gb56_w125_1 := blk_frozen (Law.blk_of (I.2.2.2.2.2.2.2.2.2.2.1.1)) 1
       have hcz_gb56_w125_2 : w125.cell? ⟨gb56, 2, none⟩ = some (.slice Ao52 r42.length co53) := (blk_cell (Law.blk_of (I.2.2.2.2.2.2.2.2.2.2.1.1)) 2).trans rfl
       have hfz_gb56_w125_2 := blk_frozen (Law.blk_of (I.2.2.2.2.2.2.2.2.2.2.1.1)) 2
       have hcz_gb70_w125_0 : w125.cell? ⟨gb70, 0, none⟩ = some (.int .i64 r16) := (blk_cell (Law.blk_of (I.2.2.2.2.2.2.2.1.1)) 0).trans rfl
       have hfz_gb70_w125_0 := blk_frozen (Law.blk_of (I.2.2.2.2.2.2.2.1.1)) 0
       have hcz_gb70_w125_1 : w125.cell? ⟨gb70, 1, none⟩ = some (.slice Ao63 r17.length co64) := (blk_cell (Law.blk_of (I.2.2.2.2.2.2.2.1.1)) 1).trans rfl
       have hfz_gb70_w125_1 := blk_frozen (Law.blk_of (I.2.2.2.2.2.2.2.1.1)) 1
       have hcz_gb70_w125_2 : w125.cell? ⟨gb70, 2, none⟩ = some (.slice Ao66 r18.length co67) := (blk_cell (Law.blk_of (I.2.2.2.2.2.2.2.1.1)) 2).trans rfl
       have hfz_gb70_w125_2 := blk_frozen (Law.blk_of (I.2.2.2.2.2.2.2.1.1)) 2
       have hcz_gb92_w125_0 : w125.cell? ⟨gb92, 0, none⟩ = some (.int .i64 r40) := (blk_cell (Law.blk_of (I.2.2.2.1.1)) 0).trans rfl
       have hfz_gb92_w125_0 := blk_frozen (Law.blk_of (I.2.2.2.1.1)) 0
       have hcz_gb92_w125_1 : w125.cell? ⟨gb92, 1, none⟩ = some (.slice Ao85 r41.length co86) := (blk_cell (Law.blk_of (I.2.2.2.1.1)) 1).trans rfl
       have hfz_gb92_w125_1 := blk_frozen (Law.blk_of (I.2.2.2.1.1)) 1
       have hcz_gb92_w125_2 : w125.cell? ⟨gb92, 2, none⟩ = some (.slice Ao88 r42.length co89) := (blk_cell (Law.blk_of (I.2.2.2.1.1)) 2).trans rfl
       have hfz_gb92_w125_2 := blk_frozen (Law.blk_of (I.2.2.2.1.1)) 2)
    | ((with_reducible refine gate_callee (f := 32) rfl ?_)
       refine goesL_ (some 70) rfl rfl Try.func32 (by kernel_rfl) rfl #[.agg #[.int .i64 r16, .slice Ao63 r17.length co64, .slice Ao66 r18.length co67], .int .i64 1] rfl (by (try simp only [List.map_toArray, List.map_cons, List.map_nil]); first | done | rfl) ?_
       refine Law.at_world (fun w131 hw1 => ?_)
       have I1 := Law.Inv.to I hw1 (fun I => by (with_reducible repeat (first | apply Law.Inv.alloc | apply Law.Inv.drewN | apply Law.Inv.drew)); exact I)
       have HB1 := Aside0.mk (show Below W.heap.size W w131 by rw [hw1]; repeat (first | (with_reducible first | exact HB.out | apply below_alloc | apply pw_below_drewN | apply below_drew1) | exact HB.out))
       clear I HB hw1
       have I := I1
       have HB := HB1
       clear I1 HB1
       refine (laws_markDevice.calls k (fun k_ => w59.heap.size ≤ k_ ∧ k_ < w60.heap.size) r16 (.slice Ao63 r17.length co64) r17 (.slice Ao66 r18.length co67) r18 1 r127 r128 r129 W w131 ?_ ?_ ?_ E130.out).mono ?_
       · exact HB.out
       · exact Kd.R_lower (Kd.R_mono (I.2.2.2.2.2.2.2.2.2.1.1) (fun k_ hk => hk.1)) (by have := SZ3.out; have := SZ8.out; have := SZ14.out; have := SZ30.out; have := SZ39.out; have := SZ55.out; have := SZ58.out; have := SZ69.out; have := SZ72.out; have := SZ79.out; have := SZ91.out; have := SZ94.out; have := SZ98.out; have := SZ111.out; have := SZ115.out; have := SZ122.out; have := SZ126.out; first | omega | (simp only [Law.rowI, Law.rowsI, Law.boxI]; omega))
       · exact Kd.S_lower (Kd.S_mono (I.2.2.2.2.2.2.2.2.1.1) (fun k_ hk => ⟨hk.1, hk.2⟩)) (by have := SZ3.out; have := SZ8.out; have := SZ14.out; have := SZ30.out; have := SZ39.out; have := SZ55.out; have := SZ58.out; have := SZ69.out; have := SZ72.out; have := SZ79.out; have := SZ91.out; have := SZ94.out; have := SZ98.out; have := SZ111.out; have := SZ115.out; have := SZ122.out; have := SZ126.out; first | omega | (simp only [Law.rowI, Law.rowsI, Law.boxI]; omega))
       rintro e w132 ⟨rfl, hq0, hq1, hq2, hq3⟩
       refine ⟨_, rfl, ?_⟩
       have SZ133 := Aside0.mk (show W.heap.size ≤ w131.heap.size ∧ w117.heap.size ≤ w131.heap.size ∧ w131.heap.size ≤ w132.heap.size from ⟨HB.out.size, I.1.2, hq3.1⟩)
       have I1 : Law.Inv [Law.rowsI k71 71 w116.heap.size w116.heap.size w117.heap.size (fun _ => True) (.slice Ao119 r31.length co120) r31, Law.rowsI k67 67 w101.heap.size w101.heap.size w102.heap.size (fun k_ => some k_ ≠ (.slice Ao105 r17.length co106 : Value).ownBlock) (.slice Ao108 r18.length co109) r18, Law.rowI (Kd.int .u8) 5 w101.heap.size w101.heap.size w102.heap.size (fun _ => True) (.slice Ao105 r17.length co106) r17, Law.boxI gb92 #[.int .i64 r40, .slice Ao85 r41.length co86, .slice Ao88 r42.length co89] 47, Law.rowsI k67 67 w81.heap.size w81.heap.size w82.heap.size (fun k_ => some k_ ≠ (.slice Ao85 r41.length co86 : Value).ownBlock) (.slice Ao88 r42.length co89) r42, Law.rowI (Kd.int .u8) 5 w81.heap.size w81.heap.size w82.heap.size (fun _ => True) (.slice Ao85 r41.length co86) r41, Law.rowsI k71 71 w73.heap.size w73.heap.size w74.heap.size (fun _ => True) (.slice Ao76 r31.length co77) r31, Law.boxI gb70 #[.int .i64 r16, .slice Ao63 r17.length co64, .slice Ao66 r18.length co67] 47, Law.boxI gb56 #[.int .i64 r40, .slice Ao49 r41.length co50, .slice Ao52 r42.length co53] 47, Law.rowsI k67 67 w45.heap.size w45.heap.size w46.heap.size (fun k_ => some k_ ≠ (.slice Ao49 r41.length co50 : Value).ownBlock) (.slice Ao52 r42.length co53) r42, Law.rowI (Kd.int .u8) 5 w45.heap.size w45.heap.size w46.heap.size (fun _ => True) (.slice Ao49 r41.length co50) r41, Law.rowsI k71 71 w33.heap.size w33.heap.size w34.heap.size (fun _ => True) (.slice Ao36 r31.length co37) r31, Law.rowsI k67 67 w20.heap.size w20.heap.size w21.heap.size (fun k_ => some k_ ≠ (.slice Ao24 r17.length co25 : Value).ownBlock) (.slice Ao27 r18.length co28) r18, Law.rowI (Kd.int .u8) 5 w20.heap.size w20.heap.size w21.heap.size (fun _ => True) (.slice Ao24 r17.length co25) r17, Law.boxI gb1 #[.int .i64 a0_0, .slice A0_1 l0_1.length c0_1, .slice A0_2 l0_2.length c0_2] 41] w132 := Law.Inv.kept (lo := w59.heap.size) (hi := w60.heap.size) hq3 (fun _ h => h) (show Law.Inv [Law.rowsI k71 71 w116.heap.size w116.heap.size w117.heap.size (fun _ => True) (.slice Ao119 r31.length co120) r31, Law.rowsI k67 67 w101.heap.size w101.heap.size w102.heap.size (fun k_ => some k_ ≠ (.slice Ao105 r17.length co106 : Value).ownBlock) (.slice Ao108 r18.length co109) r18, Law.rowI (Kd.int .u8) 5 w101.heap.size w101.heap.size w102.heap.size (fun _ => True) (.slice Ao105 r17.length co106) r17, Law.boxI gb92 #[.int .i64 r40, .slice Ao85 r41.length co86, .slice Ao88 r42.length co89] 47, Law.rowsI k67 67 w81.heap.size w81.heap.size w82.heap.size (fun k_ => some k_ ≠ (.slice Ao85 r41.length co86 : Value).ownBlock) (.slice Ao88 r42.length co89) r42, Law.rowI (Kd.int .u8) 5 w81.heap.size w81.heap.size w82.heap.size (fun _ => True) (.slice Ao85 r41.length co86) r41, Law.rowsI k71 71 w73.heap.size w73.heap.size w74.heap.size (fun _ => True) (.slice Ao76 r31.length co77) r31, Law.boxI gb70 #[.int .i64 r16, .slice Ao63 r17.length co64, .slice Ao66 r18.length co67] 47, Law.boxI gb56 #[.int .i64 r40, .slice Ao49 r41.length co50, .slice Ao52 r42.length co53] 47, Law.rowsI k67 67 w45.heap.size w45.heap.size w46.heap.size (fun k_ => some k_ ≠ (.slice Ao49 r41.length co50 : Value).ownBlock) (.slice Ao52 r42.length co53) r42, Law.rowI (Kd.int .u8) 5 w45.heap.size w45.heap.size w46.heap.size (fun _ => True) (.slice Ao49 r41.length co50) r41, Law.rowsI k71 71 w33.heap.size w33.heap.size w34.heap.size (fun _ => True) (.slice Ao36 r31.length co37) r31, Law.rowsI k67 67 w20.heap.size w20.heap.size w21.heap.size (fun k_ => some k_ ≠ (.slice Ao24 r17.length co25 : Value).ownBlock) (.slice Ao27 r18.length co28) r18, Law.rowI (Kd.int .u8) 5 w20.heap.size w20.heap.size w21.heap.size (fun _ => True) (.slice Ao24 r17.length co25) r17, Law.boxI gb1 #[.int .i64 a0_0, .slice A0_1 l0_1.length c0_1, .slice A0_2 l0_2.length c0_2] 41] w131 from ⟨I.1, I.2.1, I.2.2.1, I.2.2.2.1, I.2.2.2.2.1, I.2.2.2.2.2.1, I.2.2.2.2.2.2.1, I.2.2.2.2.2.2.2.1, I.2.2.2.2.2.2.2.2.2.2.1, I.2.2.2.2.2.2.2.2.2.2.2.1, I.2.2.2.2.2.2.2.2.2.2.2.2.1, I.2.2.2.2.2.2.2.2.2.2.2.2.2.1, I.2.2.2.2.2.2.2.2.2.2.2.2.2.2.1, I.2.2.2.2.2.2.2.2.2.2.2.2.2.2.2.1, I.2.2.2.2.2.2.2.2.2.2.2.2.2.2.2.2.1, trivial⟩) (by have := SZ3.out; have := SZ8.out; have := SZ14.out; have := SZ30.out; have := SZ39.out; have := SZ55.out; have := SZ58.out; have := SZ69.out; have := SZ72.out; have := SZ79.out; have := SZ91.out; have := SZ94.out; have := SZ98.out; have := SZ111.out; have := SZ115.out; have := SZ122.out; have := SZ126.out; have := SZ133.out; refine ⟨?_, ?_, ?_, ?_, ?_, ?_, ?_, ?_, ?_, ?_, ?_, ?_, ?_, ?_, ?_, trivial⟩ <;> simp only [Law.rowI, Law.rowsI, Law.boxI] <;> omega)
       have HB1 := Aside0.mk hq2
       have I1 := Law.Inv.cons (s := Law.rowI (Kd.int .u8) 5 W.heap.size w59.heap.size w60.heap.size (fun _ => True) (.slice Ao63 r17.length co64) r128) ⟨Kd.R_reok rfl hq0 (fun k_ e_ => (I.2.2.2.2.2.2.2.2.2.1.1).1 k_ e_), (by have := SZ3.out; have := SZ8.out; have := SZ14.out; have := SZ30.out; have := SZ39.out; have := SZ55.out; have := SZ58.out; have := SZ69.out; have := SZ72.out; have := SZ79.out; have := SZ91.out; have := SZ94.out; have := SZ98.out; have := SZ111.out; have := SZ115.out; have := SZ122.out; have := SZ126.out; have := SZ133.out; first | omega | (simp only [Law.rowI, Law.rowsI, Law.boxI]; omega))⟩ I1
       have HL134 := Aside0.mk (show r128.length = r17.length from (Kd.R_reads' (I1.1.1)).1.symm)
       have I1 := Law.Inv.cons (s := Law.rowsI k67 67 W.heap.size w59.heap.size w60.heap.size (fun k_ => some k_ ≠ (.slice Ao63 r17.length co64 : Value).ownBlock) (.slice Ao66 r18.length co67) r129) ⟨Kd.S_mono hq1 (fun k_ h_ => by first | exact ⟨h_.1, h_.2⟩ | exact ⟨h_, trivial⟩), (by have := SZ3.out; have := SZ8.out; have := SZ14.out; have := SZ30.out; have := SZ39.out; have := SZ55.out; have := SZ58.out; have := SZ69.out; have := SZ72.out; have := SZ79.out; have := SZ91.out; have := SZ94.out; have := SZ98.out; have := SZ111.out; have := SZ115.out; have := SZ122.out; have := SZ126.out; have := SZ133.out; first | omega | (simp only [Law.rowI, Law.rowsI, Law.boxI]; omega))⟩ I1
       have HL135 := Aside0.mk (show r129.length = r18.length from (Kd.S_reads' (I1.1.1)).1.symm)
       clear I HB
       have I := I1
       have HB := HB1
       clear I1 HB1
       have hcz_gb1_w132_0 : w132.cell? ⟨gb1, 0, none⟩ = some (.int .i64 a0_0) := (blk_cell (Law.blk_of (I.2.2.2.2.2.2.2.2.2.2.2.2.2.2.2.2.1.1)) 0).trans rfl
       have hfz_gb1_w132_0 := blk_frozen (Law.blk_of (I.2.2.2.2.2.2.2.2.2.2.2.2.2.2.2.2.1.1)) 0
       have hcz_gb1_w132_1 : w132.cell? ⟨gb1, 1, none⟩ = some (.slice A0_1 l0_1.length c0_1) := (blk_cell (Law.blk_of (I.2.2.2.2.2.2.2.2.2.2.2.2.2.2.2.2.1.1)) 1).trans rfl
       have hfz_gb1_w132_1 := blk_frozen (Law.blk_of (I.2.2.2.2.2.2.2.2.2.2.2.2.2.2.2.2.1.1)) 1
       have hcz_gb1_w132_2 : w132.cell? ⟨gb1, 2, none⟩ = some (.slice A0_2 l0_2.length c0_2) := (blk_cell (Law.blk_of (I.2.2.2.2.2.2.2.2.2.2.2.2.2.2.2.2.1.1)) 2).trans rfl
       have hfz_gb1_w132_2 := blk_frozen (Law.blk_of (I.2.2.2.2.2.2.2.2.2.2.2.2.2.2.2.2.1.1)) 2
       have hcz_gb56_w132_0 : w132.cell? ⟨gb56, 0, none⟩ = some (.int .i64 r40) := (blk_cell (Law.blk_of (I.2.2.2.2.2.2.2.2.2.2.1.1)) 0).trans rfl
       have hfz_gb56_w132_0 := blk_frozen (Law.blk_of (I.2.2.2.2.2.2.2.2.2.2.1.1)) 0
       have hcz_gb56_w132_1 : w132.cell? ⟨gb56, 1, none⟩ = some (.slice Ao49 r41.length co50) := (blk_cell (Law.blk_of (I.2.2.2.2.2.2.2.2.2.2.1.1)) 1).trans rfl
       have hfz_gb56_w132_1 := blk_frozen (Law.blk_of (I.2.2.2.2.2.2.2.2.2.2.1.1)) 1
       have hcz_gb56_w132_2 : w132.cell? ⟨gb56, 2, none⟩ = some (.slice Ao52 r42.length co53) := (blk_cell (Law.blk_of (I.2.2.2.2.2.2.2.2.2.2.1.1)) 2).trans rfl
       have hfz_gb56_w132_2 := blk_frozen (Law.blk_of (I.2.2.2.2.2.2.2.2.2.2.1.1)) 2
       have hcz_gb70_w132_0 : w132.cell? ⟨gb70, 0, none⟩ = some (.int .i64 r16) := (blk_cell (Law.blk_of (I.2.2.2.2.2.2.2.2.2.1.1)) 0).trans rfl
       have hfz_gb70_w132_0 := blk_frozen (Law.blk_of (I.2.2.2.2.2.2.2.2.2.1.1)) 0
       have hcz_gb70_w132_1 : w132.cell? ⟨gb70, 1, none⟩ = some (.slice Ao63 r17.length co64) := (blk_cell (Law.blk_of (I.2.2.2.2.2.2.2.2.2.1.1)) 1).trans rfl
       have hfz_gb70_w132_1 := blk_frozen (Law.blk_of (I.2.2.2.2.2.2.2.2.2.1.1)) 1
       have hcz_gb70_w132_2 : w132.cell? ⟨gb70, 2, none⟩ = some (.slice Ao66 r18.length co67) := (blk_cell (Law.blk_of (I.2.2.2.2.2.2.2.2.2.1.1)) 2).trans rfl
       have hfz_gb70_w132_2 := blk_frozen (Law.blk_of (I.2.2.2.2.2.2.2.2.2.1.1)) 2
       have hcz_gb92_w132_0 : w132.cell? ⟨gb92, 0, none⟩ = some (.int .i64 r40) := (blk_cell (Law.blk_of (I.2.2.2.2.2.1.1)) 0).trans rfl
       have hfz_gb92_w132_0 := blk_frozen (Law.blk_of (I.2.2.2.2.2.1.1)) 0
       have hcz_gb92_w132_1 : w132.cell? ⟨gb92, 1, none⟩ = some (.slice Ao85 r41.length co86) := (blk_cell (Law.blk_of (I.2.2.2.2.2.1.1)) 1).trans rfl
       have hfz_gb92_w132_1 := blk_frozen (Law.blk_of (I.2.2.2.2.2.1.1)) 1
       have hcz_gb92_w132_2 : w132.cell? ⟨gb92, 2, none⟩ = some (.slice Ao88 r42.length co89) := (blk_cell (Law.blk_of (I.2.2.2.2.2.1.1)) 2).trans rfl
       have hfz_gb92_w132_2 := blk_frozen (Law.blk_of (I.2.2.2.2.2.1.1)) 2)
    | ((with_reducible refine gate_callee (f := 58) rfl ?_)
       refine goesL_ (some 73) rfl rfl Try.func58 (by kernel_rfl) rfl #[.slice Ao76 r31.length co77, .int .i64 r127] rfl (by (try simp only [List.map_toArray, List.map_cons, List.map_nil]); first | done | rfl) ?_
       refine Law.at_world (fun w139 hw1 => ?_)
       have I1 := Law.Inv.to I hw1 (fun I => by (with_reducible repeat (first | apply Law.Inv.alloc | apply Law.Inv.drewN | apply Law.Inv.drew)); exact I)
       have HB1 := Aside0.mk (show Below W.heap.size W w139 by rw [hw1]; repeat (first | (with_reducible first | exact HB.out | apply below_alloc | apply pw_below_drewN | apply below_drew1) | exact HB.out))
       clear I HB hw1
       have I := I1
       have HB := HB1
       clear I1 HB1
       refine (laws_markStepS.calls k (fun k_ => w73.heap.size ≤ k_ ∧ k_ < w74.heap.size) (.slice Ao76 r31.length co77) r31 r127 r136 r137 W w139 ?_ ?_ E138.out).mono ?_
       · exact HB.out
       · exact Kd.S_lower (Kd.S_mono (I.2.2.2.2.2.2.2.2.1.1) (fun k_ hk => hk.1)) (by have := SZ3.out; have := SZ8.out; have := SZ14.out; have := SZ30.out; have := SZ39.out; have := SZ55.out; have := SZ58.out; have := SZ69.out; have := SZ72.out; have := SZ79.out; have := SZ91.out; have := SZ94.out; have := SZ98.out; have := SZ111.out; have := SZ115.out; have := SZ122.out; have := SZ126.out; have := SZ133.out; first | omega | (simp only [Law.rowI, Law.rowsI, Law.boxI]; omega))
       rintro e w140 ⟨rfl, hq0, hq1, hq2⟩
       refine ⟨_, rfl, ?_⟩
       have SZ141 := Aside0.mk (show W.heap.size ≤ w139.heap.size ∧ w117.heap.size ≤ w139.heap.size ∧ w139.heap.size ≤ w140.heap.size from ⟨HB.out.size, I.2.2.1.2, hq2.1⟩)
       have I1 : Law.Inv [Law.rowsI k67 67 W.heap.size w59.heap.size w60.heap.size (fun k_ => some k_ ≠ (.slice Ao63 r17.length co64 : Value).ownBlock) (.slice Ao66 r18.length co67) r129, Law.rowI (Kd.int .u8) 5 W.heap.size w59.heap.size w60.heap.size (fun _ => True) (.slice Ao63 r17.length co64) r128, Law.rowsI k71 71 w116.heap.size w116.heap.size w117.heap.size (fun _ => True) (.slice Ao119 r31.length co120) r31, Law.rowsI k67 67 w101.heap.size w101.heap.size w102.heap.size (fun k_ => some k_ ≠ (.slice Ao105 r17.length co106 : Value).ownBlock) (.slice Ao108 r18.length co109) r18, Law.rowI (Kd.int .u8) 5 w101.heap.size w101.heap.size w102.heap.size (fun _ => True) (.slice Ao105 r17.length co106) r17, Law.boxI gb92 #[.int .i64 r40, .slice Ao85 r41.length co86, .slice Ao88 r42.length co89] 47, Law.rowsI k67 67 w81.heap.size w81.heap.size w82.heap.size (fun k_ => some k_ ≠ (.slice Ao85 r41.length co86 : Value).ownBlock) (.slice Ao88 r42.length co89) r42, Law.rowI (Kd.int .u8) 5 w81.heap.size w81.heap.size w82.heap.size (fun _ => True) (.slice Ao85 r41.length co86) r41, Law.boxI gb70 #[.int .i64 r16, .slice Ao63 r17.length co64, .slice Ao66 r18.length co67] 47, Law.boxI gb56 #[.int .i64 r40, .slice Ao49 r41.length co50, .slice Ao52 r42.length co53] 47, Law.rowsI k67 67 w45.heap.size w45.heap.size w46.heap.size (fun k_ => some k_ ≠ (.slice Ao49 r41.length co50 : Value).ownBlock) (.slice Ao52 r42.length co53) r42, Law.rowI (Kd.int .u8) 5 w45.heap.size w45.heap.size w46.heap.size (fun _ => True) (.slice Ao49 r41.length co50) r41, Law.rowsI k71 71 w33.heap.size w33.heap.size w34.heap.size (fun _ => True) (.slice Ao36 r31.length co37) r31, Law.rowsI k67 67 w20.heap.size w20.heap.size w21.heap.size (fun k_ => some k_ ≠ (.slice Ao24 r17.length co25 : Value).ownBlock) (.slice Ao27 r18.length co28) r18, Law.rowI (Kd.int .u8) 5 w20.heap.size w20.heap.size w21.heap.size (fun _ => True) (.slice Ao24 r17.length co25) r17, Law.boxI gb1 #[.int .i64 a0_0, .slice A0_1 l0_1.length c0_1, .slice A0_2 l0_2.length c0_2] 41] w140 := Law.Inv.kept (lo := w73.heap.size) (hi := w74.heap.size) hq2 (fun _ h => h) (show Law.Inv [Law.rowsI k67 67 W.heap.size w59.heap.size w60.heap.size (fun k_ => some k_ ≠ (.slice Ao63 r17.length co64 : Value).ownBlock) (.slice Ao66 r18.length co67) r129, Law.rowI (Kd.int .u8) 5 W.heap.size w59.heap.size w60.heap.size (fun _ => True) (.slice Ao63 r17.length co64) r128, Law.rowsI k71 71 w116.heap.size w116.heap.size w117.heap.size (fun _ => True) (.slice Ao119 r31.length co120) r31, Law.rowsI k67 67 w101.heap.size w101.heap.size w102.heap.size (fun k_ => some k_ ≠ (.slice Ao105 r17.length co106 : Value).ownBlock) (.slice Ao108 r18.length co109) r18, Law.rowI (Kd.int .u8) 5 w101.heap.size w101.heap.size w102.heap.size (fun _ => True) (.slice Ao105 r17.length co106) r17, Law.boxI gb92 #[.int .i64 r40, .slice Ao85 r41.length co86, .slice Ao88 r42.length co89] 47, Law.rowsI k67 67 w81.heap.size w81.heap.size w82.heap.size (fun k_ => some k_ ≠ (.slice Ao85 r41.length co86 : Value).ownBlock) (.slice Ao88 r42.length co89) r42, Law.rowI (Kd.int .u8) 5 w81.heap.size w81.heap.size w82.heap.size (fun _ => True) (.slice Ao85 r41.length co86) r41, Law.boxI gb70 #[.int .i64 r16, .slice Ao63 r17.length co64, .slice Ao66 r18.length co67] 47, Law.boxI gb56 #[.int .i64 r40, .slice Ao49 r41.length co50, .slice Ao52 r42.length co53] 47, Law.rowsI k67 67 w45.heap.size w45.heap.size w46.heap.size (fun k_ => some k_ ≠ (.slice Ao49 r41.length co50 : Value).ownBlock) (.slice Ao52 r42.length co53) r42, Law.rowI (Kd.int .u8) 5 w45.heap.size w45.heap.size w46.heap.size (fun _ => True) (.slice Ao49 r41.length co50) r41, Law.rowsI k71 71 w33.heap.size w33.heap.size w34.heap.size (fun _ => True) (.slice Ao36 r31.length co37) r31, Law.rowsI k67 67 w20.heap.size w20.heap.size w21.heap.size (fun k_ => some k_ ≠ (.slice Ao24 r17.length co25 : Value).ownBlock) (.slice Ao27 r18.length co28) r18, Law.rowI (Kd.int .u8) 5 w20.heap.size w20.heap.size w21.heap.size (fun _ => True) (.slice Ao24 r17.length co25) r17, Law.boxI gb1 #[.int .i64 a0_0, .slice A0_1 l0_1.length c0_1, .slice A0_2 l0_2.length c0_2] 41] w139 from ⟨I.1, I.2.1, I.2.2.1, I.2.2.2.1, I.2.2.2.2.1, I.2.2.2.2.2.1, I.2.2.2.2.2.2.1, I.2.2.2.2.2.2.2.1, I.2.2.2.2.2.2.2.2.2.1, I.2.2.2.2.2.2.2.2.2.2.1, I.2.2.2.2.2.2.2.2.2.2.2.1, I.2.2.2.2.2.2.2.2.2.2.2.2.1, I.2.2.2.2.2.2.2.2.2.2.2.2.2.1, I.2.2.2.2.2.2.2.2.2.2.2.2.2.2.1, I.2.2.2.2.2.2.2.2.2.2.2.2.2.2.2.1, I.2.2.2.2.2.2.2.2.2.2.2.2.2.2.2.2.1, trivial⟩) (by have := SZ3.out; have := SZ8.out; have := SZ14.out; have := SZ30.out; have := SZ39.out; have := SZ55.out; have := SZ58.out; have := SZ69.out; have := SZ72.out; have := SZ79.out; have := SZ91.out; have := SZ94.out; have := SZ98.out; have := SZ111.out; have := SZ115.out; have := SZ122.out; have := SZ126.out; have := SZ133.out; have := SZ141.out; refine ⟨?_, ?_, ?_, ?_, ?_, ?_, ?_, ?_, ?_, ?_, ?_, ?_, ?_, ?_, ?_, ?_, trivial⟩ <;> simp only [Law.rowI, Law.rowsI, Law.boxI] <;> omega)
       have HB1 := Aside0.mk hq1
       have I1 := Law.Inv.cons (s := Law.rowsI k71 71 W.heap.size w73.heap.size w74.heap.size (fun _ => True) (.slice Ao76 r31.length co77) r137) ⟨Kd.S_mono hq0 (fun k_ h_ => by first | exact ⟨h_.1, h_.2⟩ | exact ⟨h_, trivial⟩), (by have := SZ3.out; have := SZ8.out; have := SZ14.out; have := SZ30.out; have := SZ39.out; have := SZ55.out; have := SZ58.out; have := SZ69.out; have := SZ72.out; have := SZ79.out; have := SZ91.out; have := SZ94.out; have := SZ98.out; have := SZ111.out; have := SZ115.out; have := SZ122.out; have := SZ126.out; have := SZ133.out; have := SZ141.out; first | omega | (simp only [Law.rowI, Law.rowsI, Law.boxI]; omega))⟩ I1
       have HL142 := Aside0.mk (show r137.length = r31.length from (Kd.S_reads' (I1.1.1)).1.symm)
       clear I HB
       have I := I1
       have HB := HB1
       clear I1 HB1
       have hcz_gb1_w140_0 : w140.cell? ⟨gb1, 0, none⟩ = some (.int .i64 a0_0) := (blk_cell (Law.blk_of (I.2.2.2.2.2.2.2.2.2.2.2.2.2.2.2.2.1.1)) 0).trans rfl
       have hfz_gb1_w140_0 := blk_frozen (Law.blk_of (I.2.2.2.2.2.2.2.2.2.2.2.2.2.2.2.2.1.1)) 0
       have hcz_gb1_w140_1 : w140.cell? ⟨gb1, 1, none⟩ = some (.slice A0_1 l0_1.length c0_1) := (blk_cell (Law.blk_of (I.2.2.2.2.2.2.2.2.2.2.2.2.2.2.2.2.1.1)) 1).trans rfl
       have hfz_gb1_w140_1 := blk_frozen (Law.blk_of (I.2.2.2.2.2.2.2.2.2.2.2.2.2.2.2.2.1.1)) 1
       have hcz_gb1_w140_2 : w140.cell? ⟨gb1, 2, none⟩ = some (.slice A0_2 l0_2.length c0_2) := (blk_cell (Law.blk_of (I.2.2.2.2.2.2.2.2.2.2.2.2.2.2.2.2.1.1)) 2).trans rfl
       have hfz_gb1_w140_2 := blk_frozen (Law.blk_of (I.2.2.2.2.2.2.2.2.2.2.2.2.2.2.2.2.1.1)) 2
       have hcz_gb56_w140_0 : w140.cell? ⟨gb56, 0, none⟩ = some (.int .i64 r40) := (blk_cell (Law.blk_of (I.2.2.2.2.2.2.2.2.2.2.1.1)) 0).trans rfl
       have hfz_gb56_w140_0 := blk_frozen (Law.blk_of (I.2.2.2.2.2.2.2.2.2.2.1.1)) 0
       have hcz_gb56_w140_1 : w140.cell? ⟨gb56, 1, none⟩ = some (.slice Ao49 r41.length co50) := (blk_cell (Law.blk_of (I.2.2.2.2.2.2.2.2.2.2.1.1)) 1).trans rfl
       have hfz_gb56_w140_1 := blk_frozen (Law.blk_of (I.2.2.2.2.2.2.2.2.2.2.1.1)) 1
       have hcz_gb56_w140_2 : w140.cell? ⟨gb56, 2, none⟩ = some (.slice Ao52 r42.length co53) := (blk_cell (Law.blk_of (I.2.2.2.2.2.2.2.2.2.2.1.1)) 2).trans rfl
       have hfz_gb56_w140_2 := blk_frozen (Law.blk_of (I.2.2.2.2.2.2.2.2.2.2.1.1)) 2
       have hcz_gb70_w140_0 : w140.cell? ⟨gb70, 0, none⟩ = some (.int .i64 r16) := (blk_cell (Law.blk_of (I.2.2.2.2.2.2.2.2.2.1.1)) 0).trans rfl
       have hfz_gb70_w140_0 := blk_frozen (Law.blk_of (I.2.2.2.2.2.2.2.2.2.1.1)) 0
       have hcz_gb70_w140_1 : w140.cell? ⟨gb70, 1, none⟩ = some (.slice Ao63 r17.length co64) := (blk_cell (Law.blk_of (I.2.2.2.2.2.2.2.2.2.1.1)) 1).trans rfl
       have hfz_gb70_w140_1 := blk_frozen (Law.blk_of (I.2.2.2.2.2.2.2.2.2.1.1)) 1
       have hcz_gb70_w140_2 : w140.cell? ⟨gb70, 2, none⟩ = some (.slice Ao66 r18.length co67) := (blk_cell (Law.blk_of (I.2.2.2.2.2.2.2.2.2.1.1)) 2).trans rfl
       have hfz_gb70_w140_2 := blk_frozen (Law.blk_of (I.2.2.2.2.2.2.2.2.2.1.1)) 2
       have hcz_gb92_w140_0 : w140.cell? ⟨gb92, 0, none⟩ = some (.int .i64 r40) := (blk_cell (Law.blk_of (I.2.2.2.2.2.2.1.1)) 0).trans rfl
       have hfz_gb92_w140_0 := blk_frozen (Law.blk_of (I.2.2.2.2.2.2.1.1)) 0
       have hcz_gb92_w140_1 : w140.cell? ⟨gb92, 1, none⟩ = some (.slice Ao85 r41.length co86) := (blk_cell (Law.blk_of (I.2.2.2.2.2.2.1.1)) 1).trans rfl
       have hfz_gb92_w140_1 := blk_frozen (Law.blk_of (I.2.2.2.2.2.2.1.1)) 1
       have hcz_gb92_w140_2 : w140.cell? ⟨gb92, 2, none⟩ = some (.slice Ao88 r42.length co89) := (blk_cell (Law.blk_of (I.2.2.2.2.2.2.1.1)) 2).trans rfl
       have hfz_gb92_w140_2 := blk_frozen (Law.blk_of (I.2.2.2.2.2.2.1.1)) 2)
    | (go_at_call 31
       refine Law.at_world (fun w144 hw1 => ?_)
       have I1 := Law.Inv.to I hw1 (fun I => by (with_reducible repeat (first | apply Law.Inv.alloc | apply Law.Inv.drewN | apply Law.Inv.drew)); exact I)
       have HB1 := Aside0.mk (show Below W.heap.size W w144 by rw [hw1]; repeat (first | (with_reducible first | exact HB.out | apply below_alloc | apply pw_below_drewN | apply below_drew1) | exact HB.out))
       clear I HB hw1
       have I := I1
       have HB := HB1
       clear I1 HB1
       refine (laws_eqDevice.calls k r40 Ao85 co86 r41 Ao88 co89 r42 r40 Ao49 co50 r41 Ao52 co53 r42 true w144 ?_ ?_ ?_ ?_ ?_ ?_ ?_ ?_ E95.out).mono ?_
       · exact (Kd.R_reads' (I.2.2.2.2.2.2.2.2.1.1)).2.2
       · exact (Kd.R_reads' (I.2.2.2.2.2.2.2.2.1.1)).2.1
       · exact (Kd.S_reads' (I.2.2.2.2.2.2.2.1.1)).2.2
       · exact (Kd.S_reads' (I.2.2.2.2.2.2.2.1.1)).2.1
       · exact (Kd.R_reads' (I.2.2.2.2.2.2.2.2.2.2.2.2.1.1)).2.2
       · exact (Kd.R_reads' (I.2.2.2.2.2.2.2.2.2.2.2.2.1.1)).2.1
       · exact (Kd.S_reads' (I.2.2.2.2.2.2.2.2.2.2.2.1.1)).2.2
       · exact (Kd.S_reads' (I.2.2.2.2.2.2.2.2.2.2.2.1.1)).2.1
       rintro e w145 ⟨rfl, hq0⟩
       have I1 := Law.Inv.below I hq0
       have HB1 := Aside0.mk (below_step HB.out hq0)
       have SZ146 := Aside0.mk (show W.heap.size ≤ w144.heap.size ∧ w117.heap.size ≤ w144.heap.size ∧ w144.heap.size ≤ w145.heap.size from ⟨HB.out.size, I.2.2.2.1.2, hq0.size⟩)
       clear I HB
       have I := I1
       have HB := HB1
       clear I1 HB1
       have hcz_gb1_w145_0 : w145.cell? ⟨gb1, 0, none⟩ = some (.int .i64 a0_0) := (blk_cell (Law.blk_of (I.2.2.2.2.2.2.2.2.2.2.2.2.2.2.2.2.1.1)) 0).trans rfl
       have hfz_gb1_w145_0 := blk_frozen (Law.blk_of (I.2.2.2.2.2.2.2.2.2.2.2.2.2.2.2.2.1.1)) 0
       have hcz_gb1_w145_1 : w145.cell? ⟨gb1, 1, none⟩ = some (.slice A0_1 l0_1.length c0_1) := (blk_cell (Law.blk_of (I.2.2.2.2.2.2.2.2.2.2.2.2.2.2.2.2.1.1)) 1).trans rfl
       have hfz_gb1_w145_1 := blk_frozen (Law.blk_of (I.2.2.2.2.2.2.2.2.2.2.2.2.2.2.2.2.1.1)) 1
       have hcz_gb1_w145_2 : w145.cell? ⟨gb1, 2, none⟩ = some (.slice A0_2 l0_2.length c0_2) := (blk_cell (Law.blk_of (I.2.2.2.2.2.2.2.2.2.2.2.2.2.2.2.2.1.1)) 2).trans rfl
       have hfz_gb1_w145_2 := blk_frozen (Law.blk_of (I.2.2.2.2.2.2.2.2.2.2.2.2.2.2.2.2.1.1)) 2
       have hcz_gb56_w145_0 : w145.cell? ⟨gb56, 0, none⟩ = some (.int .i64 r40) := (blk_cell (Law.blk_of (I.2.2.2.2.2.2.2.2.2.2.1.1)) 0).trans rfl
       have hfz_gb56_w145_0 := blk_frozen (Law.blk_of (I.2.2.2.2.2.2.2.2.2.2.1.1)) 0
       have hcz_gb56_w145_1 : w145.cell? ⟨gb56, 1, none⟩ = some (.slice Ao49 r41.length co50) := (blk_cell (Law.blk_of (I.2.2.2.2.2.2.2.2.2.2.1.1)) 1).trans rfl
       have hfz_gb56_w145_1 := blk_frozen (Law.blk_of (I.2.2.2.2.2.2.2.2.2.2.1.1)) 1
       have hcz_gb56_w145_2 : w145.cell? ⟨gb56, 2, none⟩ = some (.slice Ao52 r42.length co53) := (blk_cell (Law.blk_of (I.2.2.2.2.2.2.2.2.2.2.1.1)) 2).trans rfl
       have hfz_gb56_w145_2 := blk_frozen (Law.blk_of (I.2.2.2.2.2.2.2.2.2.2.1.1)) 2
       have hcz_gb70_w145_0 : w145.cell? ⟨gb70, 0, none⟩ = some (.int .i64 r16) := (blk_cell (Law.blk_of (I.2.2.2.2.2.2.2.2.2.1.1)) 0).trans rfl
       have hfz_gb70_w145_0 := blk_frozen (Law.blk_of (I.2.2.2.2.2.2.2.2.2.1.1)) 0
       have hcz_gb70_w145_1 : w145.cell? ⟨gb70, 1, none⟩ = some (.slice Ao63 r17.length co64) := (blk_cell (Law.blk_of (I.2.2.2.2.2.2.2.2.2.1.1)) 1).trans rfl
       have hfz_gb70_w145_1 := blk_frozen (Law.blk_of (I.2.2.2.2.2.2.2.2.2.1.1)) 1
       have hcz_gb70_w145_2 : w145.cell? ⟨gb70, 2, none⟩ = some (.slice Ao66 r18.length co67) := (blk_cell (Law.blk_of (I.2.2.2.2.2.2.2.2.2.1.1)) 2).trans rfl
       have hfz_gb70_w145_2 := blk_frozen (Law.blk_of (I.2.2.2.2.2.2.2.2.2.1.1)) 2
       have hcz_gb92_w145_0 : w145.cell? ⟨gb92, 0, none⟩ = some (.int .i64 r40) := (blk_cell (Law.blk_of (I.2.2.2.2.2.2.1.1)) 0).trans rfl
       have hfz_gb92_w145_0 := blk_frozen (Law.blk_of (I.2.2.2.2.2.2.1.1)) 0
       have hcz_gb92_w145_1 : w145.cell? ⟨gb92, 1, none⟩ = some (.slice Ao85 r41.length co86) := (blk_cell (Law.blk_of (I.2.2.2.2.2.2.1.1)) 1).trans rfl
       have hfz_gb92_w145_1 := blk_frozen (Law.blk_of (I.2.2.2.2.2.2.1.1)) 1
       have hcz_gb92_w145_2 : w145.cell? ⟨gb92, 2, none⟩ = some (.slice Ao88 r42.length co89) := (blk_cell (Law.blk_of (I.2.2.2.2.2.2.1.1)) 2).trans rfl
       have hfz_gb92_w145_2 := blk_frozen (Law.blk_of (I.2.2.2.2.2.2.1.1)) 2)
    | ((with_reducible refine gate_callee (f := 32) rfl ?_)
       refine goesL_ (some 89) rfl rfl Try.func32 (by kernel_rfl) rfl #[.agg #[.int .i64 r40, .slice Ao85 r41.length co86, .slice Ao88 r42.length co89], .int .i64 1] rfl (by (try simp only [List.map_toArray, List.map_cons, List.map_nil]); first | done | rfl) ?_
       refine Law.at_world (fun w151 hw1 => ?_)
       have I1 := Law.Inv.to I hw1 (fun I => by (with_reducible repeat (first | apply Law.Inv.alloc | apply Law.Inv.drewN | apply Law.Inv.drew)); exact I)
       have HB1 := Aside0.mk (show Below W.heap.size W w151 by rw [hw1]; repeat (first | (with_reducible first | exact HB.out | apply below_alloc | apply pw_below_drewN | apply below_drew1) | exact HB.out))
       clear I HB hw1
       have I := I1
       have HB := HB1
       clear I1 HB1
       refine (laws_markDevice.calls k (fun k_ => w81.heap.size ≤ k_ ∧ k_ < w82.heap.size) r40 (.slice Ao85 r41.length co86) r41 (.slice Ao88 r42.length co89) r42 1 r147 r148 r149 W w151 ?_ ?_ ?_ E150.out).mono ?_
       · exact HB.out
       · exact Kd.R_lower (Kd.R_mono (I.2.2.2.2.2.2.2.2.1.1) (fun k_ hk => hk.1)) (by have := SZ3.out; have := SZ8.out; have := SZ14.out; have := SZ30.out; have := SZ39.out; have := SZ55.out; have := SZ58.out; have := SZ69.out; have := SZ72.out; have := SZ79.out; have := SZ91.out; have := SZ94.out; have := SZ98.out; have := SZ111.out; have := SZ115.out; have := SZ122.out; have := SZ126.out; have := SZ133.out; have := SZ141.out; have := SZ146.out; first | omega | (simp only [Law.rowI, Law.rowsI, Law.boxI]; omega))
       · exact Kd.S_lower (Kd.S_mono (I.2.2.2.2.2.2.2.1.1) (fun k_ hk => ⟨hk.1, hk.2⟩)) (by have := SZ3.out; have := SZ8.out; have := SZ14.out; have := SZ30.out; have := SZ39.out; have := SZ55.out; have := SZ58.out; have := SZ69.out; have := SZ72.out; have := SZ79.out; have := SZ91.out; have := SZ94.out; have := SZ98.out; have := SZ111.out; have := SZ115.out; have := SZ122.out; have := SZ126.out; have := SZ133.out; have := SZ141.out; have := SZ146.out; first | omega | (simp only [Law.rowI, Law.rowsI, Law.boxI]; omega))
       rintro e w152 ⟨rfl, hq0, hq1, hq2, hq3⟩
       refine ⟨_, rfl, ?_⟩
       have SZ153 := Aside0.mk (show W.heap.size ≤ w151.heap.size ∧ w117.heap.size ≤ w151.heap.size ∧ w151.heap.size ≤ w152.heap.size from ⟨HB.out.size, I.2.2.2.1.2, hq3.1⟩)
       have I1 : Law.Inv [Law.rowsI k71 71 W.heap.size w73.heap.size w74.heap.size (fun _ => True) (.slice Ao76 r31.length co77) r137, Law.rowsI k67 67 W.heap.size w59.heap.size w60.heap.size (fun k_ => some k_ ≠ (.slice Ao63 r17.length co64 : Value).ownBlock) (.slice Ao66 r18.length co67) r129, Law.rowI (Kd.int .u8) 5 W.heap.size w59.heap.size w60.heap.size (fun _ => True) (.slice Ao63 r17.length co64) r128, Law.rowsI k71 71 w116.heap.size w116.heap.size w117.heap.size (fun _ => True) (.slice Ao119 r31.length co120) r31, Law.rowsI k67 67 w101.heap.size w101.heap.size w102.heap.size (fun k_ => some k_ ≠ (.slice Ao105 r17.length co106 : Value).ownBlock) (.slice Ao108 r18.length co109) r18, Law.rowI (Kd.int .u8) 5 w101.heap.size w101.heap.size w102.heap.size (fun _ => True) (.slice Ao105 r17.length co106) r17, Law.boxI gb92 #[.int .i64 r40, .slice Ao85 r41.length co86, .slice Ao88 r42.length co89] 47, Law.boxI gb70 #[.int .i64 r16, .slice Ao63 r17.length co64, .slice Ao66 r18.length co67] 47, Law.boxI gb56 #[.int .i64 r40, .slice Ao49 r41.length co50, .slice Ao52 r42.length co53] 47, Law.rowsI k67 67 w45.heap.size w45.heap.size w46.heap.size (fun k_ => some k_ ≠ (.slice Ao49 r41.length co50 : Value).ownBlock) (.slice Ao52 r42.length co53) r42, Law.rowI (Kd.int .u8) 5 w45.heap.size w45.heap.size w46.heap.size (fun _ => True) (.slice Ao49 r41.length co50) r41, Law.rowsI k71 71 w33.heap.size w33.heap.size w34.heap.size (fun _ => True) (.slice Ao36 r31.length co37) r31, Law.rowsI k67 67 w20.heap.size w20.heap.size w21.heap.size (fun k_ => some k_ ≠ (.slice Ao24 r17.length co25 : Value).ownBlock) (.slice Ao27 r18.length co28) r18, Law.rowI (Kd.int .u8) 5 w20.heap.size w20.heap.size w21.heap.size (fun _ => True) (.slice Ao24 r17.length co25) r17, Law.boxI gb1 #[.int .i64 a0_0, .slice A0_1 l0_1.length c0_1, .slice A0_2 l0_2.length c0_2] 41] w152 := Law.Inv.kept (lo := w81.heap.size) (hi := w82.heap.size) hq3 (fun _ h => h) (show Law.Inv [Law.rowsI k71 71 W.heap.size w73.heap.size w74.heap.size (fun _ => True) (.slice Ao76 r31.length co77) r137, Law.rowsI k67 67 W.heap.size w59.heap.size w60.heap.size (fun k_ => some k_ ≠ (.slice Ao63 r17.length co64 : Value).ownBlock) (.slice Ao66 r18.length co67) r129, Law.rowI (Kd.int .u8) 5 W.heap.size w59.heap.size w60.heap.size (fun _ => True) (.slice Ao63 r17.length co64) r128, Law.rowsI k71 71 w116.heap.size w116.heap.size w117.heap.size (fun _ => True) (.slice Ao119 r31.length co120) r31, Law.rowsI k67 67 w101.heap.size w101.heap.size w102.heap.size (fun k_ => some k_ ≠ (.slice Ao105 r17.length co106 : Value).ownBlock) (.slice Ao108 r18.length co109) r18, Law.rowI (Kd.int .u8) 5 w101.heap.size w101.heap.size w102.heap.size (fun _ => True) (.slice Ao105 r17.length co106) r17, Law.boxI gb92 #[.int .i64 r40, .slice Ao85 r41.length co86, .slice Ao88 r42.length co89] 47, Law.boxI gb70 #[.int .i64 r16, .slice Ao63 r17.length co64, .slice Ao66 r18.length co67] 47, Law.boxI gb56 #[.int .i64 r40, .slice Ao49 r41.length co50, .slice Ao52 r42.length co53] 47, Law.rowsI k67 67 w45.heap.size w45.heap.size w46.heap.size (fun k_ => some k_ ≠ (.slice Ao49 r41.length co50 : Value).ownBlock) (.slice Ao52 r42.length co53) r42, Law.rowI (Kd.int .u8) 5 w45.heap.size w45.heap.size w46.heap.size (fun _ => True) (.slice Ao49 r41.length co50) r41, Law.rowsI k71 71 w33.heap.size w33.heap.size w34.heap.size (fun _ => True) (.slice Ao36 r31.length co37) r31, Law.rowsI k67 67 w20.heap.size w20.heap.size w21.heap.size (fun k_ => some k_ ≠ (.slice Ao24 r17.length co25 : Value).ownBlock) (.slice Ao27 r18.length co28) r18, Law.rowI (Kd.int .u8) 5 w20.heap.size w20.heap.size w21.heap.size (fun _ => True) (.slice Ao24 r17.length co25) r17, Law.boxI gb1 #[.int .i64 a0_0, .slice A0_1 l0_1.length c0_1, .slice A0_2 l0_2.length c0_2] 41] w151 from ⟨I.1, I.2.1, I.2.2.1, I.2.2.2.1, I.2.2.2.2.1, I.2.2.2.2.2.1, I.2.2.2.2.2.2.1, I.2.2.2.2.2.2.2.2.2.1, I.2.2.2.2.2.2.2.2.2.2.1, I.2.2.2.2.2.2.2.2.2.2.2.1, I.2.2.2.2.2.2.2.2.2.2.2.2.1, I.2.2.2.2.2.2.2.2.2.2.2.2.2.1, I.2.2.2.2.2.2.2.2.2.2.2.2.2.2.1, I.2.2.2.2.2.2.2.2.2.2.2.2.2.2.2.1, I.2.2.2.2.2.2.2.2.2.2.2.2.2.2.2.2.1, trivial⟩) (by have := SZ3.out; have := SZ8.out; have := SZ14.out; have := SZ30.out; have := SZ39.out; have := SZ55.out; have := SZ58.out; have := SZ69.out; have := SZ72.out; have := SZ79.out; have := SZ91.out; have := SZ94.out; have := SZ98.out; have := SZ111.out; have := SZ115.out; have := SZ122.out; have := SZ126.out; have := SZ133.out; have := SZ141.out; have := SZ146.out; have := SZ153.out; refine ⟨?_, ?_, ?_, ?_, ?_, ?_, ?_, ?_, ?_, ?_, ?_, ?_, ?_, ?_, ?_, trivial⟩ <;> simp only [Law.rowI, Law.rowsI, Law.boxI] <;> omega)
       have HB1 := Aside0.mk hq2
       have I1 := Law.Inv.cons (s := Law.rowI (Kd.int .u8) 5 W.heap.size w81.heap.size w82.heap.size (fun _ => True) (.slice Ao85 r41.length co86) r148) ⟨Kd.R_reok rfl hq0 (fun k_ e_ => (I.2.2.2.2.2.2.2.2.1.1).1 k_ e_), (by have := SZ3.out; have := SZ8.out; have := SZ14.out; have := SZ30.out; have := SZ39.out; have := SZ55.out; have := SZ58.out; have := SZ69.out; have := SZ72.out; have := SZ79.out; have := SZ91.out; have := SZ94.out; have := SZ98.out; have := SZ111.out; have := SZ115.out; have := SZ122.out; have := SZ126.out; have := SZ133.out; have := SZ141.out; have := SZ146.out; have := SZ153.out; first | omega | (simp only [Law.rowI, Law.rowsI, Law.boxI]; omega))⟩ I1
       have HL154 := Aside0.mk (show r148.length = r41.length from (Kd.R_reads' (I1.1.1)).1.symm)
       have I1 := Law.Inv.cons (s := Law.rowsI k67 67 W.heap.size w81.heap.size w82.heap.size (fun k_ => some k_ ≠ (.slice Ao85 r41.length co86 : Value).ownBlock) (.slice Ao88 r42.length co89) r149) ⟨Kd.S_mono hq1 (fun k_ h_ => by first | exact ⟨h_.1, h_.2⟩ | exact ⟨h_, trivial⟩), (by have := SZ3.out; have := SZ8.out; have := SZ14.out; have := SZ30.out; have := SZ39.out; have := SZ55.out; have := SZ58.out; have := SZ69.out; have := SZ72.out; have := SZ79.out; have := SZ91.out; have := SZ94.out; have := SZ98.out; have := SZ111.out; have := SZ115.out; have := SZ122.out; have := SZ126.out; have := SZ133.out; have := SZ141.out; have := SZ146.out; have := SZ153.out; first | omega | (simp only [Law.rowI, Law.rowsI, Law.boxI]; omega))⟩ I1
       have HL155 := Aside0.mk (show r149.length = r42.length from (Kd.S_reads' (I1.1.1)).1.symm)
       clear I HB
       have I := I1
       have HB := HB1
       clear I1 HB1
       have hcz_gb1_w152_0 : w152.cell? ⟨gb1, 0, none⟩ = some (.int .i64 a0_0) := (blk_cell (Law.blk_of (I.2.2.2.2.2.2.2.2.2.2.2.2.2.2.2.2.1.1)) 0).trans rfl
       have hfz_gb1_w152_0 := blk_frozen (Law.blk_of (I.2.2.2.2.2.2.2.2.2.2.2.2.2.2.2.2.1.1)) 0
       have hcz_gb1_w152_1 : w152.cell? ⟨gb1, 1, none⟩ = some (.slice A0_1 l0_1.length c0_1) := (blk_cell (Law.blk_of (I.2.2.2.2.2.2.2.2.2.2.2.2.2.2.2.2.1.1)) 1).trans rfl
       have hfz_gb1_w152_1 := blk_frozen (Law.blk_of (I.2.2.2.2.2.2.2.2.2.2.2.2.2.2.2.2.1.1)) 1
       have hcz_gb1_w152_2 : w152.cell? ⟨gb1, 2, none⟩ = some (.slice A0_2 l0_2.length c0_2) := (blk_cell (Law.blk_of (I.2.2.2.2.2.2.2.2.2.2.2.2.2.2.2.2.1.1)) 2).trans rfl
       have hfz_gb1_w152_2 := blk_frozen (Law.blk_of (I.2.2.2.2.2.2.2.2.2.2.2.2.2.2.2.2.1.1)) 2
       have hcz_gb56_w152_0 : w152.cell? ⟨gb56, 0, none⟩ = some (.int .i64 r40) := (blk_cell (Law.blk_of (I.2.2.2.2.2.2.2.2.2.2.1.1)) 0).trans rfl
       have hfz_gb56_w152_0 := blk_frozen (Law.blk_of (I.2.2.2.2.2.2.2.2.2.2.1.1)) 0
       have hcz_gb56_w152_1 : w152.cell? ⟨gb56, 1, none⟩ = some (.slice Ao49 r41.length co50) := (blk_cell (Law.blk_of (I.2.2.2.2.2.2.2.2.2.2.1.1)) 1).trans rfl
       have hfz_gb56_w152_1 := blk_frozen (Law.blk_of (I.2.2.2.2.2.2.2.2.2.2.1.1)) 1
       have hcz_gb56_w152_2 : w152.cell? ⟨gb56, 2, none⟩ = some (.slice Ao52 r42.length co53) := (blk_cell (Law.blk_of (I.2.2.2.2.2.2.2.2.2.2.1.1)) 2).trans rfl
       have hfz_gb56_w152_2 := blk_frozen (Law.blk_of (I.2.2.2.2.2.2.2.2.2.2.1.1)) 2
       have hcz_gb70_w152_0 : w152.cell? ⟨gb70, 0, none⟩ = some (.int .i64 r16) := (blk_cell (Law.blk_of (I.2.2.2.2.2.2.2.2.2.1.1)) 0).trans rfl
       have hfz_gb70_w152_0 := blk_frozen (Law.blk_of (I.2.2.2.2.2.2.2.2.2.1.1)) 0
       have hcz_gb70_w152_1 : w152.cell? ⟨gb70, 1, none⟩ = some (.slice Ao63 r17.length co64) := (blk_cell (Law.blk_of (I.2.2.2.2.2.2.2.2.2.1.1)) 1).trans rfl
       have hfz_gb70_w152_1 := blk_frozen (Law.blk_of (I.2.2.2.2.2.2.2.2.2.1.1)) 1
       have hcz_gb70_w152_2 : w152.cell? ⟨gb70, 2, none⟩ = some (.slice Ao66 r18.length co67) := (blk_cell (Law.blk_of (I.2.2.2.2.2.2.2.2.2.1.1)) 2).trans rfl
       have hfz_gb70_w152_2 := blk_frozen (Law.blk_of (I.2.2.2.2.2.2.2.2.2.1.1)) 2
       have hcz_gb92_w152_0 : w152.cell? ⟨gb92, 0, none⟩ = some (.int .i64 r40) := (blk_cell (Law.blk_of (I.2.2.2.2.2.2.2.2.1.1)) 0).trans rfl
       have hfz_gb92_w152_0 := blk_frozen (Law.blk_of (I.2.2.2.2.2.2.2.2.1.1)) 0
       have hcz_gb92_w152_1 : w152.cell? ⟨gb92, 1, none⟩ = some (.slice Ao85 r41.length co86) := (blk_cell (Law.blk_of (I.2.2.2.2.2.2.2.2.1.1)) 1).trans rfl
       have hfz_gb92_w152_1 := blk_frozen (Law.blk_of (I.2.2.2.2.2.2.2.2.1.1)) 1
       have hcz_gb92_w152_2 : w152.cell? ⟨gb92, 2, none⟩ = some (.slice Ao88 r42.length co89) := (blk_cell (Law.blk_of (I.2.2.2.2.2.2.2.2.1.1)) 2).trans rfl
       have hfz_gb92_w152_2 := blk_frozen (Law.blk_of (I.2.2.2.2.2.2.2.2.1.1)) 2)
    | ((with_reducible refine gate_callee (f := 40) rfl ?_)
       refine goesL_ (some 92) rfl rfl Try.func40 (by kernel_rfl) rfl #[.agg #[.int .i64 r40, .slice Ao85 r148.length co86, .slice Ao88 r149.length co89], .int .i64 1] rfl (by (try simp only [List.map_toArray, List.map_cons, List.map_nil]); first | done | rfl | (simp only [HL154.out, HL155.out]; first | done | rfl)) ?_
       refine Law.at_world (fun w157 hw1 => ?_)
       have I1 := Law.Inv.to I hw1 (fun I => by (with_reducible repeat (first | apply Law.Inv.alloc | apply Law.Inv.drewN | apply Law.Inv.drew)); exact I)
       have HB1 := Aside0.mk (show Below W.heap.size W w157 by rw [hw1]; repeat (first | (with_reducible first | exact HB.out | apply below_alloc | apply pw_below_drewN | apply below_drew1) | exact HB.out))
       clear I HB hw1
       have I := I1
       have HB := HB1
       clear I1 HB1
       refine (laws_heldDevice.calls k r40 Ao85 co86 r148 Ao88 co89 r149 1 r147 w157 ?_ ?_ ?_ ?_ E156.out).mono ?_
       · have z_ := Kd.R_reads' (I.2.1.1); have e_ := z_.1; rw [e_] at z_; exact z_.2.2
       · have z_ := Kd.R_reads' (I.2.1.1); have e_ := z_.1; rw [e_] at z_; exact z_.2.1
       · have z_ := Kd.S_reads' (I.1.1); have e_ := z_.1; rw [e_] at z_; exact z_.2.2
       · have z_ := Kd.S_reads' (I.1.1); have e_ := z_.1; rw [e_] at z_; exact z_.2.1
       rintro e w158 ⟨rfl, hq0⟩
       refine ⟨_, rfl, ?_⟩
       have I1 := Law.Inv.below I hq0
       have HB1 := Aside0.mk (below_step HB.out hq0)
       have SZ159 := Aside0.mk (show W.heap.size ≤ w157.heap.size ∧ w117.heap.size ≤ w157.heap.size ∧ w157.heap.size ≤ w158.heap.size from ⟨HB.out.size, I.2.2.2.2.2.1.2, hq0.size⟩)
       clear I HB
       have I := I1
       have HB := HB1
       clear I1 HB1
       have hcz_gb1_w158_0 : w158.cell? ⟨gb1, 0, none⟩ = some (.int .i64 a0_0) := (blk_cell (Law.blk_of (I.2.2.2.2.2.2.2.2.2.2.2.2.2.2.2.2.1.1)) 0).trans rfl
       have hfz_gb1_w158_0 := blk_frozen (Law.blk_of (I.2.2.2.2.2.2.2.2.2.2.2.2.2.2.2.2.1.1)) 0
       have hcz_gb1_w158_1 : w158.cell? ⟨gb1, 1, none⟩ = some (.slice A0_1 l0_1.length c0_1) := (blk_cell (Law.blk_of (I.2.2.2.2.2.2.2.2.2.2.2.2.2.2.2.2.1.1)) 1).trans rfl
       have hfz_gb1_w158_1 := blk_frozen (Law.blk_of (I.2.2.2.2.2.2.2.2.2.2.2.2.2.2.2.2.1.1)) 1
       have hcz_gb1_w158_2 : w158.cell? ⟨gb1, 2, none⟩ = some (.slice A0_2 l0_2.length c0_2) := (blk_cell (Law.blk_of (I.2.2.2.2.2.2.2.2.2.2.2.2.2.2.2.2.1.1)) 2).trans rfl
       have hfz_gb1_w158_2 := blk_frozen (Law.blk_of (I.2.2.2.2.2.2.2.2.2.2.2.2.2.2.2.2.1.1)) 2
       have hcz_gb56_w158_0 : w158.cell? ⟨gb56, 0, none⟩ = some (.int .i64 r40) := (blk_cell (Law.blk_of (I.2.2.2.2.2.2.2.2.2.2.1.1)) 0).trans rfl
       have hfz_gb56_w158_0 := blk_frozen (Law.blk_of (I.2.2.2.2.2.2.2.2.2.2.1.1)) 0
       have hcz_gb56_w158_1 : w158.cell? ⟨gb56, 1, none⟩ = some (.slice Ao49 r41.length co50) := (blk_cell (Law.blk_of (I.2.2.2.2.2.2.2.2.2.2.1.1)) 1).trans rfl
       have hfz_gb56_w158_1 := blk_frozen (Law.blk_of (I.2.2.2.2.2.2.2.2.2.2.1.1)) 1
       have hcz_gb56_w158_2 : w158.cell? ⟨gb56, 2, none⟩ = some (.slice Ao52 r42.length co53) := (blk_cell (Law.blk_of (I.2.2.2.2.2.2.2.2.2.2.1.1)) 2).trans rfl
       have hfz_gb56_w158_2 := blk_frozen (Law.blk_of (I.2.2.2.2.2.2.2.2.2.2.1.1)) 2
       have hcz_gb70_w158_0 : w158.cell? ⟨gb70, 0, none⟩ = some (.int .i64 r16) := (blk_cell (Law.blk_of (I.2.2.2.2.2.2.2.2.2.1.1)) 0).trans rfl
       have hfz_gb70_w158_0 := blk_frozen (Law.blk_of (I.2.2.2.2.2.2.2.2.2.1.1)) 0
       have hcz_gb70_w158_1 : w158.cell? ⟨gb70, 1, none⟩ = some (.slice Ao63 r17.length co64) := (blk_cell (Law.blk_of (I.2.2.2.2.2.2.2.2.2.1.1)) 1).trans rfl
       have hfz_gb70_w158_1 := blk_frozen (Law.blk_of (I.2.2.2.2.2.2.2.2.2.1.1)) 1
       have hcz_gb70_w158_2 : w158.cell? ⟨gb70, 2, none⟩ = some (.slice Ao66 r18.length co67) := (blk_cell (Law.blk_of (I.2.2.2.2.2.2.2.2.2.1.1)) 2).trans rfl
       have hfz_gb70_w158_2 := blk_frozen (Law.blk_of (I.2.2.2.2.2.2.2.2.2.1.1)) 2
       have hcz_gb92_w158_0 : w158.cell? ⟨gb92, 0, none⟩ = some (.int .i64 r40) := (blk_cell (Law.blk_of (I.2.2.2.2.2.2.2.2.1.1)) 0).trans rfl
       have hfz_gb92_w158_0 := blk_frozen (Law.blk_of (I.2.2.2.2.2.2.2.2.1.1)) 0
       have hcz_gb92_w158_1 : w158.cell? ⟨gb92, 1, none⟩ = some (.slice Ao85 r41.length co86) := (blk_cell (Law.blk_of (I.2.2.2.2.2.2.2.2.1.1)) 1).trans rfl
       have hfz_gb92_w158_1 := blk_frozen (Law.blk_of (I.2.2.2.2.2.2.2.2.1.1)) 1
       have hcz_gb92_w158_2 : w158.cell? ⟨gb92, 2, none⟩ = some (.slice Ao88 r42.length co89) := (blk_cell (Law.blk_of (I.2.2.2.2.2.2.2.2.1.1)) 2).trans rfl
       have hfz_gb92_w158_2 := blk_frozen (Law.blk_of (I.2.2.2.2.2.2.2.2.1.1)) 2)
    | ((with_reducible refine gate_callee (f := 28) rfl ?_)
       refine goesL_ (some 100) rfl rfl Try.func28 (by kernel_rfl) rfl #[.agg #[.int .i64 a0_0, .slice A0_1 l0_1.length c0_1, .slice A0_2 l0_2.length c0_2]] rfl (by (try simp only [List.map_toArray, List.map_cons, List.map_nil]); first | done | rfl) ?_
       refine Law.at_world (fun w161 hw1 => ?_)
       have I1 := Law.Inv.to I hw1 (fun I => by (with_reducible repeat (first | apply Law.Inv.alloc | apply Law.Inv.drewN | apply Law.Inv.drew)); exact I)
       have HB1 := Aside0.mk (show Below W.heap.size W w161 by rw [hw1]; repeat (first | (with_reducible first | exact HB.out | apply below_alloc | apply pw_below_drewN | apply below_drew1) | exact HB.out))
       clear I HB hw1
       have I := I1
       have HB := HB1
       clear I1 HB1
       refine (laws_toDevice.calls k a0_0 A0_1 c0_1 l0_1 A0_2 c0_2 l0_2 r16 r17 r18 w161 ?_ ?_ ?_ ?_ E19.out).mono ?_
       · exact Kd.C_below hr0_1 HB.out
       · exact hc0_1
       · exact Kd.C_below hr0_2 HB.out
       · exact hc0_2
       rintro e w162 ⟨v163, v164, rfl, hq0, hq1, hq2⟩
       refine ⟨_, rfl, ?_⟩
       obtain ⟨Ao165, co166, eo167⟩ := Kd.R_slice hq0
       subst eo167
       obtain ⟨Ao168, co169, eo170⟩ := Kd.S_slice hq1
       subst eo170
       have I1 := Law.Inv.below I hq2
       have HB1 := Aside0.mk (below_step HB.out hq2)
       have SZ171 := Aside0.mk (show W.heap.size ≤ w161.heap.size ∧ w117.heap.size ≤ w161.heap.size ∧ w161.heap.size ≤ w162.heap.size from ⟨HB.out.size, I.2.2.2.2.2.1.2, hq2.size⟩)
       have I1 := Law.Inv.cons (s := Law.rowI (Kd.int .u8) 5 w161.heap.size w161.heap.size w162.heap.size (fun _ => True) (.slice Ao165 r17.length co166) r17) (Law.rowI_new hq0 (fun _ h => h)) I1
       have I1 := Law.Inv.cons (s := Law.rowsI k67 67 w161.heap.size w161.heap.size w162.heap.size (fun k_ => some k_ ≠ (.slice Ao165 r17.length co166 : Value).ownBlock) (.slice Ao168 r18.length co169) r18) (Law.rowsI_new hq1 (fun _ h => h)) I1
       clear I HB
       have I := I1
       have HB := HB1
       clear I1 HB1
       have hcz_gb1_w162_0 : w162.cell? ⟨gb1, 0, none⟩ = some (.int .i64 a0_0) := (blk_cell (Law.blk_of (I.2.2.2.2.2.2.2.2.2.2.2.2.2.2.2.2.2.2.1.1)) 0).trans rfl
       have hfz_gb1_w162_0 := blk_frozen (Law.blk_of (I.2.2.2.2.2.2.2.2.2.2.2.2.2.2.2.2.2.2.1.1)) 0
       have hcz_gb1_w162_1 : w162.cell? ⟨gb1, 1, none⟩ = some (.slice A0_1 l0_1.length c0_1) := (blk_cell (Law.blk_of (I.2.2.2.2.2.2.2.2.2.2.2.2.2.2.2.2.2.2.1.1)) 1).trans rfl
       have hfz_gb1_w162_1 := blk_frozen (Law.blk_of (I.2.2.2.2.2.2.2.2.2.2.2.2.2.2.2.2.2.2.1.1)) 1
       have hcz_gb1_w162_2 : w162.cell? ⟨gb1, 2, none⟩ = some (.slice A0_2 l0_2.length c0_2) := (blk_cell (Law.blk_of (I.2.2.2.2.2.2.2.2.2.2.2.2.2.2.2.2.2.2.1.1)) 2).trans rfl
       have hfz_gb1_w162_2 := blk_frozen (Law.blk_of (I.2.2.2.2.2.2.2.2.2.2.2.2.2.2.2.2.2.2.1.1)) 2
       have hcz_gb56_w162_0 : w162.cell? ⟨gb56, 0, none⟩ = some (.int .i64 r40) := (blk_cell (Law.blk_of (I.2.2.2.2.2.2.2.2.2.2.2.2.1.1)) 0).trans rfl
       have hfz_gb56_w162_0 := blk_frozen (Law.blk_of (I.2.2.2.2.2.2.2.2.2.2.2.2.1.1)) 0
       have hcz_gb56_w162_1 : w162.cell? ⟨gb56, 1, none⟩ = some (.slice Ao49 r41.length co50) := (blk_cell (Law.blk_of (I.2.2.2.2.2.2.2.2.2.2.2.2.1.1)) 1).trans rfl
       have hfz_gb56_w162_1 := blk_frozen (Law.blk_of (I.2.2.2.2.2.2.2.2.2.2.2.2.1.1)) 1
       have hcz_gb56_w162_2 : w162.cell? ⟨gb56, 2, none⟩ = some (.slice Ao52 r42.length co53) := (blk_cell (Law.blk_of (I.2.2.2.2.2.2.2.2.2.2.2.2.1.1)) 2).trans rfl
       have hfz_gb56_w162_2 := blk_frozen (Law.blk_of (I.2.2.2.2.2.2.2.2.2.2.2.2.1.1)) 2
       have hcz_gb70_w162_0 : w162.cell? ⟨gb70, 0, none⟩ = some (.int .i64 r16) := (blk_cell (Law.blk_of (I.2.2.2.2.2.2.2.2.2.2.2.1.1)) 0).trans rfl
       have hfz_gb70_w162_0 := blk_frozen (Law.blk_of (I.2.2.2.2.2.2.2.2.2.2.2.1.1)) 0
       have hcz_gb70_w162_1 : w162.cell? ⟨gb70, 1, none⟩ = some (.slice Ao63 r17.length co64) := (blk_cell (Law.blk_of (I.2.2.2.2.2.2.2.2.2.2.2.1.1)) 1).trans rfl
       have hfz_gb70_w162_1 := blk_frozen (Law.blk_of (I.2.2.2.2.2.2.2.2.2.2.2.1.1)) 1
       have hcz_gb70_w162_2 : w162.cell? ⟨gb70, 2, none⟩ = some (.slice Ao66 r18.length co67) := (blk_cell (Law.blk_of (I.2.2.2.2.2.2.2.2.2.2.2.1.1)) 2).trans rfl
       have hfz_gb70_w162_2 := blk_frozen (Law.blk_of (I.2.2.2.2.2.2.2.2.2.2.2.1.1)) 2
       have hcz_gb92_w162_0 : w162.cell? ⟨gb92, 0, none⟩ = some (.int .i64 r40) := (blk_cell (Law.blk_of (I.2.2.2.2.2.2.2.2.2.2.1.1)) 0).trans rfl
       have hfz_gb92_w162_0 := blk_frozen (Law.blk_of (I.2.2.2.2.2.2.2.2.2.2.1.1)) 0
       have hcz_gb92_w162_1 : w162.cell? ⟨gb92, 1, none⟩ = some (.slice Ao85 r41.length co86) := (blk_cell (Law.blk_of (I.2.2.2.2.2.2.2.2.2.2.1.1)) 1).trans rfl
       have hfz_gb92_w162_1 := blk_frozen (Law.blk_of (I.2.2.2.2.2.2.2.2.2.2.1.1)) 1
       have hcz_gb92_w162_2 : w162.cell? ⟨gb92, 2, none⟩ = some (.slice Ao88 r42.length co89) := (blk_cell (Law.blk_of (I.2.2.2.2.2.2.2.2.2.2.1.1)) 2).trans rfl
       have hfz_gb92_w162_2 := blk_frozen (Law.blk_of (I.2.2.2.2.2.2.2.2.2.2.1.1)) 2)
    | ((with_reducible refine gate_callee (f := 56) rfl ?_)
       refine goesL_ (some 102) rfl rfl Try.func56 (by kernel_rfl) rfl #[.slice A1 l1.length c1] rfl (by (try simp only [List.map_toArray, List.map_cons, List.map_nil]); first | done | rfl) ?_
       refine Law.at_world (fun w172 hw1 => ?_)
       have I1 := Law.Inv.to I hw1 (fun I => by (with_reducible repeat (first | apply Law.Inv.alloc | apply Law.Inv.drewN | apply Law.Inv.drew)); exact I)
       have HB1 := Aside0.mk (show Below W.heap.size W w172 by rw [hw1]; repeat (first | (with_reducible first | exact HB.out | apply below_alloc | apply pw_below_drewN | apply below_drew1) | exact HB.out))
       clear I HB hw1
       have I := I1
       have HB := HB1
       clear I1 HB1
       refine (laws_toStepS.calls k A1 c1 l1 r31 w172 ?_ ?_ E32.out).mono ?_
       · exact Kd.C_below hr1 HB.out
       · exact hc1
       rintro e w173 ⟨v174, rfl, hq0, hq1⟩
       refine ⟨_, rfl, ?_⟩
       obtain ⟨Ao175, co176, eo177⟩ := Kd.S_slice hq0
       subst eo177
       have I1 := Law.Inv.below I hq1
       have HB1 := Aside0.mk (below_step HB.out hq1)
       have SZ178 := Aside0.mk (show W.heap.size ≤ w172.heap.size ∧ w162.heap.size ≤ w172.heap.size ∧ w172.heap.size ≤ w173.heap.size from ⟨HB.out.size, I.1.2, hq1.size⟩)
       have I1 := Law.Inv.cons (s := Law.rowsI k71 71 w172.heap.size w172.heap.size w173.heap.size (fun _ => True) (.slice Ao175 r31.length co176) r31) (Law.rowsI_new hq0 (fun _ h => h)) I1
       clear I HB
       have I := I1
       have HB := HB1
       clear I1 HB1
       have hcz_gb1_w173_0 : w173.cell? ⟨gb1, 0, none⟩ = some (.int .i64 a0_0) := (blk_cell (Law.blk_of (I.2.2.2.2.2.2.2.2.2.2.2.2.2.2.2.2.2.2.2.1.1)) 0).trans rfl
       have hfz_gb1_w173_0 := blk_frozen (Law.blk_of (I.2.2.2.2.2.2.2.2.2.2.2.2.2.2.2.2.2.2.2.1.1)) 0
       have hcz_gb1_w173_1 : w173.cell? ⟨gb1, 1, none⟩ = some (.slice A0_1 l0_1.length c0_1) := (blk_cell (Law.blk_of (I.2.2.2.2.2.2.2.2.2.2.2.2.2.2.2.2.2.2.2.1.1)) 1).trans rfl
       have hfz_gb1_w173_1 := blk_frozen (Law.blk_of (I.2.2.2.2.2.2.2.2.2.2.2.2.2.2.2.2.2.2.2.1.1)) 1
       have hcz_gb1_w173_2 : w173.cell? ⟨gb1, 2, none⟩ = some (.slice A0_2 l0_2.length c0_2) := (blk_cell (Law.blk_of (I.2.2.2.2.2.2.2.2.2.2.2.2.2.2.2.2.2.2.2.1.1)) 2).trans rfl
       have hfz_gb1_w173_2 := blk_frozen (Law.blk_of (I.2.2.2.2.2.2.2.2.2.2.2.2.2.2.2.2.2.2.2.1.1)) 2
       have hcz_gb56_w173_0 : w173.cell? ⟨gb56, 0, none⟩ = some (.int .i64 r40) := (blk_cell (Law.blk_of (I.2.2.2.2.2.2.2.2.2.2.2.2.2.1.1)) 0).trans rfl
       have hfz_gb56_w173_0 := blk_frozen (Law.blk_of (I.2.2.2.2.2.2.2.2.2.2.2.2.2.1.1)) 0
       have hcz_gb56_w173_1 : w173.cell? ⟨gb56, 1, none⟩ = some (.slice Ao49 r41.length co50) := (blk_cell (Law.blk_of (I.2.2.2.2.2.2.2.2.2.2.2.2.2.1.1)) 1).trans rfl
       have hfz_gb56_w173_1 := blk_frozen (Law.blk_of (I.2.2.2.2.2.2.2.2.2.2.2.2.2.1.1)) 1
       have hcz_gb56_w173_2 : w173.cell? ⟨gb56, 2, none⟩ = some (.slice Ao52 r42.length co53) := (blk_cell (Law.blk_of (I.2.2.2.2.2.2.2.2.2.2.2.2.2.1.1)) 2).trans rfl
       have hfz_gb56_w173_2 := blk_frozen (Law.blk_of (I.2.2.2.2.2.2.2.2.2.2.2.2.2.1.1)) 2
       have hcz_gb70_w173_0 : w173.cell? ⟨gb70, 0, none⟩ = some (.int .i64 r16) := (blk_cell (Law.blk_of (I.2.2.2.2.2.2.2.2.2.2.2.2.1.1)) 0).trans rfl
       have hfz_gb70_w173_0 := blk_frozen (Law.blk_of (I.2.2.2.2.2.2.2.2.2.2.2.2.1.1)) 0
       have hcz_gb70_w173_1 : w173.cell? ⟨gb70, 1, none⟩ = some (.slice Ao63 r17.length co64) := (blk_cell (Law.blk_of (I.2.2.2.2.2.2.2.2.2.2.2.2.1.1)) 1).trans rfl
       have hfz_gb70_w173_1 := blk_frozen (Law.blk_of (I.2.2.2.2.2.2.2.2.2.2.2.2.1.1)) 1
       have hcz_gb70_w173_2 : w173.cell? ⟨gb70, 2, none⟩ = some (.slice Ao66 r18.length co67) := (blk_cell (Law.blk_of (I.2.2.2.2.2.2.2.2.2.2.2.2.1.1)) 2).trans rfl
       have hfz_gb70_w173_2 := blk_frozen (Law.blk_of (I.2.2.2.2.2.2.2.2.2.2.2.2.1.1)) 2
       have hcz_gb92_w173_0 : w173.cell? ⟨gb92, 0, none⟩ = some (.int .i64 r40) := (blk_cell (Law.blk_of (I.2.2.2.2.2.2.2.2.2.2.2.1.1)) 0).trans rfl
       have hfz_gb92_w173_0 := blk_frozen (Law.blk_of (I.2.2.2.2.2.2.2.2.2.2.2.1.1)) 0
       have hcz_gb92_w173_1 : w173.cell? ⟨gb92, 1, none⟩ = some (.slice Ao85 r41.length co86) := (blk_cell (Law.blk_of (I.2.2.2.2.2.2.2.2.2.2.2.1.1)) 1).trans rfl
       have hfz_gb92_w173_1 := blk_frozen (Law.blk_of (I.2.2.2.2.2.2.2.2.2.2.2.1.1)) 1
       have hcz_gb92_w173_2 : w173.cell? ⟨gb92, 2, none⟩ = some (.slice Ao88 r42.length co89) := (blk_cell (Law.blk_of (I.2.2.2.2.2.2.2.2.2.2.2.1.1)) 2).trans rfl
       have hfz_gb92_w173_2 := blk_frozen (Law.blk_of (I.2.2.2.2.2.2.2.2.2.2.2.1.1)) 2)
    | ((with_reducible refine gate_callee (f := 47) rfl ?_)
       refine goesL_ (some 104) rfl rfl Try.func47 (by kernel_rfl) rfl #[.agg #[.int .i64 r16, .slice Ao165 r17.length co166, .slice Ao168 r18.length co169], .slice Ao175 r31.length co176, .int .i64 a2] rfl (by (try simp only [List.map_toArray, List.map_cons, List.map_nil]); first | done | rfl) ?_
       refine Law.at_world (fun w179 hw1 => ?_)
       have I1 := Law.Inv.to I hw1 (fun I => by (with_reducible repeat (first | apply Law.Inv.alloc | apply Law.Inv.drewN | apply Law.Inv.drew)); exact I)
       have HB1 := Aside0.mk (show Below W.heap.size W w179 by rw [hw1]; repeat (first | (with_reducible first | exact HB.out | apply below_alloc | apply pw_below_drewN | apply below_drew1) | exact HB.out))
       clear I HB hw1
       have I := I1
       have HB := HB1
       clear I1 HB1
       refine (impl_DevApply.calls k r16 Ao165 co166 r17 Ao168 co169 r18 Ao175 co176 r31 a2 r40 r41 r42 r43 w179 ?_ ?_ ?_ ?_ ?_ ?_ E80.out).mono ?_
       · exact (Kd.R_reads' (I.2.2.1.1)).2.2
       · exact (Kd.R_reads' (I.2.2.1.1)).2.1
       · exact (Kd.S_reads' (I.2.1.1)).2.2
       · exact (Kd.S_reads' (I.2.1.1)).2.1
       · exact (Kd.S_reads' (I.1.1)).2.2
       · exact (Kd.S_reads' (I.1.1)).2.1
       rintro e w180 ⟨v181, v182, rfl, hq0, hq1, hq2⟩
       refine ⟨_, rfl, ?_⟩
       obtain ⟨Ao183, co184, eo185⟩ := Kd.R_slice hq0
       subst eo185
       obtain ⟨Ao186, co187, eo188⟩ := Kd.S_slice hq1
       subst eo188
       have I1 := Law.Inv.below I hq2
       have HB1 := Aside0.mk (below_step HB.out hq2)
       have SZ189 := Aside0.mk (show W.heap.size ≤ w179.heap.size ∧ w173.heap.size ≤ w179.heap.size ∧ w179.heap.size ≤ w180.heap.size from ⟨HB.out.size, I.1.2, hq2.size⟩)
       have I1 := Law.Inv.cons (s := Law.rowI (Kd.int .u8) 5 w179.heap.size w179.heap.size w180.heap.size (fun _ => True) (.slice Ao183 r41.length co184) r41) (Law.rowI_new hq0 (fun _ h => h)) I1
       have I1 := Law.Inv.cons (s := Law.rowsI k67 67 w179.heap.size w179.heap.size w180.heap.size (fun k_ => some k_ ≠ (.slice Ao183 r41.length co184 : Value).ownBlock) (.slice Ao186 r42.length co187) r42) (Law.rowsI_new hq1 (fun _ h => h)) I1
       clear I HB
       have I := I1
       have HB := HB1
       clear I1 HB1
       have hcz_gb1_w180_0 : w180.cell? ⟨gb1, 0, none⟩ = some (.int .i64 a0_0) := (blk_cell (Law.blk_of (I.2.2.2.2.2.2.2.2.2.2.2.2.2.2.2.2.2.2.2.2.2.1.1)) 0).trans rfl
       have hfz_gb1_w180_0 := blk_frozen (Law.blk_of (I.2.2.2.2.2.2.2.2.2.2.2.2.2.2.2.2.2.2.2.2.2.1.1)) 0
       have hcz_gb1_w180_1 : w180.cell? ⟨gb1, 1, none⟩ = some (.slice A0_1 l0_1.length c0_1) := (blk_cell (Law.blk_of (I.2.2.2.2.2.2.2.2.2.2.2.2.2.2.2.2.2.2.2.2.2.1.1)) 1).trans rfl
       have hfz_gb1_w180_1 := blk_frozen (Law.blk_of (I.2.2.2.2.2.2.2.2.2.2.2.2.2.2.2.2.2.2.2.2.2.1.1)) 1
       have hcz_gb1_w180_2 : w180.cell? ⟨gb1, 2, none⟩ = some (.slice A0_2 l0_2.length c0_2) := (blk_cell (Law.blk_of (I.2.2.2.2.2.2.2.2.2.2.2.2.2.2.2.2.2.2.2.2.2.1.1)) 2).trans rfl
       have hfz_gb1_w180_2 := blk_frozen (Law.blk_of (I.2.2.2.2.2.2.2.2.2.2.2.2.2.2.2.2.2.2.2.2.2.1.1)) 2
       have hcz_gb56_w180_0 : w180.cell? ⟨gb56, 0, none⟩ = some (.int .i64 r40) := (blk_cell (Law.blk_of (I.2.2.2.2.2.2.2.2.2.2.2.2.2.2.2.1.1)) 0).trans rfl
       have hfz_gb56_w180_0 := blk_frozen (Law.blk_of (I.2.2.2.2.2.2.2.2.2.2.2.2.2.2.2.1.1)) 0
       have hcz_gb56_w180_1 : w180.cell? ⟨gb56, 1, none⟩ = some (.slice Ao49 r41.length co50) := (blk_cell (Law.blk_of (I.2.2.2.2.2.2.2.2.2.2.2.2.2.2.2.1.1)) 1).trans rfl
       have hfz_gb56_w180_1 := blk_frozen (Law.blk_of (I.2.2.2.2.2.2.2.2.2.2.2.2.2.2.2.1.1)) 1
       have hcz_gb56_w180_2 : w180.cell? ⟨gb56, 2, none⟩ = some (.slice Ao52 r42.length co53) := (blk_cell (Law.blk_of (I.2.2.2.2.2.2.2.2.2.2.2.2.2.2.2.1.1)) 2).trans rfl
       have hfz_gb56_w180_2 := blk_frozen (Law.blk_of (I.2.2.2.2.2.2.2.2.2.2.2.2.2.2.2.1.1)) 2
       have hcz_gb70_w180_0 : w180.cell? ⟨gb70, 0, none⟩ = some (.int .i64 r16) := (blk_cell (Law.blk_of (I.2.2.2.2.2.2.2.2.2.2.2.2.2.2.1.1)) 0).trans rfl
       have hfz_gb70_w180_0 := blk_frozen (Law.blk_of (I.2.2.2.2.2.2.2.2.2.2.2.2.2.2.1.1)) 0
       have hcz_gb70_w180_1 : w180.cell? ⟨gb70, 1, none⟩ = some (.slice Ao63 r17.length co64) := (blk_cell (Law.blk_of (I.2.2.2.2.2.2.2.2.2.2.2.2.2.2.1.1)) 1).trans rfl
       have hfz_gb70_w180_1 := blk_frozen (Law.blk_of (I.2.2.2.2.2.2.2.2.2.2.2.2.2.2.1.1)) 1
       have hcz_gb70_w180_2 : w180.cell? ⟨gb70, 2, none⟩ = some (.slice Ao66 r18.length co67) := (blk_cell (Law.blk_of (I.2.2.2.2.2.2.2.2.2.2.2.2.2.2.1.1)) 2).trans rfl
       have hfz_gb70_w180_2 := blk_frozen (Law.blk_of (I.2.2.2.2.2.2.2.2.2.2.2.2.2.2.1.1)) 2
       have hcz_gb92_w180_0 : w180.cell? ⟨gb92, 0, none⟩ = some (.int .i64 r40) := (blk_cell (Law.blk_of (I.2.2.2.2.2.2.2.2.2.2.2.2.2.1.1)) 0).trans rfl
       have hfz_gb92_w180_0 := blk_frozen (Law.blk_of (I.2.2.2.2.2.2.2.2.2.2.2.2.2.1.1)) 0
       have hcz_gb92_w180_1 : w180.cell? ⟨gb92, 1, none⟩ = some (.slice Ao85 r41.length co86) := (blk_cell (Law.blk_of (I.2.2.2.2.2.2.2.2.2.2.2.2.2.1.1)) 1).trans rfl
       have hfz_gb92_w180_1 := blk_frozen (Law.blk_of (I.2.2.2.2.2.2.2.2.2.2.2.2.2.1.1)) 1
       have hcz_gb92_w180_2 : w180.cell? ⟨gb92, 2, none⟩ = some (.slice Ao88 r42.length co89) := (blk_cell (Law.blk_of (I.2.2.2.2.2.2.2.2.2.2.2.2.2.1.1)) 2).trans rfl
       have hfz_gb92_w180_2 := blk_frozen (Law.blk_of (I.2.2.2.2.2.2.2.2.2.2.2.2.2.1.1)) 2)
    | ((with_reducible refine gate_dst (N := 17) rfl ?_)
       refine box_event ?hg (N := 17) ?hd (cs := #[.int .i64 0, .slice none 0 0, .slice none 0 0]) (t := 47) ?hr ?_
       (case hd => rfl)
       (case hg => rfl)
       (case hr => first | (go_simp; done) | (go_simp; rfl))
       intro gb190 hg w191 hbox hb
       have I1 := Law.Inv.below (Law.Inv.on I (fun I => by (with_reducible repeat (first | apply Law.Inv.alloc | apply Law.Inv.drewN | apply Law.Inv.drew)); exact I)) hb
       have HB1 := Aside0.mk (below_step (by repeat (first | (with_reducible first | exact HB.out | apply below_alloc | apply pw_below_drewN | apply below_drew1) | exact HB.out)) hb)
       have SZ192 := Aside0.mk (show W.heap.size ≤ gb190 ∧ w180.heap.size ≤ gb190 ∧ gb190 + 1 ≤ w191.heap.size from ⟨by rw [hg]; exact (by repeat (first | (with_reducible first | exact HB.out | apply below_alloc | apply pw_below_drewN | apply below_drew1) | exact HB.out) : Below W.heap.size W _).size, by rw [hg]; exact (Law.Inv.on I (fun I => by (with_reducible repeat (first | apply Law.Inv.alloc | apply Law.Inv.drewN | apply Law.Inv.drew)); exact I)).1.2, blk_lt hbox⟩)
       have I2 := Law.Inv.cons (s := Law.boxI gb190 #[.int .i64 0, .slice none 0 0, .slice none 0 0] 47) ⟨hbox, blk_lt hbox⟩ I1
       clear I HB hbox hb hg I1
       have I := I2
       have HB := HB1
       clear I2 HB1
       have hne_gb190_gb1 : gb190 ≠ gb1 := (by have := SZ3.out; have := SZ8.out; have := SZ14.out; have := SZ30.out; have := SZ39.out; have := SZ55.out; have := SZ58.out; have := SZ69.out; have := SZ72.out; have := SZ79.out; have := SZ91.out; have := SZ94.out; have := SZ98.out; have := SZ111.out; have := SZ115.out; have := SZ122.out; have := SZ126.out; have := SZ133.out; have := SZ141.out; have := SZ146.out; have := SZ153.out; have := SZ159.out; have := SZ171.out; have := SZ178.out; have := SZ189.out; have := SZ192.out; first | omega | (simp only [Law.rowI, Law.rowsI, Law.boxI]; omega))
       have hne_gb1_gb190 : gb1 ≠ gb190 := (by have := SZ3.out; have := SZ8.out; have := SZ14.out; have := SZ30.out; have := SZ39.out; have := SZ55.out; have := SZ58.out; have := SZ69.out; have := SZ72.out; have := SZ79.out; have := SZ91.out; have := SZ94.out; have := SZ98.out; have := SZ111.out; have := SZ115.out; have := SZ122.out; have := SZ126.out; have := SZ133.out; have := SZ141.out; have := SZ146.out; have := SZ153.out; have := SZ159.out; have := SZ171.out; have := SZ178.out; have := SZ189.out; have := SZ192.out; first | omega | (simp only [Law.rowI, Law.rowsI, Law.boxI]; omega))
       have hne_gb190_gb56 : gb190 ≠ gb56 := (by have := SZ3.out; have := SZ8.out; have := SZ14.out; have := SZ30.out; have := SZ39.out; have := SZ55.out; have := SZ58.out; have := SZ69.out; have := SZ72.out; have := SZ79.out; have := SZ91.out; have := SZ94.out; have := SZ98.out; have := SZ111.out; have := SZ115.out; have := SZ122.out; have := SZ126.out; have := SZ133.out; have := SZ141.out; have := SZ146.out; have := SZ153.out; have := SZ159.out; have := SZ171.out; have := SZ178.out; have := SZ189.out; have := SZ192.out; first | omega | (simp only [Law.rowI, Law.rowsI, Law.boxI]; omega))
       have hne_gb56_gb190 : gb56 ≠ gb190 := (by have := SZ3.out; have := SZ8.out; have := SZ14.out; have := SZ30.out; have := SZ39.out; have := SZ55.out; have := SZ58.out; have := SZ69.out; have := SZ72.out; have := SZ79.out; have := SZ91.out; have := SZ94.out; have := SZ98.out; have := SZ111.out; have := SZ115.out; have := SZ122.out; have := SZ126.out; have := SZ133.out; have := SZ141.out; have := SZ146.out; have := SZ153.out; have := SZ159.out; have := SZ171.out; have := SZ178.out; have := SZ189.out; have := SZ192.out; first | omega | (simp only [Law.rowI, Law.rowsI, Law.boxI]; omega))
       have hne_gb190_gb70 : gb190 ≠ gb70 := (by have := SZ3.out; have := SZ8.out; have := SZ14.out; have := SZ30.out; have := SZ39.out; have := SZ55.out; have := SZ58.out; have := SZ69.out; have := SZ72.out; have := SZ79.out; have := SZ91.out; have := SZ94.out; have := SZ98.out; have := SZ111.out; have := SZ115.out; have := SZ122.out; have := SZ126.out; have := SZ133.out; have := SZ141.out; have := SZ146.out; have := SZ153.out; have := SZ159.out; have := SZ171.out; have := SZ178.out; have := SZ189.out; have := SZ192.out; first | omega | (simp only [Law.rowI, Law.rowsI, Law.boxI]; omega))
       have hne_gb70_gb190 : gb70 ≠ gb190 := (by have := SZ3.out; have := SZ8.out; have := SZ14.out; have := SZ30.out; have := SZ39.out; have := SZ55.out; have := SZ58.out; have := SZ69.out; have := SZ72.out; have := SZ79.out; have := SZ91.out; have := SZ94.out; have := SZ98.out; have := SZ111.out; have := SZ115.out; have := SZ122.out; have := SZ126.out; have := SZ133.out; have := SZ141.out; have := SZ146.out; have := SZ153.out; have := SZ159.out; have := SZ171.out; have := SZ178.out; have := SZ189.out; have := SZ192.out; first | omega | (simp only [Law.rowI, Law.rowsI, Law.boxI]; omega))
       have hne_gb190_gb92 : gb190 ≠ gb92 := (by have := SZ3.out; have := SZ8.out; have := SZ14.out; have := SZ30.out; have := SZ39.out; have := SZ55.out; have := SZ58.out; have := SZ69.out; have := SZ72.out; have := SZ79.out; have := SZ91.out; have := SZ94.out; have := SZ98.out; have := SZ111.out; have := SZ115.out; have := SZ122.out; have := SZ126.out; have := SZ133.out; have := SZ141.out; have := SZ146.out; have := SZ153.out; have := SZ159.out; have := SZ171.out; have := SZ178.out; have := SZ189.out; have := SZ192.out; first | omega | (simp only [Law.rowI, Law.rowsI, Law.boxI]; omega))
       have hne_gb92_gb190 : gb92 ≠ gb190 := (by have := SZ3.out; have := SZ8.out; have := SZ14.out; have := SZ30.out; have := SZ39.out; have := SZ55.out; have := SZ58.out; have := SZ69.out; have := SZ72.out; have := SZ79.out; have := SZ91.out; have := SZ94.out; have := SZ98.out; have := SZ111.out; have := SZ115.out; have := SZ122.out; have := SZ126.out; have := SZ133.out; have := SZ141.out; have := SZ146.out; have := SZ153.out; have := SZ159.out; have := SZ171.out; have := SZ178.out; have := SZ189.out; have := SZ192.out; first | omega | (simp only [Law.rowI, Law.rowsI, Law.boxI]; omega))
       have hcz_gb1_w191_0 : w191.cell? ⟨gb1, 0, none⟩ = some (.int .i64 a0_0) := (blk_cell (Law.blk_of (I.2.2.2.2.2.2.2.2.2.2.2.2.2.2.2.2.2.2.2.2.2.2.1.1)) 0).trans rfl
       have hfz_gb1_w191_0 := blk_frozen (Law.blk_of (I.2.2.2.2.2.2.2.2.2.2.2.2.2.2.2.2.2.2.2.2.2.2.1.1)) 0
       have hcz_gb1_w191_1 : w191.cell? ⟨gb1, 1, none⟩ = some (.slice A0_1 l0_1.length c0_1) := (blk_cell (Law.blk_of (I.2.2.2.2.2.2.2.2.2.2.2.2.2.2.2.2.2.2.2.2.2.2.1.1)) 1).trans rfl
       have hfz_gb1_w191_1 := blk_frozen (Law.blk_of (I.2.2.2.2.2.2.2.2.2.2.2.2.2.2.2.2.2.2.2.2.2.2.1.1)) 1
       have hcz_gb1_w191_2 : w191.cell? ⟨gb1, 2, none⟩ = some (.slice A0_2 l0_2.length c0_2) := (blk_cell (Law.blk_of (I.2.2.2.2.2.2.2.2.2.2.2.2.2.2.2.2.2.2.2.2.2.2.1.1)) 2).trans rfl
       have hfz_gb1_w191_2 := blk_frozen (Law.blk_of (I.2.2.2.2.2.2.2.2.2.2.2.2.2.2.2.2.2.2.2.2.2.2.1.1)) 2
       have hcz_gb56_w191_0 : w191.cell? ⟨gb56, 0, none⟩ = some (.int .i64 r40) := (blk_cell (Law.blk_of (I.2.2.2.2.2.2.2.2.2.2.2.2.2.2.2.2.1.1)) 0).trans rfl
       have hfz_gb56_w191_0 := blk_frozen (Law.blk_of (I.2.2.2.2.2.2.2.2.2.2.2.2.2.2.2.2.1.1)) 0
       have hcz_gb56_w191_1 : w191.cell? ⟨gb56, 1, none⟩ = some (.slice Ao49 r41.length co50) := (blk_cell (Law.blk_of (I.2.2.2.2.2.2.2.2.2.2.2.2.2.2.2.2.1.1)) 1).trans rfl
       have hfz_gb56_w191_1 := blk_frozen (Law.blk_of (I.2.2.2.2.2.2.2.2.2.2.2.2.2.2.2.2.1.1)) 1
       have hcz_gb56_w191_2 : w191.cell? ⟨gb56, 2, none⟩ = some (.slice Ao52 r42.length co53) := (blk_cell (Law.blk_of (I.2.2.2.2.2.2.2.2.2.2.2.2.2.2.2.2.1.1)) 2).trans rfl
       have hfz_gb56_w191_2 := blk_frozen (Law.blk_of (I.2.2.2.2.2.2.2.2.2.2.2.2.2.2.2.2.1.1)) 2
       have hcz_gb70_w191_0 : w191.cell? ⟨gb70, 0, none⟩ = some (.int .i64 r16) := (blk_cell (Law.blk_of (I.2.2.2.2.2.2.2.2.2.2.2.2.2.2.2.1.1)) 0).trans rfl
       have hfz_gb70_w191_0 := blk_frozen (Law.blk_of (I.2.2.2.2.2.2.2.2.2.2.2.2.2.2.2.1.1)) 0
       have hcz_gb70_w191_1 : w191.cell? ⟨gb70, 1, none⟩ = some (.slice Ao63 r17.length co64) := (blk_cell (Law.blk_of (I.2.2.2.2.2.2.2.2.2.2.2.2.2.2.2.1.1)) 1).trans rfl
       have hfz_gb70_w191_1 := blk_frozen (Law.blk_of (I.2.2.2.2.2.2.2.2.2.2.2.2.2.2.2.1.1)) 1
       have hcz_gb70_w191_2 : w191.cell? ⟨gb70, 2, none⟩ = some (.slice Ao66 r18.length co67) := (blk_cell (Law.blk_of (I.2.2.2.2.2.2.2.2.2.2.2.2.2.2.2.1.1)) 2).trans rfl
       have hfz_gb70_w191_2 := blk_frozen (Law.blk_of (I.2.2.2.2.2.2.2.2.2.2.2.2.2.2.2.1.1)) 2
       have hcz_gb92_w191_0 : w191.cell? ⟨gb92, 0, none⟩ = some (.int .i64 r40) := (blk_cell (Law.blk_of (I.2.2.2.2.2.2.2.2.2.2.2.2.2.2.1.1)) 0).trans rfl
       have hfz_gb92_w191_0 := blk_frozen (Law.blk_of (I.2.2.2.2.2.2.2.2.2.2.2.2.2.2.1.1)) 0
       have hcz_gb92_w191_1 : w191.cell? ⟨gb92, 1, none⟩ = some (.slice Ao85 r41.length co86) := (blk_cell (Law.blk_of (I.2.2.2.2.2.2.2.2.2.2.2.2.2.2.1.1)) 1).trans rfl
       have hfz_gb92_w191_1 := blk_frozen (Law.blk_of (I.2.2.2.2.2.2.2.2.2.2.2.2.2.2.1.1)) 1
       have hcz_gb92_w191_2 : w191.cell? ⟨gb92, 2, none⟩ = some (.slice Ao88 r42.length co89) := (blk_cell (Law.blk_of (I.2.2.2.2.2.2.2.2.2.2.2.2.2.2.1.1)) 2).trans rfl
       have hfz_gb92_w191_2 := blk_frozen (Law.blk_of (I.2.2.2.2.2.2.2.2.2.2.2.2.2.2.1.1)) 2
       have hcz_gb190_w191_0 : w191.cell? ⟨gb190, 0, none⟩ = some (.int .i64 0) := (blk_cell (Law.blk_of (I.1.1)) 0).trans rfl
       have hfz_gb190_w191_0 := blk_frozen (Law.blk_of (I.1.1)) 0
       have hcz_gb190_w191_1 : w191.cell? ⟨gb190, 1, none⟩ = some (.slice none 0 0) := (blk_cell (Law.blk_of (I.1.1)) 1).trans rfl
       have hfz_gb190_w191_1 := blk_frozen (Law.blk_of (I.1.1)) 1
       have hcz_gb190_w191_2 : w191.cell? ⟨gb190, 2, none⟩ = some (.slice none 0 0) := (blk_cell (Law.blk_of (I.1.1)) 2).trans rfl
       have hfz_gb190_w191_2 := blk_frozen (Law.blk_of (I.1.1)) 2)
    | ((with_reducible refine gate_callee (f := 31) rfl ?_)
       refine goesL_ (some 109) rfl rfl Try.func31 (by kernel_rfl) rfl #[.agg #[.int .i64 r40, .slice Ao183 r41.length co184, .slice Ao186 r42.length co187], .agg #[.int .i64 r40, .slice Ao49 r41.length co50, .slice Ao52 r42.length co53]] rfl (by (try simp only [List.map_toArray, List.map_cons, List.map_nil]); first | done | rfl) ?_
       refine Law.at_world (fun w193 hw1 => ?_)
       have I1 : Law.Inv [Law.boxI gb190 #[.int .i64 r40, .slice Ao183 r41.length co184, .slice Ao186 r42.length co187] 47, Law.rowsI k67 67 w179.heap.size w179.heap.size w180.heap.size (fun k_ => some k_ ≠ (.slice Ao183 r41.length co184 : Value).ownBlock) (.slice Ao186 r42.length co187) r42, Law.rowI (Kd.int .u8) 5 w179.heap.size w179.heap.size w180.heap.size (fun _ => True) (.slice Ao183 r41.length co184) r41, Law.rowsI k71 71 w172.heap.size w172.heap.size w173.heap.size (fun _ => True) (.slice Ao175 r31.length co176) r31, Law.rowsI k67 67 w161.heap.size w161.heap.size w162.heap.size (fun k_ => some k_ ≠ (.slice Ao165 r17.length co166 : Value).ownBlock) (.slice Ao168 r18.length co169) r18, Law.rowI (Kd.int .u8) 5 w161.heap.size w161.heap.size w162.heap.size (fun _ => True) (.slice Ao165 r17.length co166) r17, Law.rowsI k67 67 W.heap.size w81.heap.size w82.heap.size (fun k_ => some k_ ≠ (.slice Ao85 r41.length co86 : Value).ownBlock) (.slice Ao88 r42.length co89) r149, Law.rowI (Kd.int .u8) 5 W.heap.size w81.heap.size w82.heap.size (fun _ => True) (.slice Ao85 r41.length co86) r148, Law.rowsI k71 71 W.heap.size w73.heap.size w74.heap.size (fun _ => True) (.slice Ao76 r31.length co77) r137, Law.rowsI k67 67 W.heap.size w59.heap.size w60.heap.size (fun k_ => some k_ ≠ (.slice Ao63 r17.length co64 : Value).ownBlock) (.slice Ao66 r18.length co67) r129, Law.rowI (Kd.int .u8) 5 W.heap.size w59.heap.size w60.heap.size (fun _ => True) (.slice Ao63 r17.length co64) r128, Law.rowsI k71 71 w116.heap.size w116.heap.size w117.heap.size (fun _ => True) (.slice Ao119 r31.length co120) r31, Law.rowsI k67 67 w101.heap.size w101.heap.size w102.heap.size (fun k_ => some k_ ≠ (.slice Ao105 r17.length co106 : Value).ownBlock) (.slice Ao108 r18.length co109) r18, Law.rowI (Kd.int .u8) 5 w101.heap.size w101.heap.size w102.heap.size (fun _ => True) (.slice Ao105 r17.length co106) r17, Law.boxI gb92 #[.int .i64 r40, .slice Ao85 r41.length co86, .slice Ao88 r42.length co89] 47, Law.boxI gb70 #[.int .i64 r16, .slice Ao63 r17.length co64, .slice Ao66 r18.length co67] 47, Law.boxI gb56 #[.int .i64 r40, .slice Ao49 r41.length co50, .slice Ao52 r42.length co53] 47, Law.rowsI k67 67 w45.heap.size w45.heap.size w46.heap.size (fun k_ => some k_ ≠ (.slice Ao49 r41.length co50 : Value).ownBlock) (.slice Ao52 r42.length co53) r42, Law.rowI (Kd.int .u8) 5 w45.heap.size w45.heap.size w46.heap.size (fun _ => True) (.slice Ao49 r41.length co50) r41, Law.rowsI k71 71 w33.heap.size w33.heap.size w34.heap.size (fun _ => True) (.slice Ao36 r31.length co37) r31, Law.rowsI k67 67 w20.heap.size w20.heap.size w21.heap.size (fun k_ => some k_ ≠ (.slice Ao24 r17.length co25 : Value).ownBlock) (.slice Ao27 r18.length co28) r18, Law.rowI (Kd.int .u8) 5 w20.heap.size w20.heap.size w21.heap.size (fun _ => True) (.slice Ao24 r17.length co25) r17, Law.boxI gb1 #[.int .i64 a0_0, .slice A0_1 l0_1.length c0_1, .slice A0_2 l0_2.length c0_2] 41] w193 := by rw [hw1]; (with_reducible repeat (first | apply Law.Inv.alloc | apply Law.Inv.drewN | apply Law.Inv.drew)); refine Law.Inv.put (cs := #[.int .i64 r40, .slice Ao183 r41.length co184, .slice none 0 0]) ?_ (by have := SZ3.out; have := SZ8.out; have := SZ14.out; have := SZ30.out; have := SZ39.out; have := SZ55.out; have := SZ58.out; have := SZ69.out; have := SZ72.out; have := SZ79.out; have := SZ91.out; have := SZ94.out; have := SZ98.out; have := SZ111.out; have := SZ115.out; have := SZ122.out; have := SZ126.out; have := SZ133.out; have := SZ141.out; have := SZ146.out; have := SZ153.out; have := SZ159.out; have := SZ171.out; have := SZ178.out; have := SZ189.out; have := SZ192.out; refine ⟨?_, ?_, ?_, ?_, ?_, ?_, ?_, ?_, ?_, ?_, ?_, ?_, ?_, ?_, ?_, ?_, ?_, ?_, ?_, ?_, ?_, ?_, trivial⟩ <;> simp only [Law.rowI, Law.rowsI, Law.boxI] <;> omega) rfl; (with_reducible repeat (first | apply Law.Inv.alloc | apply Law.Inv.drewN | apply Law.Inv.drew)); refine Law.Inv.put (cs := #[.int .i64 r40, .slice none 0 0, .slice none 0 0]) ?_ (by have := SZ3.out; have := SZ8.out; have := SZ14.out; have := SZ30.out; have := SZ39.out; have := SZ55.out; have := SZ58.out; have := SZ69.out; have := SZ72.out; have := SZ79.out; have := SZ91.out; have := SZ94.out; have := SZ98.out; have := SZ111.out; have := SZ115.out; have := SZ122.out; have := SZ126.out; have := SZ133.out; have := SZ141.out; have := SZ146.out; have := SZ153.out; have := SZ159.out; have := SZ171.out; have := SZ178.out; have := SZ189.out; have := SZ192.out; refine ⟨?_, ?_, ?_, ?_, ?_, ?_, ?_, ?_, ?_, ?_, ?_, ?_, ?_, ?_, ?_, ?_, ?_, ?_, ?_, ?_, ?_, ?_, trivial⟩ <;> simp only [Law.rowI, Law.rowsI, Law.boxI] <;> omega) rfl; (with_reducible repeat (first | apply Law.Inv.alloc | apply Law.Inv.drewN | apply Law.Inv.drew)); refine Law.Inv.put (cs := #[.int .i64 0, .slice none 0 0, .slice none 0 0]) ?_ (by have := SZ3.out; have := SZ8.out; have := SZ14.out; have := SZ30.out; have := SZ39.out; have := SZ55.out; have := SZ58.out; have := SZ69.out; have := SZ72.out; have := SZ79.out; have := SZ91.out; have := SZ94.out; have := SZ98.out; have := SZ111.out; have := SZ115.out; have := SZ122.out; have := SZ126.out; have := SZ133.out; have := SZ141.out; have := SZ146.out; have := SZ153.out; have := SZ159.out; have := SZ171.out; have := SZ178.out; have := SZ189.out; have := SZ192.out; refine ⟨?_, ?_, ?_, ?_, ?_, ?_, ?_, ?_, ?_, ?_, ?_, ?_, ?_, ?_, ?_, ?_, ?_, ?_, ?_, ?_, ?_, ?_, trivial⟩ <;> simp only [Law.rowI, Law.rowsI, Law.boxI] <;> omega) rfl; (with_reducible repeat (first | apply Law.Inv.alloc | apply Law.Inv.drewN | apply Law.Inv.drew)); exact I
       have HB1 := Aside0.mk (show Below W.heap.size W w193 by rw [hw1]; repeat (first | (with_reducible first | exact HB.out | apply below_alloc | apply pw_below_drewN | apply below_drew1 | refine below_set ?_ (by have := SZ3.out; have := SZ8.out; have := SZ14.out; have := SZ30.out; have := SZ39.out; have := SZ55.out; have := SZ58.out; have := SZ69.out; have := SZ72.out; have := SZ79.out; have := SZ91.out; have := SZ94.out; have := SZ98.out; have := SZ111.out; have := SZ115.out; have := SZ122.out; have := SZ126.out; have := SZ133.out; have := SZ141.out; have := SZ146.out; have := SZ153.out; have := SZ159.out; have := SZ171.out; have := SZ178.out; have := SZ189.out; have := SZ192.out; first | omega | (simp only [Law.rowI, Law.rowsI, Law.boxI]; omega))) | exact HB.out))
       clear I HB hw1
       have I := I1
       have HB := HB1
       clear I1 HB1
       refine (laws_eqDevice.calls k r40 Ao183 co184 r41 Ao186 co187 r42 r40 Ao49 co50 r41 Ao52 co53 r42 true w193 ?_ ?_ ?_ ?_ ?_ ?_ ?_ ?_ E95.out).mono ?_
       · exact (Kd.R_reads' (I.2.2.1.1)).2.2
       · exact (Kd.R_reads' (I.2.2.1.1)).2.1
       · exact (Kd.S_reads' (I.2.1.1)).2.2
       · exact (Kd.S_reads' (I.2.1.1)).2.1
       · exact (Kd.R_reads' (I.2.2.2.2.2.2.2.2.2.2.2.2.2.2.2.2.2.2.1.1)).2.2
       · exact (Kd.R_reads' (I.2.2.2.2.2.2.2.2.2.2.2.2.2.2.2.2.2.2.1.1)).2.1
       · exact (Kd.S_reads' (I.2.2.2.2.2.2.2.2.2.2.2.2.2.2.2.2.2.1.1)).2.2
       · exact (Kd.S_reads' (I.2.2.2.2.2.2.2.2.2.2.2.2.2.2.2.2.2.1.1)).2.1
       rintro e w194 ⟨rfl, hq0⟩
       refine ⟨_, rfl, ?_⟩
       have I1 := Law.Inv.below I hq0
       have HB1 := Aside0.mk (below_step HB.out hq0)
       have SZ195 := Aside0.mk (show W.heap.size ≤ w193.heap.size ∧ gb190 + 1 ≤ w193.heap.size ∧ w193.heap.size ≤ w194.heap.size from ⟨HB.out.size, I.1.2, hq0.size⟩)
       clear I HB
       have I := I1
       have HB := HB1
       clear I1 HB1
       have hcz_gb1_w194_0 : w194.cell? ⟨gb1, 0, none⟩ = some (.int .i64 a0_0) := (blk_cell (Law.blk_of (I.2.2.2.2.2.2.2.2.2.2.2.2.2.2.2.2.2.2.2.2.2.2.1.1)) 0).trans rfl
       have hfz_gb1_w194_0 := blk_frozen (Law.blk_of (I.2.2.2.2.2.2.2.2.2.2.2.2.2.2.2.2.2.2.2.2.2.2.1.1)) 0
       have hcz_gb1_w194_1 : w194.cell? ⟨gb1, 1, none⟩ = some (.slice A0_1 l0_1.length c0_1) := (blk_cell (Law.blk_of (I.2.2.2.2.2.2.2.2.2.2.2.2.2.2.2.2.2.2.2.2.2.2.1.1)) 1).trans rfl
       have hfz_gb1_w194_1 := blk_frozen (Law.blk_of (I.2.2.2.2.2.2.2.2.2.2.2.2.2.2.2.2.2.2.2.2.2.2.1.1)) 1
       have hcz_gb1_w194_2 : w194.cell? ⟨gb1, 2, none⟩ = some (.slice A0_2 l0_2.length c0_2) := (blk_cell (Law.blk_of (I.2.2.2.2.2.2.2.2.2.2.2.2.2.2.2.2.2.2.2.2.2.2.1.1)) 2).trans rfl
       have hfz_gb1_w194_2 := blk_frozen (Law.blk_of (I.2.2.2.2.2.2.2.2.2.2.2.2.2.2.2.2.2.2.2.2.2.2.1.1)) 2
       have hcz_gb56_w194_0 : w194.cell? ⟨gb56, 0, none⟩ = some (.int .i64 r40) := (blk_cell (Law.blk_of (I.2.2.2.2.2.2.2.2.2.2.2.2.2.2.2.2.1.1)) 0).trans rfl
       have hfz_gb56_w194_0 := blk_frozen (Law.blk_of (I.2.2.2.2.2.2.2.2.2.2.2.2.2.2.2.2.1.1)) 0
       have hcz_gb56_w194_1 : w194.cell? ⟨gb56, 1, none⟩ = some (.slice Ao49 r41.length co50) := (blk_cell (Law.blk_of (I.2.2.2.2.2.2.2.2.2.2.2.2.2.2.2.2.1.1)) 1).trans rfl
       have hfz_gb56_w194_1 := blk_frozen (Law.blk_of (I.2.2.2.2.2.2.2.2.2.2.2.2.2.2.2.2.1.1)) 1
       have hcz_gb56_w194_2 : w194.cell? ⟨gb56, 2, none⟩ = some (.slice Ao52 r42.length co53) := (blk_cell (Law.blk_of (I.2.2.2.2.2.2.2.2.2.2.2.2.2.2.2.2.1.1)) 2).trans rfl
       have hfz_gb56_w194_2 := blk_frozen (Law.blk_of (I.2.2.2.2.2.2.2.2.2.2.2.2.2.2.2.2.1.1)) 2
       have hcz_gb70_w194_0 : w194.cell? ⟨gb70, 0, none⟩ = some (.int .i64 r16) := (blk_cell (Law.blk_of (I.2.2.2.2.2.2.2.2.2.2.2.2.2.2.2.1.1)) 0).trans rfl
       have hfz_gb70_w194_0 := blk_frozen (Law.blk_of (I.2.2.2.2.2.2.2.2.2.2.2.2.2.2.2.1.1)) 0
       have hcz_gb70_w194_1 : w194.cell? ⟨gb70, 1, none⟩ = some (.slice Ao63 r17.length co64) := (blk_cell (Law.blk_of (I.2.2.2.2.2.2.2.2.2.2.2.2.2.2.2.1.1)) 1).trans rfl
       have hfz_gb70_w194_1 := blk_frozen (Law.blk_of (I.2.2.2.2.2.2.2.2.2.2.2.2.2.2.2.1.1)) 1
       have hcz_gb70_w194_2 : w194.cell? ⟨gb70, 2, none⟩ = some (.slice Ao66 r18.length co67) := (blk_cell (Law.blk_of (I.2.2.2.2.2.2.2.2.2.2.2.2.2.2.2.1.1)) 2).trans rfl
       have hfz_gb70_w194_2 := blk_frozen (Law.blk_of (I.2.2.2.2.2.2.2.2.2.2.2.2.2.2.2.1.1)) 2
       have hcz_gb92_w194_0 : w194.cell? ⟨gb92, 0, none⟩ = some (.int .i64 r40) := (blk_cell (Law.blk_of (I.2.2.2.2.2.2.2.2.2.2.2.2.2.2.1.1)) 0).trans rfl
       have hfz_gb92_w194_0 := blk_frozen (Law.blk_of (I.2.2.2.2.2.2.2.2.2.2.2.2.2.2.1.1)) 0
       have hcz_gb92_w194_1 : w194.cell? ⟨gb92, 1, none⟩ = some (.slice Ao85 r41.length co86) := (blk_cell (Law.blk_of (I.2.2.2.2.2.2.2.2.2.2.2.2.2.2.1.1)) 1).trans rfl
       have hfz_gb92_w194_1 := blk_frozen (Law.blk_of (I.2.2.2.2.2.2.2.2.2.2.2.2.2.2.1.1)) 1
       have hcz_gb92_w194_2 : w194.cell? ⟨gb92, 2, none⟩ = some (.slice Ao88 r42.length co89) := (blk_cell (Law.blk_of (I.2.2.2.2.2.2.2.2.2.2.2.2.2.2.1.1)) 2).trans rfl
       have hfz_gb92_w194_2 := blk_frozen (Law.blk_of (I.2.2.2.2.2.2.2.2.2.2.2.2.2.2.1.1)) 2
       have hcz_gb190_w194_0 : w194.cell? ⟨gb190, 0, none⟩ = some (.int .i64 r40) := (blk_cell (Law.blk_of (I.1.1)) 0).trans rfl
       have hfz_gb190_w194_0 := blk_frozen (Law.blk_of (I.1.1)) 0
       have hcz_gb190_w194_1 : w194.cell? ⟨gb190, 1, none⟩ = some (.slice Ao183 r41.length co184) := (blk_cell (Law.blk_of (I.1.1)) 1).trans rfl
       have hfz_gb190_w194_1 := blk_frozen (Law.blk_of (I.1.1)) 1
       have hcz_gb190_w194_2 : w194.cell? ⟨gb190, 2, none⟩ = some (.slice Ao186 r42.length co187) := (blk_cell (Law.blk_of (I.1.1)) 2).trans rfl
       have hfz_gb190_w194_2 := blk_frozen (Law.blk_of (I.1.1)) 2))
  try go_wp2
  go_ret
  exact ⟨rfl, by repeat (first | (with_reducible first | exact HB.out | apply below_alloc | apply pw_below_drewN | apply below_drew1) | exact HB.out)⟩
set_option maxHeartbeats 16000000 in
set_option maxRecDepth 100000 in
theorem laws_FnExactDevApply.walk (a0_0 : Int) (A0_1 : Option Addr) (c0_1 : Nat) (l0_1 : List Int) (A0_2 : Option Addr) (c0_2 : Nat) (l0_2 : List S127) (A1 : Option Addr) (c1 : Nat) (l1 : List S122) (a2 : Int) (W : World) (hr0_1 : Kd.C (Kd.int .u8) W A0_1 l0_1.length l0_1) (hc0_1 : l0_1.length ≤ c0_1) (hr0_2 : Kd.C k127 W A0_2 l0_2.length l0_2) (hc0_2 : l0_2.length ≤ c0_2) (hr1 : Kd.C k122 W A1 l1.length l1) (hc1 : l1.length ≤ c1) (h : laws_FnExactDevApply.Facts a0_0 l0_1 l0_2 l1 a2) :
    Calls Try.prog 12 #[.agg #[.int .i64 a0_0, .slice A0_1 l0_1.length c0_1, .slice A0_2 l0_2.length c0_2], .slice A1 l1.length c1, .int .i64 a2] W fun e w' => e = .returned (.bool true) ∧ Below W.heap.size W w' := by
  rcases h with ⟨x0, x1, y0, y1⟩ | ⟨x0, x1, x2, y0, y1, y2, y3⟩ | ⟨x0, x1, x2, x3, x4, x5, x6, x7, x8, x9, x10, x11, x12, x13, x14, x15, x16, x17, x18, y0, y1, y2, y3, y4, y5, y6, y7, y8, y9, y10, y11, y12, y13, y14, y15, y16⟩
  · exact laws_FnExactDevApply.walk0 a0_0 A0_1 c0_1 l0_1 A0_2 c0_2 l0_2 A1 c1 l1 a2 W hr0_1 hc0_1 hr0_2 hc0_2 hr1 hc1 x0 x1 y0 y1
  · exact laws_FnExactDevApply.walk1 a0_0 A0_1 c0_1 l0_1 A0_2 c0_2 l0_2 A1 c1 l1 a2 W hr0_1 hc0_1 hr0_2 hc0_2 hr1 hc1 x0 x1 x2 y0 y1 y2 y3
  · exact laws_FnExactDevApply.walk2 a0_0 A0_1 c0_1 l0_1 A0_2 c0_2 l0_2 A1 c1 l1 a2 W hr0_1 hc0_1 hr0_2 hc0_2 hr1 hc1 x0 x1 x2 x3 x4 x5 x6 x7 x8 x9 x10 x11 x12 x13 x14 x15 x16 x17 x18 y0 y1 y2 y3 y4 y5 y6 y7 y8 y9 y10 y11 y12 y13 y14 y15 y16

end Go.Proofs.Ytbimmmmjdimebaa.PFnExactDevApply
