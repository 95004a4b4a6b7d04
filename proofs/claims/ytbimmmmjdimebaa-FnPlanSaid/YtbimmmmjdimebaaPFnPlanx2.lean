-- This text was written by a program of this session (gprint.py, on a turned copy of the print tool).
import Derived.Test.YtbimmmmjdimebaaLaw
import Derived.Test.YtbimmmmjdimebaaPFnPlanx0
namespace Go.Proofs.Ytbimmmmjdimebaa.PFnPlan
open Go.RowKit Go.Proofs.YtbimmmmjdimebaaW.PrintWords Go.Proofs.YtbimmmmjdimebaaW.PrintLast Go.Proofs.YtbimmmmjdimebaaW.PrintMore
attribute [local go_sem] max2_int min2_int max_two min_two max_three min_three max_four min_four   -- for this text's walks alone
set_option linter.unusedVariables false
set_option linter.unusedSimpArgs false

/-! ### impl_inOrder: function 62 -/
mutual
def impl_inOrder.l0 : Nat → List (S89) → List (S89) → Int → Int → Option (Bool)
 | 0, _, _, _, _ => none
 | k + 1, x0, x6, x7, x8 => if x8 < x7 then (if 0 ≤ x8 then (if x8 < (x6.length : Int) then (if ((rd_T89 x6 x8).f0) < 2 then (impl_inOrder.j1 k x0 x8 x6 x7 x8 true ((rd_T89 x6 x8).f0) ((rd_T89 x6 x8).f1) ((rd_T89 x6 x8).f2)) else (if ((rd_T89 x6 x8).f1) < 1 then (impl_inOrder.j1 k x0 x8 x6 x7 x8 true ((rd_T89 x6 x8).f0) ((rd_T89 x6 x8).f1) ((rd_T89 x6 x8).f2)) else (if ((rd_T89 x6 x8).f0) > 512 then (impl_inOrder.j1 k x0 x8 x6 x7 x8 true ((rd_T89 x6 x8).f0) ((rd_T89 x6 x8).f1) ((rd_T89 x6 x8).f2)) else (if ((rd_T89 x6 x8).f1) > 512 then (impl_inOrder.j1 k x0 x8 x6 x7 x8 true ((rd_T89 x6 x8).f0) ((rd_T89 x6 x8).f1) ((rd_T89 x6 x8).f2)) else (impl_inOrder.j1 k x0 x8 x6 x7 x8 (decide ((wrap64 (((rd_T89 x6 x8).f0) + ((rd_T89 x6 x8).f1))) > 512)) ((rd_T89 x6 x8).f0) ((rd_T89 x6 x8).f1) ((rd_T89 x6 x8).f2)))))) else (none)) else (none)) else (some true)
def impl_inOrder.j1 : Nat → List (S89) → Int → List (S89) → Int → Int → Bool → Int → Int → Int → Option (Bool)
 | 0, _, _, _, _, _, _, _, _, _ => none
 | k + 1, x0, x3, x6, x7, x8, x38, x103000, x103001, x103002 => if x38 = true then (some false) else (if x103002 < 1 then (impl_inOrder.j2 k x0 x3 x6 x7 x8 true x103000 x103001 x103002) else (impl_inOrder.j2 k x0 x3 x6 x7 x8 (decide (x103002 > 65535)) x103000 x103001 x103002))
def impl_inOrder.j2 : Nat → List (S89) → Int → List (S89) → Int → Int → Bool → Int → Int → Int → Option (Bool)
 | 0, _, _, _, _, _, _, _, _, _ => none
 | k + 1, x0, x3, x6, x7, x8, x46, x103000, x103001, x103002 => if x46 = true then (some false) else (if x3 = 0 then (impl_inOrder.l0 k x0 x6 x7 (wrap64 (x8 + 1))) else (if 0 ≤ (wrap64 (x3 - 1)) then (if (wrap64 (x3 - 1)) < (x0.length : Int) then (if x103000 < (wrap64 (((rd_T89 x0 (wrap64 (x3 - 1))).f0) + ((rd_T89 x0 (wrap64 (x3 - 1))).f1))) then (some false) else (if x103000 = (wrap64 (((rd_T89 x0 (wrap64 (x3 - 1))).f0) + ((rd_T89 x0 (wrap64 (x3 - 1))).f1))) then (if x103002 = ((rd_T89 x0 (wrap64 (x3 - 1))).f2) then (some false) else (impl_inOrder.l0 k x0 x6 x7 (wrap64 (x8 + 1)))) else (impl_inOrder.l0 k x0 x6 x7 (wrap64 (x8 + 1))))) else (none)) else (none)))
end
def impl_inOrder.f (k : Nat) (l0 : List (S89)) : Option (Bool) := impl_inOrder.l0 k l0 l0 (l0.length : Int) 0
set_option maxHeartbeats 8000000 in
set_option maxRecDepth 100000 in
theorem impl_inOrder.calls (k : Nat) (A0 : Option Addr) (c0 : Nat) (l0 : List (S89)) (r : Bool) (w : World) (hr0 : Kd.C k89 w A0 l0.length l0) (hc0 : l0.length ≤ c0) (h : impl_inOrder.f k l0 = some r) :
  Calls Try.prog 62 #[.slice A0 l0.length c0] w fun e w' => e = .returned (.bool r) ∧ Below w.heap.size w w' := by
 have hu89 := Try.underlying89
 have HR0 := Aside0.mk hr0
 have HC0 := Aside0.mk hc0
 clear hr0 hc0
 have HB := Aside0.mk (Below.refl w.heap.size w)
 have H : (impl_inOrder.l0 k l0 l0 (l0.length : Int) 0) = some r := h
 clear h
 have H' := Aside0.mk H
 clear H
 go_enter Try.func62, Try.ntmps62
 go_wp2
 repeat (go_quiet (fail); try go_wp2)
 go_loopg [8] k (fun kq v8 w' => ∃ (x8_1 : Int), v8 = .int .i64 x8_1 ∧ Aside0 (impl_inOrder.l0 kq l0 l0 (l0.length : Int) x8_1 = some r) ∧ Aside0 (kq ≤ k) ∧ Aside0 (Below w.heap.size w w'))
 case atStart => exact ⟨(0), (by first | rfl | (simp; done) | (simp [*]; done)), H', ⟨Nat.le_refl _⟩, ⟨by repeat (first | (with_reducible first | exact HB.out | apply below_alloc | apply pw_below_drewN | apply below_drew1) | exact HB.out)⟩⟩
 case round =>
  clear H'
  obtain ⟨x8_1, rfl, HA, HK1, HB⟩ := hrel
  cases gk with
  | zero => exact absurd HA.out (by simp [impl_inOrder.l0])
  | succ k1 =>
   have H := HA.out
   clear HA
   simp only [impl_inOrder.l0] at H
   by_cases c2 : x8_1 < (l0.length : Int)
   ·rw [if_pos c2] at H
    have c2b0 : decide (x8_1 < (l0.length : Int)) = true := decide_eq_true c2
    clear c2
    by_cases c3 : 0 ≤ x8_1
    ·rw [if_pos c3] at H
     have c3b0 : decide (0 ≤ x8_1) = true := decide_eq_true c3
     clear c3
     by_cases c4 : x8_1 < (l0.length : Int)
     ·rw [if_pos c4] at H
      have c4b0 : decide (x8_1 < (l0.length : Int)) = true := decide_eq_true c4
      clear c4
      have HC5 := Aside0.mk H
      clear H
      have p101 : 0 ≤ (x8_1 : Int) := of_decide_eq_true (by first | (with_reducible assumption) | assumption)
      have q101 : x8_1 < (l0.length : Int) := of_decide_eq_true (by first | (with_reducible assumption) | assumption)
      obtain ⟨ad101, e101, hx101_0, hx101_1, hx101_2⟩ := at_T89 HR0.out x8_1 p101 q101
      cases e101
      replace hx101_0 := (HB.out.cell (World.block_lt_of_cell? w _ hx101_0)).trans hx101_0
      replace hx101_1 := (HB.out.cell (World.block_lt_of_cell? w _ hx101_1)).trans hx101_1
      replace hx101_2 := (HB.out.cell (World.block_lt_of_cell? w _ hx101_2)).trans hx101_2
      replace p101 := eq_true p101
      replace q101 := eq_true q101
      go_upto_region 4 with (first | ((with_reducible refine gate_dst (N := 4) rfl ?_); refine box_event ?hg (N := 4) ?hd (cs := #[.int .i64 0, .int .i64 0, .int .i64 0]) (t := 89) ?hr ?_; (case hd => rfl); (case hg => rfl); (case hr => first | (go_simp; done) | (go_simp; rfl)); intro gb102 hg w6 hbox hb; have n0_ := Law.bS HB hb; have n1_ := Aside0.mk (hbox); have n2_ := Aside0.mk ((by rw [hg]; exact (below_size (Law.bg HB.out)) : w.heap.size ≤ gb102)); have n3_ := Aside0.mk ((by rw [hg]; exact (below_size (Law.bg HB.out)) : w.heap.size ≤ gb102)); clear HB; have HB := n0_; have BK102 := n1_; have GW102 := n2_; have GE102 := n3_; clear n0_ n1_ n2_ n3_; clear hb hbox hg; have hcz7_0 : w6.cell? ⟨gb102, 0, none⟩ = some (.int .i64 0) := (blk_cell BK102.out 0).trans rfl; have hcz7_1 : w6.cell? ⟨gb102, 1, none⟩ = some (.int .i64 0) := (blk_cell BK102.out 1).trans rfl; have hcz7_2 : w6.cell? ⟨gb102, 2, none⟩ = some (.int .i64 0) := (blk_cell BK102.out 2).trans rfl; have hfz7_0 := blk_frozen BK102.out 0; have hfz7_1 := blk_frozen BK102.out 1; have hfz7_2 := blk_frozen BK102.out 2))
      repeat (go_quiet (first | ((with_reducible refine gate_dst (N := 4) rfl ?_); refine box_event ?hg (N := 4) ?hd (cs := #[.int .i64 0, .int .i64 0, .int .i64 0]) (t := 89) ?hr ?_; (case hd => rfl); (case hg => rfl); (case hr => first | (go_simp; done) | (go_simp; rfl)); intro gb102 hg w6 hbox hb; have n0_ := Law.bS HB hb; have n1_ := Aside0.mk (hbox); have n2_ := Aside0.mk ((by rw [hg]; exact (below_size (Law.bg HB.out)) : w.heap.size ≤ gb102)); have n3_ := Aside0.mk ((by rw [hg]; exact (below_size (Law.bg HB.out)) : w.heap.size ≤ gb102)); clear HB; have HB := n0_; have BK102 := n1_; have GW102 := n2_; have GE102 := n3_; clear n0_ n1_ n2_ n3_; clear hb hbox hg; have hcz7_0 : w6.cell? ⟨gb102, 0, none⟩ = some (.int .i64 0) := (blk_cell BK102.out 0).trans rfl; have hcz7_1 : w6.cell? ⟨gb102, 1, none⟩ = some (.int .i64 0) := (blk_cell BK102.out 1).trans rfl; have hcz7_2 : w6.cell? ⟨gb102, 2, none⟩ = some (.int .i64 0) := (blk_cell BK102.out 2).trans rfl; have hfz7_0 := blk_frozen BK102.out 0; have hfz7_1 := blk_frozen BK102.out 1; have hfz7_2 := blk_frozen BK102.out 2)); go_upto_region 4 with (first | ((with_reducible refine gate_dst (N := 4) rfl ?_); refine box_event ?hg (N := 4) ?hd (cs := #[.int .i64 0, .int .i64 0, .int .i64 0]) (t := 89) ?hr ?_; (case hd => rfl); (case hg => rfl); (case hr => first | (go_simp; done) | (go_simp; rfl)); intro gb102 hg w6 hbox hb; have n0_ := Law.bS HB hb; have n1_ := Aside0.mk (hbox); have n2_ := Aside0.mk ((by rw [hg]; exact (below_size (Law.bg HB.out)) : w.heap.size ≤ gb102)); have n3_ := Aside0.mk ((by rw [hg]; exact (below_size (Law.bg HB.out)) : w.heap.size ≤ gb102)); clear HB; have HB := n0_; have BK102 := n1_; have GW102 := n2_; have GE102 := n3_; clear n0_ n1_ n2_ n3_; clear hb hbox hg; have hcz7_0 : w6.cell? ⟨gb102, 0, none⟩ = some (.int .i64 0) := (blk_cell BK102.out 0).trans rfl; have hcz7_1 : w6.cell? ⟨gb102, 1, none⟩ = some (.int .i64 0) := (blk_cell BK102.out 1).trans rfl; have hcz7_2 : w6.cell? ⟨gb102, 2, none⟩ = some (.int .i64 0) := (blk_cell BK102.out 2).trans rfl; have hfz7_0 := blk_frozen BK102.out 0; have hfz7_1 := blk_frozen BK102.out 1; have hfz7_2 := blk_frozen BK102.out 2)))
      (try simp only [Act.put, List.setIfInBounds_toArray, List.set_cons_zero, List.set_cons_succ])
      go_cut [38] (fun v38 wc => ∃ (kq : Nat) (x38_4 : Bool), v38 = .bool x38_4 ∧ Aside0 (impl_inOrder.j1 kq l0 x8_1 l0 (l0.length : Int) x8_1 x38_4 ((rd_T89 l0 x8_1).f0) ((rd_T89 l0 x8_1).f1) ((rd_T89 l0 x8_1).f2) = some r) ∧ Aside0 (kq ≤ k1) ∧ Aside0 (wc.heap[gb102]? = some (.cells #[.int .i64 ((rd_T89 l0 x8_1).f0), .int .i64 ((rd_T89 l0 x8_1).f1), .int .i64 ((rd_T89 l0 x8_1).f2)] 89 (0, 0))) ∧ Aside0 (Below w.heap.size w wc))
      case first =>
       have H := HC5.out
       clear HC5
       by_cases c8 : ((rd_T89 l0 x8_1).f0) < 2
       ·rw [if_pos c8] at H
        have c8b0 : decide (((rd_T89 l0 x8_1).f0) < 2) = true := decide_eq_true c8
        clear c8
        (first | rw [c8b0] | (simp only [i64_w, i32_w]; rw [c8b0]) | skip)
        have H' := Aside0.mk H
        clear H
        have hcz9_0 : w6.cell? ⟨gb102, 0, none⟩ = some (.int .i64 0) := (blk_cell BK102.out 0).trans rfl
        have hcz9_1 : w6.cell? ⟨gb102, 1, none⟩ = some (.int .i64 0) := (blk_cell BK102.out 1).trans rfl
        have hcz9_2 : w6.cell? ⟨gb102, 2, none⟩ = some (.int .i64 0) := (blk_cell BK102.out 2).trans rfl
        have hfz9_0 := blk_frozen BK102.out 0
        have hfz9_1 := blk_frozen BK102.out 1
        have hfz9_2 := blk_frozen BK102.out 2
        go_wp2
        repeat (go_quiet (fail); try go_wp2)
        go_meet
        case rel => exact ⟨_, (true), (by first | rfl | (simp; done) | (simp [*]; done)), H', ⟨by have := HK1.out; first | omega | exact Nat.le_refl _⟩, ⟨by (with_reducible repeat (first | refine blk_drewN ?_ _ | refine blk_drew ?_ | refine blk_alloc ?_ _)); refine blk_put (cs := #[.int .i64 ((rd_T89 l0 x8_1).f0), .int .i64 ((rd_T89 l0 x8_1).f1), .int .i64 0]) ?_ 2 _ rfl; (with_reducible repeat (first | refine blk_drewN ?_ _ | refine blk_drew ?_ | refine blk_alloc ?_ _)); refine blk_put (cs := #[.int .i64 ((rd_T89 l0 x8_1).f0), .int .i64 0, .int .i64 0]) ?_ 1 _ rfl; (with_reducible repeat (first | refine blk_drewN ?_ _ | refine blk_drew ?_ | refine blk_alloc ?_ _)); refine blk_put (cs := #[.int .i64 0, .int .i64 0, .int .i64 0]) ?_ 0 _ rfl; (with_reducible repeat (first | refine blk_drewN ?_ _ | refine blk_drew ?_ | refine blk_alloc ?_ _)); exact BK102.out⟩, ⟨by repeat (first | (with_reducible first | exact HB.out | apply below_alloc | apply pw_below_drewN | apply below_drew1 | refine below_set ?_ GE102.out) | exact HB.out)⟩⟩
       ·rw [if_neg c8] at H
        have c8b0 : decide (((rd_T89 l0 x8_1).f0) < 2) = false := decide_eq_false c8
        clear c8
        (first | rw [c8b0] | (simp only [i64_w, i32_w]; rw [c8b0]) | skip)
        by_cases c10 : ((rd_T89 l0 x8_1).f1) < 1
        ·rw [if_pos c10] at H
         have c10b0 : decide (((rd_T89 l0 x8_1).f1) < 1) = true := decide_eq_true c10
         clear c10
         have H' := Aside0.mk H
         clear H
         have hcz11_0 : w6.cell? ⟨gb102, 0, none⟩ = some (.int .i64 0) := (blk_cell BK102.out 0).trans rfl
         have hcz11_1 : w6.cell? ⟨gb102, 1, none⟩ = some (.int .i64 0) := (blk_cell BK102.out 1).trans rfl
         have hcz11_2 : w6.cell? ⟨gb102, 2, none⟩ = some (.int .i64 0) := (blk_cell BK102.out 2).trans rfl
         have hfz11_0 := blk_frozen BK102.out 0
         have hfz11_1 := blk_frozen BK102.out 1
         have hfz11_2 := blk_frozen BK102.out 2
         go_wp2
         repeat (go_quiet (fail); try go_wp2)
         go_meet
         case rel => exact ⟨_, (true), (by first | rfl | (simp; done) | (simp [*]; done)), H', ⟨by have := HK1.out; first | omega | exact Nat.le_refl _⟩, ⟨by (with_reducible repeat (first | refine blk_drewN ?_ _ | refine blk_drew ?_ | refine blk_alloc ?_ _)); refine blk_put (cs := #[.int .i64 ((rd_T89 l0 x8_1).f0), .int .i64 ((rd_T89 l0 x8_1).f1), .int .i64 0]) ?_ 2 _ rfl; (with_reducible repeat (first | refine blk_drewN ?_ _ | refine blk_drew ?_ | refine blk_alloc ?_ _)); refine blk_put (cs := #[.int .i64 ((rd_T89 l0 x8_1).f0), .int .i64 0, .int .i64 0]) ?_ 1 _ rfl; (with_reducible repeat (first | refine blk_drewN ?_ _ | refine blk_drew ?_ | refine blk_alloc ?_ _)); refine blk_put (cs := #[.int .i64 0, .int .i64 0, .int .i64 0]) ?_ 0 _ rfl; (with_reducible repeat (first | refine blk_drewN ?_ _ | refine blk_drew ?_ | refine blk_alloc ?_ _)); exact BK102.out⟩, ⟨by repeat (first | (with_reducible first | exact HB.out | apply below_alloc | apply pw_below_drewN | apply below_drew1 | refine below_set ?_ GE102.out) | exact HB.out)⟩⟩
        ·rw [if_neg c10] at H
         have c10b0 : decide (((rd_T89 l0 x8_1).f1) < 1) = false := decide_eq_false c10
         clear c10
         by_cases c12 : ((rd_T89 l0 x8_1).f0) > 512
         ·rw [if_pos c12] at H
          have c12b0 : decide (512 < ((rd_T89 l0 x8_1).f0)) = true := decide_eq_true c12
          clear c12
          have H' := Aside0.mk H
          clear H
          have hcz13_0 : w6.cell? ⟨gb102, 0, none⟩ = some (.int .i64 0) := (blk_cell BK102.out 0).trans rfl
          have hcz13_1 : w6.cell? ⟨gb102, 1, none⟩ = some (.int .i64 0) := (blk_cell BK102.out 1).trans rfl
          have hcz13_2 : w6.cell? ⟨gb102, 2, none⟩ = some (.int .i64 0) := (blk_cell BK102.out 2).trans rfl
          have hfz13_0 := blk_frozen BK102.out 0
          have hfz13_1 := blk_frozen BK102.out 1
          have hfz13_2 := blk_frozen BK102.out 2
          go_wp2
          repeat (go_quiet (fail); try go_wp2)
          go_meet
          case rel => exact ⟨_, (true), (by first | rfl | (simp; done) | (simp [*]; done)), H', ⟨by have := HK1.out; first | omega | exact Nat.le_refl _⟩, ⟨by (with_reducible repeat (first | refine blk_drewN ?_ _ | refine blk_drew ?_ | refine blk_alloc ?_ _)); refine blk_put (cs := #[.int .i64 ((rd_T89 l0 x8_1).f0), .int .i64 ((rd_T89 l0 x8_1).f1), .int .i64 0]) ?_ 2 _ rfl; (with_reducible repeat (first | refine blk_drewN ?_ _ | refine blk_drew ?_ | refine blk_alloc ?_ _)); refine blk_put (cs := #[.int .i64 ((rd_T89 l0 x8_1).f0), .int .i64 0, .int .i64 0]) ?_ 1 _ rfl; (with_reducible repeat (first | refine blk_drewN ?_ _ | refine blk_drew ?_ | refine blk_alloc ?_ _)); refine blk_put (cs := #[.int .i64 0, .int .i64 0, .int .i64 0]) ?_ 0 _ rfl; (with_reducible repeat (first | refine blk_drewN ?_ _ | refine blk_drew ?_ | refine blk_alloc ?_ _)); exact BK102.out⟩, ⟨by repeat (first | (with_reducible first | exact HB.out | apply below_alloc | apply pw_below_drewN | apply below_drew1 | refine below_set ?_ GE102.out) | exact HB.out)⟩⟩
         ·rw [if_neg c12] at H
          have c12b0 : decide (512 < ((rd_T89 l0 x8_1).f0)) = false := decide_eq_false c12
          clear c12
          by_cases c14 : ((rd_T89 l0 x8_1).f1) > 512
          ·rw [if_pos c14] at H
           have c14b0 : decide (512 < ((rd_T89 l0 x8_1).f1)) = true := decide_eq_true c14
           clear c14
           have H' := Aside0.mk H
           clear H
           have hcz15_0 : w6.cell? ⟨gb102, 0, none⟩ = some (.int .i64 0) := (blk_cell BK102.out 0).trans rfl
           have hcz15_1 : w6.cell? ⟨gb102, 1, none⟩ = some (.int .i64 0) := (blk_cell BK102.out 1).trans rfl
           have hcz15_2 : w6.cell? ⟨gb102, 2, none⟩ = some (.int .i64 0) := (blk_cell BK102.out 2).trans rfl
           have hfz15_0 := blk_frozen BK102.out 0
           have hfz15_1 := blk_frozen BK102.out 1
           have hfz15_2 := blk_frozen BK102.out 2
           go_wp2
           repeat (go_quiet (fail); try go_wp2)
           go_meet
           case rel => exact ⟨_, (true), (by first | rfl | (simp; done) | (simp [*]; done)), H', ⟨by have := HK1.out; first | omega | exact Nat.le_refl _⟩, ⟨by (with_reducible repeat (first | refine blk_drewN ?_ _ | refine blk_drew ?_ | refine blk_alloc ?_ _)); refine blk_put (cs := #[.int .i64 ((rd_T89 l0 x8_1).f0), .int .i64 ((rd_T89 l0 x8_1).f1), .int .i64 0]) ?_ 2 _ rfl; (with_reducible repeat (first | refine blk_drewN ?_ _ | refine blk_drew ?_ | refine blk_alloc ?_ _)); refine blk_put (cs := #[.int .i64 ((rd_T89 l0 x8_1).f0), .int .i64 0, .int .i64 0]) ?_ 1 _ rfl; (with_reducible repeat (first | refine blk_drewN ?_ _ | refine blk_drew ?_ | refine blk_alloc ?_ _)); refine blk_put (cs := #[.int .i64 0, .int .i64 0, .int .i64 0]) ?_ 0 _ rfl; (with_reducible repeat (first | refine blk_drewN ?_ _ | refine blk_drew ?_ | refine blk_alloc ?_ _)); exact BK102.out⟩, ⟨by repeat (first | (with_reducible first | exact HB.out | apply below_alloc | apply pw_below_drewN | apply below_drew1 | refine below_set ?_ GE102.out) | exact HB.out)⟩⟩
          ·rw [if_neg c14] at H
           have c14b0 : decide (512 < ((rd_T89 l0 x8_1).f1)) = false := decide_eq_false c14
           clear c14
           have H' := Aside0.mk H
           clear H
           have hcz16_0 : w6.cell? ⟨gb102, 0, none⟩ = some (.int .i64 0) := (blk_cell BK102.out 0).trans rfl
           have hcz16_1 : w6.cell? ⟨gb102, 1, none⟩ = some (.int .i64 0) := (blk_cell BK102.out 1).trans rfl
           have hcz16_2 : w6.cell? ⟨gb102, 2, none⟩ = some (.int .i64 0) := (blk_cell BK102.out 2).trans rfl
           have hfz16_0 := blk_frozen BK102.out 0
           have hfz16_1 := blk_frozen BK102.out 1
           have hfz16_2 := blk_frozen BK102.out 2
           go_wp2
           repeat (go_quiet (fail); try go_wp2)
           go_meet
           case rel => exact ⟨_, (decide ((wrap64 (((rd_T89 l0 x8_1).f0) + ((rd_T89 l0 x8_1).f1))) > 512)), (by first | rfl | (simp; done) | (simp [*]; done)), H', ⟨by have := HK1.out; first | omega | exact Nat.le_refl _⟩, ⟨by (with_reducible repeat (first | refine blk_drewN ?_ _ | refine blk_drew ?_ | refine blk_alloc ?_ _)); refine blk_put (cs := #[.int .i64 ((rd_T89 l0 x8_1).f0), .int .i64 ((rd_T89 l0 x8_1).f1), .int .i64 0]) ?_ 2 _ rfl; (with_reducible repeat (first | refine blk_drewN ?_ _ | refine blk_drew ?_ | refine blk_alloc ?_ _)); refine blk_put (cs := #[.int .i64 ((rd_T89 l0 x8_1).f0), .int .i64 0, .int .i64 0]) ?_ 1 _ rfl; (with_reducible repeat (first | refine blk_drewN ?_ _ | refine blk_drew ?_ | refine blk_alloc ?_ _)); refine blk_put (cs := #[.int .i64 0, .int .i64 0, .int .i64 0]) ?_ 0 _ rfl; (with_reducible repeat (first | refine blk_drewN ?_ _ | refine blk_drew ?_ | refine blk_alloc ?_ _)); exact BK102.out⟩, ⟨by repeat (first | (with_reducible first | exact HB.out | apply below_alloc | apply pw_below_drewN | apply below_drew1 | refine below_set ?_ GE102.out) | exact HB.out)⟩⟩
      case rest =>
       clear HC5
       try clear c1
       try clear p1
       try clear q1
       try clear hx1
       try clear c2
       try clear c2b0
       try clear p2
       try clear c3
       try clear c3b0
       try clear c4
       try clear c4b0
       try clear c6
       try clear p6
       try clear c8
       try clear c8b0
       try clear c10
       try clear c10b0
       try clear p10
       try clear q10
       try clear hx10
       try clear c12
       try clear c12b0
       try clear c14
       try clear c14b0
       try clear hcz11_0
       try clear hcz11_1
       try clear hcz11_2
       try clear hcz13_0
       try clear hcz13_1
       try clear hcz13_2
       try clear hcz15_0
       try clear hcz15_1
       try clear hcz15_2
       try clear hcz16_0
       try clear hcz16_1
       try clear hcz16_2
       try clear hcz7_0
       try clear hcz7_1
       try clear hcz7_2
       try clear hcz9_0
       try clear hcz9_1
       try clear hcz9_2
       try clear hfz11_0
       try clear hfz11_1
       try clear hfz11_2
       try clear hfz13_0
       try clear hfz13_1
       try clear hfz13_2
       try clear hfz15_0
       try clear hfz15_1
       try clear hfz15_2
       try clear hfz16_0
       try clear hfz16_1
       try clear hfz16_2
       try clear hfz7_0
       try clear hfz7_1
       try clear hfz7_2
       try clear hfz9_0
       try clear hfz9_1
       try clear hfz9_2
       try clear hx101_0
       try clear hx101_1
       try clear hx101_2
       try clear p101
       try clear q101
       obtain ⟨kq, x38_4, rfl, HA, HJ4, BK102, HB⟩ := hcut
       cases kq with
       | zero => exact absurd HA.out (by simp [impl_inOrder.j1])
       | succ kj4 =>
        have H := HA.out
        clear HA
        simp only [impl_inOrder.j1] at H
        by_cases c17 : x38_4 = true
        ·subst c17
         have H1 : (some false) = some r := by rw [if_pos rfl] at H; exact H
         clear H
         have H := H1
         clear H1
         obtain rfl := Option.some.inj H
         go_wp2
         repeat (go_quiet (fail); try go_wp2)
         go_ret
         exact ⟨by first | rfl | (simp [errW_none, errW_some] <;> rfl) | (simp [*, errW_none, errW_some] <;> rfl), by repeat (first | (with_reducible first | exact HB.out | apply below_alloc | apply pw_below_drewN | apply below_drew1 | refine below_set ?_ GE102.out) | exact HB.out)⟩
        ·replace c17 := Bool.eq_false_iff.mpr c17
         subst c17
         have H1 : (if ((rd_T89 l0 x8_1).f2) < 1 then (impl_inOrder.j2 kj4 l0 x8_1 l0 (l0.length : Int) x8_1 true ((rd_T89 l0 x8_1).f0) ((rd_T89 l0 x8_1).f1) ((rd_T89 l0 x8_1).f2)) else (impl_inOrder.j2 kj4 l0 x8_1 l0 (l0.length : Int) x8_1 (decide (((rd_T89 l0 x8_1).f2) > 65535)) ((rd_T89 l0 x8_1).f0) ((rd_T89 l0 x8_1).f1) ((rd_T89 l0 x8_1).f2))) = some r := by rw [if_neg (show ¬ (false = true) by decide)] at H; exact H
         clear H
         have H := H1
         clear H1
         have HC18 := Aside0.mk H
         clear H
         go_upto_region 6 with (fail)
         repeat (go_quiet (fail); go_upto_region 6 with (fail))
         go_cut [46] (fun v46 wc => ∃ (kq : Nat) (x46_17 : Bool), v46 = .bool x46_17 ∧ Aside0 (impl_inOrder.j2 kq l0 x8_1 l0 (l0.length : Int) x8_1 x46_17 ((rd_T89 l0 x8_1).f0) ((rd_T89 l0 x8_1).f1) ((rd_T89 l0 x8_1).f2) = some r) ∧ Aside0 (kq ≤ kj4) ∧ Aside0 (wc.heap[gb102]? = some (.cells #[.int .i64 ((rd_T89 l0 x8_1).f0), .int .i64 ((rd_T89 l0 x8_1).f1), .int .i64 ((rd_T89 l0 x8_1).f2)] 89 (0, 0))) ∧ Aside0 (Below w.heap.size w wc))
         case first =>
          have H := HC18.out
          clear HC18
          by_cases c19 : ((rd_T89 l0 x8_1).f2) < 1
          ·rw [if_pos c19] at H
           have c19b0 : decide (((rd_T89 l0 x8_1).f2) < 1) = true := decide_eq_true c19
           clear c19
           (first | rw [c19b0] | (simp only [i64_w, i32_w]; rw [c19b0]) | skip)
           have H' := Aside0.mk H
           clear H
           have hcz20_0 : wc.cell? ⟨gb102, 0, none⟩ = some (.int .i64 ((rd_T89 l0 x8_1).f0)) := (blk_cell BK102.out 0).trans rfl
           have hcz20_1 : wc.cell? ⟨gb102, 1, none⟩ = some (.int .i64 ((rd_T89 l0 x8_1).f1)) := (blk_cell BK102.out 1).trans rfl
           have hcz20_2 : wc.cell? ⟨gb102, 2, none⟩ = some (.int .i64 ((rd_T89 l0 x8_1).f2)) := (blk_cell BK102.out 2).trans rfl
           have hfz20_0 := blk_frozen BK102.out 0
           have hfz20_1 := blk_frozen BK102.out 1
           have hfz20_2 := blk_frozen BK102.out 2
           go_wp2
           repeat (go_quiet (fail); try go_wp2)
           go_meet
           case rel => exact ⟨_, (true), (by first | rfl | (simp; done) | (simp [*]; done)), H', ⟨by have := HK1.out; have := HJ4.out; first | omega | exact Nat.le_refl _⟩, ⟨by (with_reducible repeat (first | refine blk_drewN ?_ _ | refine blk_drew ?_ | refine blk_alloc ?_ _)); exact BK102.out⟩, ⟨by repeat (first | (with_reducible first | exact HB.out | apply below_alloc | apply pw_below_drewN | apply below_drew1 | refine below_set ?_ GE102.out) | exact HB.out)⟩⟩
          ·rw [if_neg c19] at H
           have c19b0 : decide (((rd_T89 l0 x8_1).f2) < 1) = false := decide_eq_false c19
           clear c19
           (first | rw [c19b0] | (simp only [i64_w, i32_w]; rw [c19b0]) | skip)
           have H' := Aside0.mk H
           clear H
           have hcz21_0 : wc.cell? ⟨gb102, 0, none⟩ = some (.int .i64 ((rd_T89 l0 x8_1).f0)) := (blk_cell BK102.out 0).trans rfl
           have hcz21_1 : wc.cell? ⟨gb102, 1, none⟩ = some (.int .i64 ((rd_T89 l0 x8_1).f1)) := (blk_cell BK102.out 1).trans rfl
           have hcz21_2 : wc.cell? ⟨gb102, 2, none⟩ = some (.int .i64 ((rd_T89 l0 x8_1).f2)) := (blk_cell BK102.out 2).trans rfl
           have hfz21_0 := blk_frozen BK102.out 0
           have hfz21_1 := blk_frozen BK102.out 1
           have hfz21_2 := blk_frozen BK102.out 2
           go_wp2
           repeat (go_quiet (fail); try go_wp2)
           go_meet
           case rel => exact ⟨_, (decide (((rd_T89 l0 x8_1).f2) > 65535)), (by first | rfl | (simp; done) | (simp [*]; done)), H', ⟨by have := HK1.out; have := HJ4.out; first | omega | exact Nat.le_refl _⟩, ⟨by (with_reducible repeat (first | refine blk_drewN ?_ _ | refine blk_drew ?_ | refine blk_alloc ?_ _)); exact BK102.out⟩, ⟨by repeat (first | (with_reducible first | exact HB.out | apply below_alloc | apply pw_below_drewN | apply below_drew1 | refine below_set ?_ GE102.out) | exact HB.out)⟩⟩
         case rest =>
          clear HC18
          try clear c1
          try clear p1
          try clear q1
          try clear hx1
          try clear c2
          try clear c2b0
          try clear p2
          try clear c3
          try clear c3b0
          try clear c4
          try clear c4b0
          try clear c6
          try clear p6
          try clear c8
          try clear c8b0
          try clear c10
          try clear c10b0
          try clear p10
          try clear q10
          try clear hx10
          try clear c12
          try clear c12b0
          try clear c14
          try clear c14b0
          try clear c17
          try clear c19
          try clear c19b0
          try clear hcz11_0
          try clear hcz11_1
          try clear hcz11_2
          try clear hcz13_0
          try clear hcz13_1
          try clear hcz13_2
          try clear hcz15_0
          try clear hcz15_1
          try clear hcz15_2
          try clear hcz16_0
          try clear hcz16_1
          try clear hcz16_2
          try clear hcz20_0
          try clear hcz20_1
          try clear hcz20_2
          try clear hcz21_0
          try clear hcz21_1
          try clear hcz21_2
          try clear hcz7_0
          try clear hcz7_1
          try clear hcz7_2
          try clear hcz9_0
          try clear hcz9_1
          try clear hcz9_2
          try clear hfz11_0
          try clear hfz11_1
          try clear hfz11_2
          try clear hfz13_0
          try clear hfz13_1
          try clear hfz13_2
          try clear hfz15_0
          try clear hfz15_1
          try clear hfz15_2
          try clear hfz16_0
          try clear hfz16_1
          try clear hfz16_2
          try clear hfz20_0
          try clear hfz20_1
          try clear hfz20_2
          try clear hfz21_0
          try clear hfz21_1
          try clear hfz21_2
          try clear hfz7_0
          try clear hfz7_1
          try clear hfz7_2
          try clear hfz9_0
          try clear hfz9_1
          try clear hfz9_2
          try clear hx101_0
          try clear hx101_1
          try clear hx101_2
          try clear p1
          try clear p10
          try clear p101
          try clear p2
          try clear p6
          try clear q1
          try clear q10
          try clear q101
          obtain ⟨kq, x46_17, rfl, HA, HJ17, BK102, HB⟩ := hcut
          cases kq with
          | zero => exact absurd HA.out (by simp [impl_inOrder.j2])
          | succ kj17 =>
           have H := HA.out
           clear HA
           simp only [impl_inOrder.j2] at H
           by_cases c22 : x46_17 = true
           ·subst c22
            have H1 : (some false) = some r := by rw [if_pos rfl] at H; exact H
            clear H
            have H := H1
            clear H1
            obtain rfl := Option.some.inj H
            go_wp2
            repeat (go_quiet (fail); try go_wp2)
            go_ret
            exact ⟨by first | rfl | (simp [errW_none, errW_some] <;> rfl) | (simp [*, errW_none, errW_some] <;> rfl), by repeat (first | (with_reducible first | exact HB.out | apply below_alloc | apply pw_below_drewN | apply below_drew1 | refine below_set ?_ GE102.out) | exact HB.out)⟩
           ·replace c22 := Bool.eq_false_iff.mpr c22
            subst c22
            have H1 : (if x8_1 = 0 then (impl_inOrder.l0 kj17 l0 l0 (l0.length : Int) (wrap64 (x8_1 + 1))) else (if 0 ≤ (wrap64 (x8_1 - 1)) then (if (wrap64 (x8_1 - 1)) < (l0.length : Int) then (if ((rd_T89 l0 x8_1).f0) < (wrap64 (((rd_T89 l0 (wrap64 (x8_1 - 1))).f0) + ((rd_T89 l0 (wrap64 (x8_1 - 1))).f1))) then (some false) else (if ((rd_T89 l0 x8_1).f0) = (wrap64 (((rd_T89 l0 (wrap64 (x8_1 - 1))).f0) + ((rd_T89 l0 (wrap64 (x8_1 - 1))).f1))) then (if ((rd_T89 l0 x8_1).f2) = ((rd_T89 l0 (wrap64 (x8_1 - 1))).f2) then (some false) else (impl_inOrder.l0 kj17 l0 l0 (l0.length : Int) (wrap64 (x8_1 + 1)))) else (impl_inOrder.l0 kj17 l0 l0 (l0.length : Int) (wrap64 (x8_1 + 1))))) else (none)) else (none))) = some r := by rw [if_neg (show ¬ (false = true) by decide)] at H; exact H
            clear H
            have H := H1
            clear H1
            by_cases c23 : x8_1 = 0
            ·rw [if_pos c23] at H
             have c23b0 : (x8_1 == 0) = true := beq_iff_eq.mpr c23
             have c23b1 : (x8_1 != 0) = false := bne_eq_false_iff_eq.mpr c23
             clear c23
             have H' := Aside0.mk H
             clear H
             go_wp2
             repeat (go_quiet (fail); try go_wp2)
             go_roundg kj17
             case measure => have := HK1.out; have := HJ4.out; have := HJ17.out; omega
             case rel => exact ⟨(wrap64 (x8_1 + 1)), (by first | rfl | (simp; done) | (simp [*]; done)), H', ⟨by have := HK1.out; have := HJ4.out; have := HJ17.out; omega⟩, ⟨by repeat (first | (with_reducible first | exact HB.out | apply below_alloc | apply pw_below_drewN | apply below_drew1 | refine below_set ?_ GE102.out) | exact HB.out)⟩⟩
            ·rw [if_neg c23] at H
             have c23b0 : (x8_1 == 0) = false := beq_eq_false_iff_ne.mpr c23
             have c23b1 : (x8_1 != 0) = true := bne_iff_ne.mpr c23
             obtain ⟨ji24, hji24⟩ : ∃ j_ : Int, (wrap64 (x8_1 - 1)) = j_ := ⟨_, rfl⟩
             replace H : (if 0 ≤ (ji24) then (if (ji24) < (l0.length : Int) then (if ((rd_T89 l0 x8_1).f0) < (wrap64 (((rd_T89 l0 (ji24)).f0) + ((rd_T89 l0 (ji24)).f1))) then (some false) else (if ((rd_T89 l0 x8_1).f0) = (wrap64 (((rd_T89 l0 (ji24)).f0) + ((rd_T89 l0 (ji24)).f1))) then (if ((rd_T89 l0 x8_1).f2) = ((rd_T89 l0 (ji24)).f2) then (some false) else (impl_inOrder.l0 kj17 l0 l0 (l0.length : Int) (wrap64 (x8_1 + 1)))) else (impl_inOrder.l0 kj17 l0 l0 (l0.length : Int) (wrap64 (x8_1 + 1))))) else (none)) else (none)) = some r := by first | (rw [hji24] at H; exact H) | (simp only [hji24] at H ⊢; exact H)
             have hji24w : (IntKind.i64.wrap (x8_1 - 1)) = ji24 := (i64_w _).trans hji24
             by_cases c25 : 0 ≤ (ji24)
             ·rw [if_pos c25] at H
              have c25b0 : decide (0 ≤ (ji24)) = true := decide_eq_true c25
              clear c25
              by_cases c26 : (ji24) < (l0.length : Int)
              ·rw [if_pos c26] at H
               have c26b0 : decide ((ji24) < (l0.length : Int)) = true := decide_eq_true c26
               clear c26
               by_cases c27 : ((rd_T89 l0 x8_1).f0) < (wrap64 (((rd_T89 l0 (ji24)).f0) + ((rd_T89 l0 (ji24)).f1)))
               ·rw [if_pos c27] at H
                have c27b0 : decide (((rd_T89 l0 x8_1).f0) < (wrap64 (((rd_T89 l0 (ji24)).f0) + ((rd_T89 l0 (ji24)).f1)))) = true := decide_eq_true c27
                clear c27
                obtain rfl := Option.some.inj H
                have p103 : 0 ≤ ((ji24) : Int) := of_decide_eq_true (by first | (with_reducible assumption) | assumption)
                have q103 : (ji24) < (l0.length : Int) := of_decide_eq_true (by first | (with_reducible assumption) | assumption)
                obtain ⟨ad103, e103, hx103_0, hx103_1, hx103_2⟩ := at_T89 HR0.out (ji24) p103 q103
                obtain rfl : ad101 = ad103 := (by injection e103)
                replace hx103_0 := (HB.out.cell (World.block_lt_of_cell? w _ hx103_0)).trans hx103_0
                replace hx103_1 := (HB.out.cell (World.block_lt_of_cell? w _ hx103_1)).trans hx103_1
                replace hx103_2 := (HB.out.cell (World.block_lt_of_cell? w _ hx103_2)).trans hx103_2
                replace p103 := eq_true p103
                replace q103 := eq_true q103
                have p104 : 0 ≤ ((ji24) : Int) := of_decide_eq_true (by first | (with_reducible assumption) | assumption)
                have q104 : (ji24) < (l0.length : Int) := of_decide_eq_true (by first | (with_reducible assumption) | assumption)
                obtain ⟨ad104, e104, hx104_0, hx104_1, hx104_2⟩ := at_T89 HR0.out (ji24) p104 q104
                obtain rfl : ad101 = ad104 := (by injection e104)
                replace hx104_0 := (HB.out.cell (World.block_lt_of_cell? w _ hx104_0)).trans hx104_0
                replace hx104_1 := (HB.out.cell (World.block_lt_of_cell? w _ hx104_1)).trans hx104_1
                replace hx104_2 := (HB.out.cell (World.block_lt_of_cell? w _ hx104_2)).trans hx104_2
                replace p104 := eq_true p104
                replace q104 := eq_true q104
                have hcz28_0 : wc.cell? ⟨gb102, 0, none⟩ = some (.int .i64 ((rd_T89 l0 x8_1).f0)) := (blk_cell BK102.out 0).trans rfl
                have hcz28_1 : wc.cell? ⟨gb102, 1, none⟩ = some (.int .i64 ((rd_T89 l0 x8_1).f1)) := (blk_cell BK102.out 1).trans rfl
                have hcz28_2 : wc.cell? ⟨gb102, 2, none⟩ = some (.int .i64 ((rd_T89 l0 x8_1).f2)) := (blk_cell BK102.out 2).trans rfl
                have hfz28_0 := blk_frozen BK102.out 0
                have hfz28_1 := blk_frozen BK102.out 1
                have hfz28_2 := blk_frozen BK102.out 2
                go_wp2
                repeat (go_quiet (fail); try go_wp2)
                go_ret
                exact ⟨by first | rfl | (simp [errW_none, errW_some] <;> rfl) | (simp only [← hji24]; first | rfl | (simp [errW_none, errW_some] <;> rfl)) | (simp [*, errW_none, errW_some] <;> rfl), by repeat (first | (with_reducible first | exact HB.out | apply below_alloc | apply pw_below_drewN | apply below_drew1 | refine below_set ?_ GE102.out) | exact HB.out)⟩
               ·rw [if_neg c27] at H
                have c27b0 : decide (((rd_T89 l0 x8_1).f0) < (wrap64 (((rd_T89 l0 (ji24)).f0) + ((rd_T89 l0 (ji24)).f1)))) = false := decide_eq_false c27
                clear c27
                by_cases c29 : ((rd_T89 l0 x8_1).f0) = (wrap64 (((rd_T89 l0 (ji24)).f0) + ((rd_T89 l0 (ji24)).f1)))
                ·rw [if_pos c29] at H
                 have c29b0 : (((rd_T89 l0 x8_1).f0) == (wrap64 (((rd_T89 l0 (ji24)).f0) + ((rd_T89 l0 (ji24)).f1)))) = true := beq_iff_eq.mpr c29
                 have c29b1 : (((rd_T89 l0 x8_1).f0) != (wrap64 (((rd_T89 l0 (ji24)).f0) + ((rd_T89 l0 (ji24)).f1)))) = false := bne_eq_false_iff_eq.mpr c29
                 clear c29
                 by_cases c30 : ((rd_T89 l0 x8_1).f2) = ((rd_T89 l0 (ji24)).f2)
                 ·rw [if_pos c30] at H
                  have c30b0 : (((rd_T89 l0 x8_1).f2) == ((rd_T89 l0 (ji24)).f2)) = true := beq_iff_eq.mpr c30
                  have c30b1 : (((rd_T89 l0 x8_1).f2) != ((rd_T89 l0 (ji24)).f2)) = false := bne_eq_false_iff_eq.mpr c30
                  clear c30
                  obtain rfl := Option.some.inj H
                  have p103 : 0 ≤ ((ji24) : Int) := of_decide_eq_true (by first | (with_reducible assumption) | assumption)
                  have q103 : (ji24) < (l0.length : Int) := of_decide_eq_true (by first | (with_reducible assumption) | assumption)
                  obtain ⟨ad103, e103, hx103_0, hx103_1, hx103_2⟩ := at_T89 HR0.out (ji24) p103 q103
                  obtain rfl : ad101 = ad103 := (by injection e103)
                  replace hx103_0 := (HB.out.cell (World.block_lt_of_cell? w _ hx103_0)).trans hx103_0
                  replace hx103_1 := (HB.out.cell (World.block_lt_of_cell? w _ hx103_1)).trans hx103_1
                  replace hx103_2 := (HB.out.cell (World.block_lt_of_cell? w _ hx103_2)).trans hx103_2
                  replace p103 := eq_true p103
                  replace q103 := eq_true q103
                  have p104 : 0 ≤ ((ji24) : Int) := of_decide_eq_true (by first | (with_reducible assumption) | assumption)
                  have q104 : (ji24) < (l0.length : Int) := of_decide_eq_true (by first | (with_reducible assumption) | assumption)
                  obtain ⟨ad104, e104, hx104_0, hx104_1, hx104_2⟩ := at_T89 HR0.out (ji24) p104 q104
                  obtain rfl : ad101 = ad104 := (by injection e104)
                  replace hx104_0 := (HB.out.cell (World.block_lt_of_cell? w _ hx104_0)).trans hx104_0
                  replace hx104_1 := (HB.out.cell (World.block_lt_of_cell? w _ hx104_1)).trans hx104_1
                  replace hx104_2 := (HB.out.cell (World.block_lt_of_cell? w _ hx104_2)).trans hx104_2
                  replace p104 := eq_true p104
                  replace q104 := eq_true q104
                  have hcz31_0 : wc.cell? ⟨gb102, 0, none⟩ = some (.int .i64 ((rd_T89 l0 x8_1).f0)) := (blk_cell BK102.out 0).trans rfl
                  have hcz31_1 : wc.cell? ⟨gb102, 1, none⟩ = some (.int .i64 ((rd_T89 l0 x8_1).f1)) := (blk_cell BK102.out 1).trans rfl
                  have hcz31_2 : wc.cell? ⟨gb102, 2, none⟩ = some (.int .i64 ((rd_T89 l0 x8_1).f2)) := (blk_cell BK102.out 2).trans rfl
                  have hfz31_0 := blk_frozen BK102.out 0
                  have hfz31_1 := blk_frozen BK102.out 1
                  have hfz31_2 := blk_frozen BK102.out 2
                  have p105 : 0 ≤ ((ji24) : Int) := of_decide_eq_true (by first | (with_reducible assumption) | assumption)
                  have q105 : (ji24) < (l0.length : Int) := of_decide_eq_true (by first | (with_reducible assumption) | assumption)
                  obtain ⟨ad105, e105, hx105_0, hx105_1, hx105_2⟩ := at_T89 HR0.out (ji24) p105 q105
                  obtain rfl : ad101 = ad105 := (by injection e105)
                  replace hx105_0 := (HB.out.cell (World.block_lt_of_cell? w _ hx105_0)).trans hx105_0
                  replace hx105_1 := (HB.out.cell (World.block_lt_of_cell? w _ hx105_1)).trans hx105_1
                  replace hx105_2 := (HB.out.cell (World.block_lt_of_cell? w _ hx105_2)).trans hx105_2
                  replace p105 := eq_true p105
                  replace q105 := eq_true q105
                  go_wp2
                  repeat (go_quiet (fail); try go_wp2)
                  go_ret
                  exact ⟨by first | rfl | (simp [errW_none, errW_some] <;> rfl) | (simp only [← hji24]; first | rfl | (simp [errW_none, errW_some] <;> rfl)) | (simp [*, errW_none, errW_some] <;> rfl), by repeat (first | (with_reducible first | exact HB.out | apply below_alloc | apply pw_below_drewN | apply below_drew1 | refine below_set ?_ GE102.out) | exact HB.out)⟩
                 ·rw [if_neg c30] at H
                  have c30b0 : (((rd_T89 l0 x8_1).f2) == ((rd_T89 l0 (ji24)).f2)) = false := beq_eq_false_iff_ne.mpr c30
                  have c30b1 : (((rd_T89 l0 x8_1).f2) != ((rd_T89 l0 (ji24)).f2)) = true := bne_iff_ne.mpr c30
                  have H' := Aside0.mk H
                  clear H
                  have p103 : 0 ≤ ((ji24) : Int) := of_decide_eq_true (by first | (with_reducible assumption) | assumption)
                  have q103 : (ji24) < (l0.length : Int) := of_decide_eq_true (by first | (with_reducible assumption) | assumption)
                  obtain ⟨ad103, e103, hx103_0, hx103_1, hx103_2⟩ := at_T89 HR0.out (ji24) p103 q103
                  obtain rfl : ad101 = ad103 := (by injection e103)
                  replace hx103_0 := (HB.out.cell (World.block_lt_of_cell? w _ hx103_0)).trans hx103_0
                  replace hx103_1 := (HB.out.cell (World.block_lt_of_cell? w _ hx103_1)).trans hx103_1
                  replace hx103_2 := (HB.out.cell (World.block_lt_of_cell? w _ hx103_2)).trans hx103_2
                  replace p103 := eq_true p103
                  replace q103 := eq_true q103
                  have p104 : 0 ≤ ((ji24) : Int) := of_decide_eq_true (by first | (with_reducible assumption) | assumption)
                  have q104 : (ji24) < (l0.length : Int) := of_decide_eq_true (by first | (with_reducible assumption) | assumption)
                  obtain ⟨ad104, e104, hx104_0, hx104_1, hx104_2⟩ := at_T89 HR0.out (ji24) p104 q104
                  obtain rfl : ad101 = ad104 := (by injection e104)
                  replace hx104_0 := (HB.out.cell (World.block_lt_of_cell? w _ hx104_0)).trans hx104_0
                  replace hx104_1 := (HB.out.cell (World.block_lt_of_cell? w _ hx104_1)).trans hx104_1
                  replace hx104_2 := (HB.out.cell (World.block_lt_of_cell? w _ hx104_2)).trans hx104_2
                  replace p104 := eq_true p104
                  replace q104 := eq_true q104
                  have hcz32_0 : wc.cell? ⟨gb102, 0, none⟩ = some (.int .i64 ((rd_T89 l0 x8_1).f0)) := (blk_cell BK102.out 0).trans rfl
                  have hcz32_1 : wc.cell? ⟨gb102, 1, none⟩ = some (.int .i64 ((rd_T89 l0 x8_1).f1)) := (blk_cell BK102.out 1).trans rfl
                  have hcz32_2 : wc.cell? ⟨gb102, 2, none⟩ = some (.int .i64 ((rd_T89 l0 x8_1).f2)) := (blk_cell BK102.out 2).trans rfl
                  have hfz32_0 := blk_frozen BK102.out 0
                  have hfz32_1 := blk_frozen BK102.out 1
                  have hfz32_2 := blk_frozen BK102.out 2
                  have p105 : 0 ≤ ((ji24) : Int) := of_decide_eq_true (by first | (with_reducible assumption) | assumption)
                  have q105 : (ji24) < (l0.length : Int) := of_decide_eq_true (by first | (with_reducible assumption) | assumption)
                  obtain ⟨ad105, e105, hx105_0, hx105_1, hx105_2⟩ := at_T89 HR0.out (ji24) p105 q105
                  obtain rfl : ad101 = ad105 := (by injection e105)
                  replace hx105_0 := (HB.out.cell (World.block_lt_of_cell? w _ hx105_0)).trans hx105_0
                  replace hx105_1 := (HB.out.cell (World.block_lt_of_cell? w _ hx105_1)).trans hx105_1
                  replace hx105_2 := (HB.out.cell (World.block_lt_of_cell? w _ hx105_2)).trans hx105_2
                  replace p105 := eq_true p105
                  replace q105 := eq_true q105
                  go_wp2
                  repeat (go_quiet (fail); try go_wp2)
                  go_roundg kj17
                  case measure => have := HK1.out; have := HJ4.out; have := HJ17.out; omega
                  case rel => exact ⟨(wrap64 (x8_1 + 1)), (by first | rfl | (simp; done) | (simp [*]; done)), H', ⟨by have := HK1.out; have := HJ4.out; have := HJ17.out; omega⟩, ⟨by repeat (first | (with_reducible first | exact HB.out | apply below_alloc | apply pw_below_drewN | apply below_drew1 | refine below_set ?_ GE102.out) | exact HB.out)⟩⟩
                ·rw [if_neg c29] at H
                 have c29b0 : (((rd_T89 l0 x8_1).f0) == (wrap64 (((rd_T89 l0 (ji24)).f0) + ((rd_T89 l0 (ji24)).f1)))) = false := beq_eq_false_iff_ne.mpr c29
                 have c29b1 : (((rd_T89 l0 x8_1).f0) != (wrap64 (((rd_T89 l0 (ji24)).f0) + ((rd_T89 l0 (ji24)).f1)))) = true := bne_iff_ne.mpr c29
                 have H' := Aside0.mk H
                 clear H
                 have p103 : 0 ≤ ((ji24) : Int) := of_decide_eq_true (by first | (with_reducible assumption) | assumption)
                 have q103 : (ji24) < (l0.length : Int) := of_decide_eq_true (by first | (with_reducible assumption) | assumption)
                 obtain ⟨ad103, e103, hx103_0, hx103_1, hx103_2⟩ := at_T89 HR0.out (ji24) p103 q103
                 obtain rfl : ad101 = ad103 := (by injection e103)
                 replace hx103_0 := (HB.out.cell (World.block_lt_of_cell? w _ hx103_0)).trans hx103_0
                 replace hx103_1 := (HB.out.cell (World.block_lt_of_cell? w _ hx103_1)).trans hx103_1
                 replace hx103_2 := (HB.out.cell (World.block_lt_of_cell? w _ hx103_2)).trans hx103_2
                 replace p103 := eq_true p103
                 replace q103 := eq_true q103
                 have p104 : 0 ≤ ((ji24) : Int) := of_decide_eq_true (by first | (with_reducible assumption) | assumption)
                 have q104 : (ji24) < (l0.length : Int) := of_decide_eq_true (by first | (with_reducible assumption) | assumption)
                 obtain ⟨ad104, e104, hx104_0, hx104_1, hx104_2⟩ := at_T89 HR0.out (ji24) p104 q104
                 obtain rfl : ad101 = ad104 := (by injection e104)
                 replace hx104_0 := (HB.out.cell (World.block_lt_of_cell? w _ hx104_0)).trans hx104_0
                 replace hx104_1 := (HB.out.cell (World.block_lt_of_cell? w _ hx104_1)).trans hx104_1
                 replace hx104_2 := (HB.out.cell (World.block_lt_of_cell? w _ hx104_2)).trans hx104_2
                 replace p104 := eq_true p104
                 replace q104 := eq_true q104
                 have hcz33_0 : wc.cell? ⟨gb102, 0, none⟩ = some (.int .i64 ((rd_T89 l0 x8_1).f0)) := (blk_cell BK102.out 0).trans rfl
                 have hcz33_1 : wc.cell? ⟨gb102, 1, none⟩ = some (.int .i64 ((rd_T89 l0 x8_1).f1)) := (blk_cell BK102.out 1).trans rfl
                 have hcz33_2 : wc.cell? ⟨gb102, 2, none⟩ = some (.int .i64 ((rd_T89 l0 x8_1).f2)) := (blk_cell BK102.out 2).trans rfl
                 have hfz33_0 := blk_frozen BK102.out 0
                 have hfz33_1 := blk_frozen BK102.out 1
                 have hfz33_2 := blk_frozen BK102.out 2
                 go_wp2
                 repeat (go_quiet (fail); try go_wp2)
                 go_roundg kj17
                 case measure => have := HK1.out; have := HJ4.out; have := HJ17.out; omega
                 case rel => exact ⟨(wrap64 (x8_1 + 1)), (by first | rfl | (simp; done) | (simp [*]; done)), H', ⟨by have := HK1.out; have := HJ4.out; have := HJ17.out; omega⟩, ⟨by repeat (first | (with_reducible first | exact HB.out | apply below_alloc | apply pw_below_drewN | apply below_drew1 | refine below_set ?_ GE102.out) | exact HB.out)⟩⟩
              ·rw [if_neg c26] at H
               exact absurd H (by simp)
             ·rw [if_neg c25] at H
              exact absurd H (by simp)
     ·rw [if_neg c4] at H
      exact absurd H (by simp)
    ·rw [if_neg c3] at H
     exact absurd H (by simp)
   ·rw [if_neg c2] at H
    have c2b0 : decide (x8_1 < (l0.length : Int)) = false := decide_eq_false c2
    clear c2
    obtain rfl := Option.some.inj H
    go_wp2
    repeat (go_quiet (fail); try go_wp2)
    go_ret
    exact ⟨by first | rfl | (simp [errW_none, errW_some] <;> rfl) | (simp [*, errW_none, errW_some] <;> rfl), by repeat (first | (with_reducible first | exact HB.out | apply below_alloc | apply pw_below_drewN | apply below_drew1) | exact HB.out)⟩

end Go.Proofs.Ytbimmmmjdimebaa.PFnPlan
