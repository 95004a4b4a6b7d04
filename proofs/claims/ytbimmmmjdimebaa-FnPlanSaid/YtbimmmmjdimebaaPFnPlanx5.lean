-- This text was written by a program of this session (gprint.py, on a turned copy of the print tool).
import Derived.Test.YtbimmmmjdimebaaLaw
import Derived.Test.YtbimmmmjdimebaaPFnPlanx0
import Derived.Test.YtbimmmmjdimebaaPFnPlanx4
namespace Go.Proofs.Ytbimmmmjdimebaa.PFnPlan
open Go.RowKit Go.Proofs.YtbimmmmjdimebaaW.PrintWords Go.Proofs.YtbimmmmjdimebaaW.PrintLast Go.Proofs.YtbimmmmjdimebaaW.PrintMore
attribute [local go_sem] max2_int min2_int max_two min_two max_three min_three max_four min_four   -- for this text's walks alone
set_option linter.unusedVariables false
set_option linter.unusedSimpArgs false

/-! ### impl_runsOf: function 67 -/
def impl_runsOf.l0 : Nat → List (S89) → List Int → Int → Int → Option ((List (S89)))
 | 0, _, _, _, _ => none
 | k + 1, x3, x7, x8, x9 => if x9 < x8 then (if 0 ≤ x9 then (if x9 < (x7.length : Int) then (if (rd x7 x9) = 0 then (impl_runsOf.l0 k x3 x7 x8 (wrap64 (x9 + 1))) else (if (wrap64 ((x3.length : Int) - 1)) ≥ 0 then (if 0 ≤ (wrap64 ((x3.length : Int) - 1)) then (if (wrap64 ((x3.length : Int) - 1)) < (x3.length : Int) then (if (wrap64 (((rd_T89 x3 (wrap64 ((x3.length : Int) - 1))).f0) + ((rd_T89 x3 (wrap64 ((x3.length : Int) - 1))).f1))) = x9 then (if ((rd_T89 x3 (wrap64 ((x3.length : Int) - 1))).f2) = (rd x7 x9) then (impl_runsOf.l0 k (x3.set ((wrap64 ((x3.length : Int) - 1)) : Int).toNat (⟨(rd_T89 x3 (wrap64 ((x3.length : Int) - 1))).f0, wrap64 (((rd_T89 x3 (wrap64 ((x3.length : Int) - 1))).f1) + 1), (rd_T89 x3 (wrap64 ((x3.length : Int) - 1))).f2⟩ : S89)) x7 x8 (wrap64 (x9 + 1))) else (if x3.length < 5864062014805 then (impl_runsOf.l0 k (x3 ++ [(⟨x9, 1, rd x7 x9⟩ : S89)]) x7 x8 (wrap64 (x9 + 1))) else (none))) else (if x3.length < 5864062014805 then (impl_runsOf.l0 k (x3 ++ [(⟨x9, 1, rd x7 x9⟩ : S89)]) x7 x8 (wrap64 (x9 + 1))) else (none))) else (none)) else (none)) else (if x3.length < 5864062014805 then (impl_runsOf.l0 k (x3 ++ [(⟨x9, 1, rd x7 x9⟩ : S89)]) x7 x8 (wrap64 (x9 + 1))) else (none)))) else (none)) else (none)) else (some x3)
def impl_runsOf.f (k : Nat) (l0 : List Int) : Option ((List (S89))) := impl_runsOf.l0 k ([] : List (S89)) l0 (l0.length : Int) 0
set_option maxHeartbeats 8000000 in
set_option maxRecDepth 100000 in
theorem impl_runsOf.calls (k : Nat) (A0 : Option Addr) (c0 : Nat) (l0 : List Int) (r : List (S89)) (w : World) (hr0 : Kd.C (Kd.int .i64) w A0 l0.length l0) (hc0 : l0.length ≤ c0) (h : impl_runsOf.f k l0 = some r) :
  Calls Try.prog 67 #[.slice A0 l0.length c0] w fun e w' => ∃ v0_ : Value, e = .returned (v0_) ∧ Kd.R k89 89 w' w.heap.size (fun _ => True) v0_ r ∧ Below w.heap.size w w' := by
 have hu89 := Try.underlying89
 have HR0 := Aside0.mk hr0
 have HC0 := Aside0.mk hc0
 clear hr0 hc0
 have HB := Aside0.mk (Below.refl w.heap.size w)
 have H : (impl_runsOf.l0 k ([] : List (S89)) l0 (l0.length : Int) 0) = some r := h
 clear h
 have H' := Aside0.mk H
 clear H
 go_enter Try.func67, Try.ntmps67
 go_wp2
 repeat (go_quiet (fail); try go_wp2)
 go_loopg [3, 9] k (fun kq v3 v9 w' => ∃ (x3_1 : List (S89)) (x9_1 : Int), v9 = .int .i64 x9_1 ∧ Aside0 (impl_runsOf.l0 kq x3_1 l0 (l0.length : Int) x9_1 = some r) ∧ Aside0 (kq ≤ k) ∧ Aside0 (Kd.R k89 89 w' w.heap.size (fun _ => True) v3 x3_1) ∧ Aside0 (Below w.heap.size w w'))
 case atStart => exact ⟨(([] : List (S89))), (0), (by first | rfl | (simp; done) | (simp [*]; done)), H', ⟨Nat.le_refl _⟩, ⟨by first | exact Kd.R_nil _ _ _ _ _ | exact Kd.N_nil _ _ _ _ _ | exact Kd.V_nil _ _ _ _ _ | exact Kd.Q_nil _ _ _ _ _ | exact Kd.S_nil _ _ _ _ _⟩, ⟨by repeat (first | (with_reducible first | exact HB.out | apply below_alloc | apply pw_below_drewN | apply below_drew1) | exact HB.out)⟩⟩
 case round =>
  clear H'
  obtain ⟨x3_1, x9_1, rfl, HA, HK1, HO_3, HB⟩ := hrel
  cases gk with
  | zero => exact absurd HA.out (by simp [impl_runsOf.l0])
  | succ k1 =>
   have H := HA.out
   clear HA
   simp only [impl_runsOf.l0] at H
   by_cases c2 : x9_1 < (l0.length : Int)
   ·rw [if_pos c2] at H
    have c2b0 : decide (x9_1 < (l0.length : Int)) = true := decide_eq_true c2
    clear c2
    by_cases c3 : 0 ≤ x9_1
    ·rw [if_pos c3] at H
     have c3b0 : decide (0 ≤ x9_1) = true := decide_eq_true c3
     clear c3
     by_cases c4 : x9_1 < (l0.length : Int)
     ·rw [if_pos c4] at H
      have c4b0 : decide (x9_1 < (l0.length : Int)) = true := decide_eq_true c4
      clear c4
      by_cases c5 : (rd l0 x9_1) = 0
      ·rw [if_pos c5] at H
       have c5b0 : ((rd l0 x9_1) == 0) = true := beq_iff_eq.mpr c5
       have c5b1 : ((rd l0 x9_1) != 0) = false := bne_eq_false_iff_eq.mpr c5
       clear c5
       have H' := Aside0.mk H
       clear H
       have p120 : 0 ≤ (x9_1 : Int) := of_decide_eq_true (by first | (with_reducible assumption) | assumption)
       have q120 : x9_1 < (l0.length : Int) := of_decide_eq_true (by first | (with_reducible assumption) | assumption)
       obtain ⟨ad120, e120, hx120_0⟩ := Kd.at_int HR0.out x9_1 p120 q120
       cases e120
       replace hx120_0 := (HB.out.cell (World.block_lt_of_cell? w _ hx120_0)).trans hx120_0
       replace p120 := eq_true p120
       replace q120 := eq_true q120
       go_wp2
       repeat (go_quiet (fail); try go_wp2)
       go_roundg k1
       case measure => have := HK1.out; omega
       case rel => exact ⟨(x3_1), (wrap64 (x9_1 + 1)), (by first | rfl | (simp; done) | (simp [*]; done)), H', ⟨by have := HK1.out; omega⟩, ⟨by (with_reducible repeat (first | apply Kd.R_alloc | apply Kd.R_drewN | apply Kd.R_drew)); exact HO_3.out⟩, ⟨by repeat (first | (with_reducible first | exact HB.out | apply below_alloc | apply pw_below_drewN | apply below_drew1) | exact HB.out)⟩⟩
      ·rw [if_neg c5] at H
       have c5b0 : ((rd l0 x9_1) == 0) = false := beq_eq_false_iff_ne.mpr c5
       have c5b1 : ((rd l0 x9_1) != 0) = true := bne_iff_ne.mpr c5
       by_cases c6 : (wrap64 ((x3_1.length : Int) - 1)) ≥ 0
       ·rw [if_pos c6] at H
        have c6b0 : decide (0 ≤ (wrap64 ((x3_1.length : Int) - 1))) = true := decide_eq_true c6
        clear c6
        obtain ⟨ji7, hji7⟩ : ∃ j_ : Int, (wrap64 ((x3_1.length : Int) - 1)) = j_ := ⟨_, rfl⟩
        replace H : (if 0 ≤ (ji7) then (if (ji7) < (x3_1.length : Int) then (if (wrap64 (((rd_T89 x3_1 (ji7)).f0) + ((rd_T89 x3_1 (ji7)).f1))) = x9_1 then (if ((rd_T89 x3_1 (ji7)).f2) = (rd l0 x9_1) then (impl_runsOf.l0 k1 (x3_1.set ((ji7) : Int).toNat (⟨(rd_T89 x3_1 (ji7)).f0, wrap64 (((rd_T89 x3_1 (ji7)).f1) + 1), (rd_T89 x3_1 (ji7)).f2⟩ : S89)) l0 (l0.length : Int) (wrap64 (x9_1 + 1))) else (if x3_1.length < 5864062014805 then (impl_runsOf.l0 k1 (x3_1 ++ [(⟨x9_1, 1, rd l0 x9_1⟩ : S89)]) l0 (l0.length : Int) (wrap64 (x9_1 + 1))) else (none))) else (if x3_1.length < 5864062014805 then (impl_runsOf.l0 k1 (x3_1 ++ [(⟨x9_1, 1, rd l0 x9_1⟩ : S89)]) l0 (l0.length : Int) (wrap64 (x9_1 + 1))) else (none))) else (none)) else (none)) = some r := by first | (rw [hji7] at H; exact H) | (simp only [hji7] at H ⊢; exact H)
        (try rw [hji7] at c6b0)
        have hji7w : (IntKind.i64.wrap ((x3_1.length : Int) - 1)) = ji7 := (i64_w _).trans hji7
        by_cases c8 : 0 ≤ (ji7)
        ·rw [if_pos c8] at H
         have c8b0 : decide (0 ≤ (ji7)) = true := decide_eq_true c8
         clear c8
         by_cases c9 : (ji7) < (x3_1.length : Int)
         ·rw [if_pos c9] at H
          have c9b0 : decide ((ji7) < (x3_1.length : Int)) = true := decide_eq_true c9
          clear c9
          by_cases c10 : (wrap64 (((rd_T89 x3_1 (ji7)).f0) + ((rd_T89 x3_1 (ji7)).f1))) = x9_1
          ·rw [if_pos c10] at H
           have c10b0 : ((wrap64 (((rd_T89 x3_1 (ji7)).f0) + ((rd_T89 x3_1 (ji7)).f1))) == x9_1) = true := beq_iff_eq.mpr c10
           have c10b1 : ((wrap64 (((rd_T89 x3_1 (ji7)).f0) + ((rd_T89 x3_1 (ji7)).f1))) != x9_1) = false := bne_eq_false_iff_eq.mpr c10
           clear c10
           by_cases c11 : ((rd_T89 x3_1 (ji7)).f2) = (rd l0 x9_1)
           ·rw [if_pos c11] at H
            have c11b0 : (((rd_T89 x3_1 (ji7)).f2) == (rd l0 x9_1)) = true := beq_iff_eq.mpr c11
            have c11b1 : (((rd_T89 x3_1 (ji7)).f2) != (rd l0 x9_1)) = false := bne_eq_false_iff_eq.mpr c11
            clear c11
            obtain ⟨y125, hy125⟩ : ∃ y_ : List (S89), y_ = (x3_1.set ((ji7) : Int).toNat (⟨(rd_T89 x3_1 (ji7)).f0, wrap64 (((rd_T89 x3_1 (ji7)).f1) + 1), (rd_T89 x3_1 (ji7)).f2⟩ : S89)) := ⟨_, rfl⟩
            replace H : (impl_runsOf.l0 k1 y125 l0 (l0.length : Int) (wrap64 (x9_1 + 1))) = some r := by first | (rw [hy125]; with_reducible exact H) | (have H2_ := (Option.bind_some _ _).symm.trans H; rw [hy125]; with_reducible exact H2_) | (have H2_ := (Option.bind_some _ _).symm.trans H; with_reducible exact H2_) | with_reducible exact H | (rw [hy125]; exact H) | exact H
            have Ny125 := Aside0.mk hy125
            clear hy125
            have H' := Aside0.mk H
            clear H
            have p120 : 0 ≤ (x9_1 : Int) := of_decide_eq_true (by first | (with_reducible assumption) | assumption)
            have q120 : x9_1 < (l0.length : Int) := of_decide_eq_true (by first | (with_reducible assumption) | assumption)
            obtain ⟨ad120, e120, hx120_0⟩ := Kd.at_int HR0.out x9_1 p120 q120
            cases e120
            replace hx120_0 := (HB.out.cell (World.block_lt_of_cell? w _ hx120_0)).trans hx120_0
            replace p120 := eq_true p120
            replace q120 := eq_true q120
            obtain ⟨Ao13, co13, eo13⟩ := Kd.R_slice HO_3.out
            subst eo13
            have p121 : 0 ≤ ((ji7) : Int) := of_decide_eq_true (by first | (with_reducible assumption) | assumption)
            have q121 : (ji7) < (x3_1.length : Int) := of_decide_eq_true (by first | (with_reducible assumption) | assumption)
            obtain ⟨ad121, e121, hx121_0, hx121_1, hx121_2⟩ := at_T89 (Kd.R_reads' HO_3.out).2.2 (ji7) p121 q121
            cases e121
            replace p121 := eq_true p121
            replace q121 := eq_true q121
            have p122 : 0 ≤ ((ji7) : Int) := of_decide_eq_true (by first | (with_reducible assumption) | assumption)
            have q122 : (ji7) < (x3_1.length : Int) := of_decide_eq_true (by first | (with_reducible assumption) | assumption)
            obtain ⟨ad122, e122, hx122_0, hx122_1, hx122_2⟩ := at_T89 (Kd.R_reads' HO_3.out).2.2 (ji7) p122 q122
            obtain rfl : ad121 = ad122 := (by injection e122)
            replace p122 := eq_true p122
            replace q122 := eq_true q122
            have p123 : 0 ≤ ((ji7) : Int) := of_decide_eq_true (by first | (with_reducible assumption) | assumption)
            have q123 : (ji7) < (x3_1.length : Int) := of_decide_eq_true (by first | (with_reducible assumption) | assumption)
            obtain ⟨ad123, e123, hx123_0, hx123_1, hx123_2⟩ := at_T89 (Kd.R_reads' HO_3.out).2.2 (ji7) p123 q123
            obtain rfl : ad121 = ad123 := (by injection e123)
            replace p123 := eq_true p123
            replace q123 := eq_true q123
            have p124 : 0 ≤ ((ji7) : Int) := of_decide_eq_true (by first | (with_reducible assumption) | assumption)
            have q124 : (ji7) < (x3_1.length : Int) := of_decide_eq_true (by first | (with_reducible assumption) | assumption)
            obtain ⟨ad124, e124, hx124_0, hx124_1, hx124_2⟩ := at_T89 (Kd.R_reads' HO_3.out).2.2 (ji7) p124 q124
            obtain rfl : ad121 = ad124 := (by injection e124)
            replace p124 := eq_true p124
            replace q124 := eq_true q124
            have p12 : 0 ≤ ((ji7) : Int) := of_decide_eq_true (by first | (with_reducible assumption) | assumption)
            have q12 : ((ji7) : Int) < ((x3_1.length : Int) : Int) := of_decide_eq_true (by first | (with_reducible assumption) | assumption)
            obtain ⟨go12, co12, eo12, gb12, gl12, cl12, HG12⟩ := Kd.R_form HO_3.out (by omega)
            (first | cases eo12 | (injection eo12 with ea_ en_ ec_; (first | subst ea_ | (injection ea_ with ea_; subst ea_)); subst ec_; clear en_))
            have GB12 := Aside0.mk gb12
            have GG12 := Aside0.mk HG12
            clear gb12 gl12 HG12
            (first | simp only [add_plain] at hx121_0 | skip)
            (first | simp only [add_plain] at hx121_1 | skip)
            (first | simp only [add_plain] at hx121_2 | skip)
            (first | simp only [add_plain] at hx122_0 | skip)
            (first | simp only [add_plain] at hx122_1 | skip)
            (first | simp only [add_plain] at hx122_2 | skip)
            (first | simp only [add_plain] at hx123_0 | skip)
            (first | simp only [add_plain] at hx123_1 | skip)
            (first | simp only [add_plain] at hx123_2 | skip)
            (first | simp only [add_plain] at hx124_0 | skip)
            (first | simp only [add_plain] at hx124_1 | skip)
            (first | simp only [add_plain] at hx124_2 | skip)
            obtain ⟨ce12, hcl12, hM12, hcc12, hfr12⟩ := Kd.R_elem HO_3.out z89 ((ji7) : Int) p12 q12
            obtain rfl := k89_openM hM12
            have hx12_0 : wr.cell? ⟨go12, ((ji7) : Int).toNat * 3, none⟩ = some (.int .i64 ((rd_T89 x3_1 (ji7)).f0)) := hcc12 0 _ rfl
            have hx12_1 : wr.cell? ⟨go12, ((ji7) : Int).toNat * 3 + 1, none⟩ = some (.int .i64 ((rd_T89 x3_1 (ji7)).f1)) := hcc12 1 _ rfl
            have hx12_2 : wr.cell? ⟨go12, ((ji7) : Int).toNat * 3 + 2, none⟩ = some (.int .i64 ((rd_T89 x3_1 (ji7)).f2)) := hcc12 2 _ rfl
            have hf12_0 : wr.frozen? ⟨go12, ((ji7) : Int).toNat * 3, none⟩ = false := hfr12 0
            have hf12_1 : wr.frozen? ⟨go12, ((ji7) : Int).toNat * 3 + 1, none⟩ = false := hfr12 1
            have hf12_2 : wr.frozen? ⟨go12, ((ji7) : Int).toNat * 3 + 2, none⟩ = false := hfr12 2
            clear hcl12 hcc12 hfr12 hM12
            replace p12 := eq_true p12
            replace q12 := eq_true q12
            have HX14 := Aside0.mk (show Kd.R k89 89 wr w.heap.size (fun _ => True) (.slice (some ⟨go12, 0, none⟩) x3_1.length co13) x3_1 from (Law.rg HO_3.out))
            obtain ⟨ce14, hcl14, hM14, hcc14, hfr14⟩ := Kd.R_elem HX14.out z89 ((ji7) : Int) (of_decide_eq_true (by first | (with_reducible assumption) | assumption)) (by have h_ : ((ji7) : Int) < ((x3_1.length : Int) : Int) := of_decide_eq_true (by first | (with_reducible assumption) | assumption); first | exact h_ | (have e_ := (Kd.R_reads' HO_3.out).1; omega) | simpa using h_)
            obtain rfl := k89_openM hM14
            have HP14 := Kd.R_seg HX14.out ((ji7) : Int) (of_decide_eq_true (by first | (with_reducible assumption) | assumption)) (by have h_ : ((ji7) : Int) < ((x3_1.length : Int) : Int) := of_decide_eq_true (by first | (with_reducible assumption) | assumption); first | exact h_ | (have e_ := (Kd.R_reads' HO_3.out).1; omega) | simpa using h_) (seg := [.int .i64 (wrap64 (((rd_T89 x3_1 (ji7)).f1) + 1))]) (j := 1) hcl14 hcc14 (show 2 ≤ 3 from by decide) (x' := (⟨(rd_T89 x3_1 (ji7)).f0, wrap64 (((rd_T89 x3_1 (ji7)).f1) + 1), (rd_T89 x3_1 (ji7)).f2⟩ : S89)) (k89_mkM _ _ _ (⟨(rd_T89 x3_1 (ji7)).f0, wrap64 (((rd_T89 x3_1 (ji7)).f1) + 1), (rd_T89 x3_1 (ji7)).f2⟩ : S89) ) (fun _ hk => hk)
            have hx14_1 := hcc14 1 _ rfl
            (try simp only [show (k89).sz = 3 from rfl, Nat.mul_one, Nat.add_zero] at hx14_1)
            have hf14_1 := hfr14 1
            (try simp only [show (k89).sz = 3 from rfl, Nat.mul_one, Nat.add_zero] at hf14_1)
            clear hcl14 hcc14 hfr14 hM14
            go_wp2_with (first | ((with_reducible refine gate_store (t := 2) (p := 52) rfl ?_); (try (rw [drewN_self wr]; generalize hq_ : World.drewN wr _ = wr; have n0_ := Aside0.mk (Kd.R_at hq_ HO_3.out); have n1_ := Aside0.mk (below_at hq_ HB.out); clear hq_ HO_3 HB; have HO_3 := n0_; have HB := n1_; clear n0_ n1_; (try (have HX14 := Aside0.mk (show Kd.R k89 89 wr w.heap.size (fun _ => True) (.slice (some ⟨go12, 0, none⟩) x3_1.length co13) x3_1 from (Law.rg HO_3.out)))); (try (obtain ⟨ce14, hcl14, hM14, hcc14, hfr14⟩ := Kd.R_elem HX14.out z89 ((ji7) : Int) (of_decide_eq_true (by first | (with_reducible assumption) | assumption)) (by have h_ : ((ji7) : Int) < ((x3_1.length : Int) : Int) := of_decide_eq_true (by first | (with_reducible assumption) | assumption); first | exact h_ | (have e_ := (Kd.R_reads' HO_3.out).1; omega) | simpa using h_))); (try (obtain rfl := k89_openM hM14)); (try (have HP14 := Kd.R_seg HX14.out ((ji7) : Int) (of_decide_eq_true (by first | (with_reducible assumption) | assumption)) (by have h_ : ((ji7) : Int) < ((x3_1.length : Int) : Int) := of_decide_eq_true (by first | (with_reducible assumption) | assumption); first | exact h_ | (have e_ := (Kd.R_reads' HO_3.out).1; omega) | simpa using h_) (seg := [.int .i64 (wrap64 (((rd_T89 x3_1 (ji7)).f1) + 1))]) (j := 1) hcl14 hcc14 (show 2 ≤ 3 from by decide) (x' := (⟨(rd_T89 x3_1 (ji7)).f0, wrap64 (((rd_T89 x3_1 (ji7)).f1) + 1), (rd_T89 x3_1 (ji7)).f2⟩ : S89)) (k89_mkM _ _ _ (⟨(rd_T89 x3_1 (ji7)).f0, wrap64 (((rd_T89 x3_1 (ji7)).f1) + 1), (rd_T89 x3_1 (ji7)).f2⟩ : S89) ) (fun _ hk => hk))); (try (have hx14_1 := hcc14 1 _ rfl)); (try (try simp only [show (k89).sz = 3 from rfl, Nat.mul_one, Nat.add_zero] at hx14_1)); (try (have hf14_1 := hfr14 1)); (try (try simp only [show (k89).sz = 3 from rfl, Nat.mul_one, Nat.add_zero] at hf14_1)); (try (clear hcl14 hcc14 hfr14 hM14)))); refine store_event (t := 2) (p := 52) (v := ?vo_w15) (w1 := (wr.setCell ⟨go12, ((ji7) : Int).toNat * 3 + 1, none⟩ (.int .i64 (wrap64 (((rd_T89 x3_1 (ji7)).f1) + 1))))) ?hg ?ho ?hn ?hr ?_; (case ho => rfl); (case hg => rfl); (case hn => rfl); (case hr => first | (go_simp; done) | (go_simp; rfl)); intro w15 hw; have hg : wr.grownBy w15 (some go12) := (by rw [hw]; exact HP14.2); have hp_ : Kd.R k89 89 w15 w.heap.size (fun _ => True) (.slice (some ⟨go12, 0, none⟩) x3_1.length co13) y125 := (by rw [hw, Ny125.out]; exact HP14.1); clear HP14; replace HO_3 := Aside0.mk (hp_); replace HB := Aside0.mk ((by rw [hw]; exact below_set (HB.out) GB12.out : Below w.heap.size w w15)); clear hg hw hp_))
            repeat (go_quiet (first | ((with_reducible refine gate_store (t := 2) (p := 52) rfl ?_); (try (rw [drewN_self wr]; generalize hq_ : World.drewN wr _ = wr; have n0_ := Aside0.mk (Kd.R_at hq_ HO_3.out); have n1_ := Aside0.mk (below_at hq_ HB.out); clear hq_ HO_3 HB; have HO_3 := n0_; have HB := n1_; clear n0_ n1_; (try (have HX14 := Aside0.mk (show Kd.R k89 89 wr w.heap.size (fun _ => True) (.slice (some ⟨go12, 0, none⟩) x3_1.length co13) x3_1 from (Law.rg HO_3.out)))); (try (obtain ⟨ce14, hcl14, hM14, hcc14, hfr14⟩ := Kd.R_elem HX14.out z89 ((ji7) : Int) (of_decide_eq_true (by first | (with_reducible assumption) | assumption)) (by have h_ : ((ji7) : Int) < ((x3_1.length : Int) : Int) := of_decide_eq_true (by first | (with_reducible assumption) | assumption); first | exact h_ | (have e_ := (Kd.R_reads' HO_3.out).1; omega) | simpa using h_))); (try (obtain rfl := k89_openM hM14)); (try (have HP14 := Kd.R_seg HX14.out ((ji7) : Int) (of_decide_eq_true (by first | (with_reducible assumption) | assumption)) (by have h_ : ((ji7) : Int) < ((x3_1.length : Int) : Int) := of_decide_eq_true (by first | (with_reducible assumption) | assumption); first | exact h_ | (have e_ := (Kd.R_reads' HO_3.out).1; omega) | simpa using h_) (seg := [.int .i64 (wrap64 (((rd_T89 x3_1 (ji7)).f1) + 1))]) (j := 1) hcl14 hcc14 (show 2 ≤ 3 from by decide) (x' := (⟨(rd_T89 x3_1 (ji7)).f0, wrap64 (((rd_T89 x3_1 (ji7)).f1) + 1), (rd_T89 x3_1 (ji7)).f2⟩ : S89)) (k89_mkM _ _ _ (⟨(rd_T89 x3_1 (ji7)).f0, wrap64 (((rd_T89 x3_1 (ji7)).f1) + 1), (rd_T89 x3_1 (ji7)).f2⟩ : S89) ) (fun _ hk => hk))); (try (have hx14_1 := hcc14 1 _ rfl)); (try (try simp only [show (k89).sz = 3 from rfl, Nat.mul_one, Nat.add_zero] at hx14_1)); (try (have hf14_1 := hfr14 1)); (try (try simp only [show (k89).sz = 3 from rfl, Nat.mul_one, Nat.add_zero] at hf14_1)); (try (clear hcl14 hcc14 hfr14 hM14)))); refine store_event (t := 2) (p := 52) (v := ?vo_w15) (w1 := (wr.setCell ⟨go12, ((ji7) : Int).toNat * 3 + 1, none⟩ (.int .i64 (wrap64 (((rd_T89 x3_1 (ji7)).f1) + 1))))) ?hg ?ho ?hn ?hr ?_; (case ho => rfl); (case hg => rfl); (case hn => rfl); (case hr => first | (go_simp; done) | (go_simp; rfl)); intro w15 hw; have hg : wr.grownBy w15 (some go12) := (by rw [hw]; exact HP14.2); have hp_ : Kd.R k89 89 w15 w.heap.size (fun _ => True) (.slice (some ⟨go12, 0, none⟩) x3_1.length co13) y125 := (by rw [hw, Ny125.out]; exact HP14.1); clear HP14; replace HO_3 := Aside0.mk (hp_); replace HB := Aside0.mk ((by rw [hw]; exact below_set (HB.out) GB12.out : Below w.heap.size w w15)); clear hg hw hp_)); try go_wp2_with (first | ((with_reducible refine gate_store (t := 2) (p := 52) rfl ?_); (try (rw [drewN_self wr]; generalize hq_ : World.drewN wr _ = wr; have n0_ := Aside0.mk (Kd.R_at hq_ HO_3.out); have n1_ := Aside0.mk (below_at hq_ HB.out); clear hq_ HO_3 HB; have HO_3 := n0_; have HB := n1_; clear n0_ n1_; (try (have HX14 := Aside0.mk (show Kd.R k89 89 wr w.heap.size (fun _ => True) (.slice (some ⟨go12, 0, none⟩) x3_1.length co13) x3_1 from (Law.rg HO_3.out)))); (try (obtain ⟨ce14, hcl14, hM14, hcc14, hfr14⟩ := Kd.R_elem HX14.out z89 ((ji7) : Int) (of_decide_eq_true (by first | (with_reducible assumption) | assumption)) (by have h_ : ((ji7) : Int) < ((x3_1.length : Int) : Int) := of_decide_eq_true (by first | (with_reducible assumption) | assumption); first | exact h_ | (have e_ := (Kd.R_reads' HO_3.out).1; omega) | simpa using h_))); (try (obtain rfl := k89_openM hM14)); (try (have HP14 := Kd.R_seg HX14.out ((ji7) : Int) (of_decide_eq_true (by first | (with_reducible assumption) | assumption)) (by have h_ : ((ji7) : Int) < ((x3_1.length : Int) : Int) := of_decide_eq_true (by first | (with_reducible assumption) | assumption); first | exact h_ | (have e_ := (Kd.R_reads' HO_3.out).1; omega) | simpa using h_) (seg := [.int .i64 (wrap64 (((rd_T89 x3_1 (ji7)).f1) + 1))]) (j := 1) hcl14 hcc14 (show 2 ≤ 3 from by decide) (x' := (⟨(rd_T89 x3_1 (ji7)).f0, wrap64 (((rd_T89 x3_1 (ji7)).f1) + 1), (rd_T89 x3_1 (ji7)).f2⟩ : S89)) (k89_mkM _ _ _ (⟨(rd_T89 x3_1 (ji7)).f0, wrap64 (((rd_T89 x3_1 (ji7)).f1) + 1), (rd_T89 x3_1 (ji7)).f2⟩ : S89) ) (fun _ hk => hk))); (try (have hx14_1 := hcc14 1 _ rfl)); (try (try simp only [show (k89).sz = 3 from rfl, Nat.mul_one, Nat.add_zero] at hx14_1)); (try (have hf14_1 := hfr14 1)); (try (try simp only [show (k89).sz = 3 from rfl, Nat.mul_one, Nat.add_zero] at hf14_1)); (try (clear hcl14 hcc14 hfr14 hM14)))); refine store_event (t := 2) (p := 52) (v := ?vo_w15) (w1 := (wr.setCell ⟨go12, ((ji7) : Int).toNat * 3 + 1, none⟩ (.int .i64 (wrap64 (((rd_T89 x3_1 (ji7)).f1) + 1))))) ?hg ?ho ?hn ?hr ?_; (case ho => rfl); (case hg => rfl); (case hn => rfl); (case hr => first | (go_simp; done) | (go_simp; rfl)); intro w15 hw; have hg : wr.grownBy w15 (some go12) := (by rw [hw]; exact HP14.2); have hp_ : Kd.R k89 89 w15 w.heap.size (fun _ => True) (.slice (some ⟨go12, 0, none⟩) x3_1.length co13) y125 := (by rw [hw, Ny125.out]; exact HP14.1); clear HP14; replace HO_3 := Aside0.mk (hp_); replace HB := Aside0.mk ((by rw [hw]; exact below_set (HB.out) GB12.out : Below w.heap.size w w15)); clear hg hw hp_)))
            go_roundg k1
            case measure => have := HK1.out; omega
            case rel => exact ⟨(y125), (wrap64 (x9_1 + 1)), (by first | rfl | (simp; done) | (simp [*]; done)), H', ⟨by have := HK1.out; omega⟩, ⟨by (with_reducible repeat (first | apply Kd.R_alloc | apply Kd.R_drewN | apply Kd.R_drew)); exact HO_3.out⟩, ⟨by repeat (first | (with_reducible first | exact HB.out | apply below_alloc | apply pw_below_drewN | apply below_drew1) | exact HB.out)⟩⟩
           ·rw [if_neg c11] at H
            have c11b0 : (((rd_T89 x3_1 (ji7)).f2) == (rd l0 x9_1)) = false := beq_eq_false_iff_ne.mpr c11
            have c11b1 : (((rd_T89 x3_1 (ji7)).f2) != (rd l0 x9_1)) = true := bne_iff_ne.mpr c11
            by_cases c16 : x3_1.length < 5864062014805
            ·rw [if_pos c16] at H
             have LMc16 := Aside0.mk c16
             clear c16
             obtain ⟨y126, hy126⟩ : ∃ y_ : List (S89), y_ = (x3_1 ++ [(⟨x9_1, 1, rd l0 x9_1⟩ : S89)]) := ⟨_, rfl⟩
             replace H : (impl_runsOf.l0 k1 y126 l0 (l0.length : Int) (wrap64 (x9_1 + 1))) = some r := by first | (rw [hy126]; with_reducible exact H) | (have H2_ := (Option.bind_some _ _).symm.trans H; rw [hy126]; with_reducible exact H2_) | (have H2_ := (Option.bind_some _ _).symm.trans H; with_reducible exact H2_) | with_reducible exact H | (rw [hy126]; exact H) | exact H
             have Ny126 := Aside0.mk hy126
             clear hy126
             have H' := Aside0.mk H
             clear H
             have p120 : 0 ≤ (x9_1 : Int) := of_decide_eq_true (by first | (with_reducible assumption) | assumption)
             have q120 : x9_1 < (l0.length : Int) := of_decide_eq_true (by first | (with_reducible assumption) | assumption)
             obtain ⟨ad120, e120, hx120_0⟩ := Kd.at_int HR0.out x9_1 p120 q120
             cases e120
             replace hx120_0 := (HB.out.cell (World.block_lt_of_cell? w _ hx120_0)).trans hx120_0
             replace p120 := eq_true p120
             replace q120 := eq_true q120
             obtain ⟨Ao17, co17, eo17⟩ := Kd.R_slice HO_3.out
             subst eo17
             have p121 : 0 ≤ ((ji7) : Int) := of_decide_eq_true (by first | (with_reducible assumption) | assumption)
             have q121 : (ji7) < (x3_1.length : Int) := of_decide_eq_true (by first | (with_reducible assumption) | assumption)
             obtain ⟨ad121, e121, hx121_0, hx121_1, hx121_2⟩ := at_T89 (Kd.R_reads' HO_3.out).2.2 (ji7) p121 q121
             cases e121
             replace p121 := eq_true p121
             replace q121 := eq_true q121
             have p122 : 0 ≤ ((ji7) : Int) := of_decide_eq_true (by first | (with_reducible assumption) | assumption)
             have q122 : (ji7) < (x3_1.length : Int) := of_decide_eq_true (by first | (with_reducible assumption) | assumption)
             obtain ⟨ad122, e122, hx122_0, hx122_1, hx122_2⟩ := at_T89 (Kd.R_reads' HO_3.out).2.2 (ji7) p122 q122
             obtain rfl : ad121 = ad122 := (by injection e122)
             replace p122 := eq_true p122
             replace q122 := eq_true q122
             have p123 : 0 ≤ ((ji7) : Int) := of_decide_eq_true (by first | (with_reducible assumption) | assumption)
             have q123 : (ji7) < (x3_1.length : Int) := of_decide_eq_true (by first | (with_reducible assumption) | assumption)
             obtain ⟨ad123, e123, hx123_0, hx123_1, hx123_2⟩ := at_T89 (Kd.R_reads' HO_3.out).2.2 (ji7) p123 q123
             obtain rfl : ad121 = ad123 := (by injection e123)
             replace p123 := eq_true p123
             replace q123 := eq_true q123
             go_wp2_with (first | ((with_reducible refine gate_builtin (b := .append) (xs := #[.tmp 53, .tmp 57]) rfl ?_); at_builtin; refine Kd.R_append k89 (w0 := w) w.heap.size rfl (.tmp 53) (.tmp 57) 27 89 (.agg #[(.int .i64 0), (.int .i64 0), (.int .i64 0)]) 24 rfl Try.underlying27 info89 rfl (by decide) (by omega) (.slice (some ad121) x3_1.length co17) x3_1 (⟨x9_1, 1, rd l0 x9_1⟩ : S89) [.int .i64 x9_1, .int .i64 1, .int .i64 (rd l0 x9_1)] (fun _ => True) (fun _ => False) rfl rfl ?aP (fun _ hk => hk.elim) ?aF ?aO ?aB ?aS ?aL ?_; (case aP => exact k89_mkM _ _ _ (⟨x9_1, 1, rd l0 x9_1⟩ : S89)); (case aB => exact (Law.bg HB.out)); (case aF => exact (fun _ _ => trivial)); (case aO => exact (Law.rg HO_3.out)); (case aS => exact (below_size (Law.bg HB.out))); (case aL => have := LMc16.out; omega); intro v127 w18 ho hb hg hat; rw [← Ny126.out] at ho; have HO128 := Aside0.mk (ho); replace HB := Aside0.mk (hb); clear HO_3; clear ho hb hg hat))
             repeat (go_quiet (first | ((with_reducible refine gate_builtin (b := .append) (xs := #[.tmp 53, .tmp 57]) rfl ?_); at_builtin; refine Kd.R_append k89 (w0 := w) w.heap.size rfl (.tmp 53) (.tmp 57) 27 89 (.agg #[(.int .i64 0), (.int .i64 0), (.int .i64 0)]) 24 rfl Try.underlying27 info89 rfl (by decide) (by omega) (.slice (some ad121) x3_1.length co17) x3_1 (⟨x9_1, 1, rd l0 x9_1⟩ : S89) [.int .i64 x9_1, .int .i64 1, .int .i64 (rd l0 x9_1)] (fun _ => True) (fun _ => False) rfl rfl ?aP (fun _ hk => hk.elim) ?aF ?aO ?aB ?aS ?aL ?_; (case aP => exact k89_mkM _ _ _ (⟨x9_1, 1, rd l0 x9_1⟩ : S89)); (case aB => exact (Law.bg HB.out)); (case aF => exact (fun _ _ => trivial)); (case aO => exact (Law.rg HO_3.out)); (case aS => exact (below_size (Law.bg HB.out))); (case aL => have := LMc16.out; omega); intro v127 w18 ho hb hg hat; rw [← Ny126.out] at ho; have HO128 := Aside0.mk (ho); replace HB := Aside0.mk (hb); clear HO_3; clear ho hb hg hat)); try go_wp2_with (first | ((with_reducible refine gate_builtin (b := .append) (xs := #[.tmp 53, .tmp 57]) rfl ?_); at_builtin; refine Kd.R_append k89 (w0 := w) w.heap.size rfl (.tmp 53) (.tmp 57) 27 89 (.agg #[(.int .i64 0), (.int .i64 0), (.int .i64 0)]) 24 rfl Try.underlying27 info89 rfl (by decide) (by omega) (.slice (some ad121) x3_1.length co17) x3_1 (⟨x9_1, 1, rd l0 x9_1⟩ : S89) [.int .i64 x9_1, .int .i64 1, .int .i64 (rd l0 x9_1)] (fun _ => True) (fun _ => False) rfl rfl ?aP (fun _ hk => hk.elim) ?aF ?aO ?aB ?aS ?aL ?_; (case aP => exact k89_mkM _ _ _ (⟨x9_1, 1, rd l0 x9_1⟩ : S89)); (case aB => exact (Law.bg HB.out)); (case aF => exact (fun _ _ => trivial)); (case aO => exact (Law.rg HO_3.out)); (case aS => exact (below_size (Law.bg HB.out))); (case aL => have := LMc16.out; omega); intro v127 w18 ho hb hg hat; rw [← Ny126.out] at ho; have HO128 := Aside0.mk (ho); replace HB := Aside0.mk (hb); clear HO_3; clear ho hb hg hat)))
             go_roundg k1
             case measure => have := HK1.out; omega
             case rel => exact ⟨(y126), (wrap64 (x9_1 + 1)), (by first | rfl | (simp; done) | (simp [*]; done)), H', ⟨by have := HK1.out; omega⟩, ⟨by (with_reducible repeat (first | apply Kd.R_alloc | apply Kd.R_drewN | apply Kd.R_drew)); exact HO128.out⟩, ⟨by repeat (first | (with_reducible first | exact HB.out | apply below_alloc | apply pw_below_drewN | apply below_drew1) | exact HB.out)⟩⟩
            ·rw [if_neg c16] at H
             exact absurd H (by simp)
          ·rw [if_neg c10] at H
           have c10b0 : ((wrap64 (((rd_T89 x3_1 (ji7)).f0) + ((rd_T89 x3_1 (ji7)).f1))) == x9_1) = false := beq_eq_false_iff_ne.mpr c10
           have c10b1 : ((wrap64 (((rd_T89 x3_1 (ji7)).f0) + ((rd_T89 x3_1 (ji7)).f1))) != x9_1) = true := bne_iff_ne.mpr c10
           by_cases c19 : x3_1.length < 5864062014805
           ·rw [if_pos c19] at H
            have LMc19 := Aside0.mk c19
            clear c19
            obtain ⟨y129, hy129⟩ : ∃ y_ : List (S89), y_ = (x3_1 ++ [(⟨x9_1, 1, rd l0 x9_1⟩ : S89)]) := ⟨_, rfl⟩
            replace H : (impl_runsOf.l0 k1 y129 l0 (l0.length : Int) (wrap64 (x9_1 + 1))) = some r := by first | (rw [hy129]; with_reducible exact H) | (have H2_ := (Option.bind_some _ _).symm.trans H; rw [hy129]; with_reducible exact H2_) | (have H2_ := (Option.bind_some _ _).symm.trans H; with_reducible exact H2_) | with_reducible exact H | (rw [hy129]; exact H) | exact H
            have Ny129 := Aside0.mk hy129
            clear hy129
            have H' := Aside0.mk H
            clear H
            have p120 : 0 ≤ (x9_1 : Int) := of_decide_eq_true (by first | (with_reducible assumption) | assumption)
            have q120 : x9_1 < (l0.length : Int) := of_decide_eq_true (by first | (with_reducible assumption) | assumption)
            obtain ⟨ad120, e120, hx120_0⟩ := Kd.at_int HR0.out x9_1 p120 q120
            cases e120
            replace hx120_0 := (HB.out.cell (World.block_lt_of_cell? w _ hx120_0)).trans hx120_0
            replace p120 := eq_true p120
            replace q120 := eq_true q120
            obtain ⟨Ao20, co20, eo20⟩ := Kd.R_slice HO_3.out
            subst eo20
            have p121 : 0 ≤ ((ji7) : Int) := of_decide_eq_true (by first | (with_reducible assumption) | assumption)
            have q121 : (ji7) < (x3_1.length : Int) := of_decide_eq_true (by first | (with_reducible assumption) | assumption)
            obtain ⟨ad121, e121, hx121_0, hx121_1, hx121_2⟩ := at_T89 (Kd.R_reads' HO_3.out).2.2 (ji7) p121 q121
            cases e121
            replace p121 := eq_true p121
            replace q121 := eq_true q121
            have p122 : 0 ≤ ((ji7) : Int) := of_decide_eq_true (by first | (with_reducible assumption) | assumption)
            have q122 : (ji7) < (x3_1.length : Int) := of_decide_eq_true (by first | (with_reducible assumption) | assumption)
            obtain ⟨ad122, e122, hx122_0, hx122_1, hx122_2⟩ := at_T89 (Kd.R_reads' HO_3.out).2.2 (ji7) p122 q122
            obtain rfl : ad121 = ad122 := (by injection e122)
            replace p122 := eq_true p122
            replace q122 := eq_true q122
            go_wp2_with (first | ((with_reducible refine gate_builtin (b := .append) (xs := #[.tmp 53, .tmp 57]) rfl ?_); at_builtin; refine Kd.R_append k89 (w0 := w) w.heap.size rfl (.tmp 53) (.tmp 57) 27 89 (.agg #[(.int .i64 0), (.int .i64 0), (.int .i64 0)]) 24 rfl Try.underlying27 info89 rfl (by decide) (by omega) (.slice (some ad121) x3_1.length co20) x3_1 (⟨x9_1, 1, rd l0 x9_1⟩ : S89) [.int .i64 x9_1, .int .i64 1, .int .i64 (rd l0 x9_1)] (fun _ => True) (fun _ => False) rfl rfl ?aP (fun _ hk => hk.elim) ?aF ?aO ?aB ?aS ?aL ?_; (case aP => exact k89_mkM _ _ _ (⟨x9_1, 1, rd l0 x9_1⟩ : S89)); (case aB => exact (Law.bg HB.out)); (case aF => exact (fun _ _ => trivial)); (case aO => exact (Law.rg HO_3.out)); (case aS => exact (below_size (Law.bg HB.out))); (case aL => have := LMc19.out; omega); intro v130 w21 ho hb hg hat; rw [← Ny129.out] at ho; have HO131 := Aside0.mk (ho); replace HB := Aside0.mk (hb); clear HO_3; clear ho hb hg hat))
            repeat (go_quiet (first | ((with_reducible refine gate_builtin (b := .append) (xs := #[.tmp 53, .tmp 57]) rfl ?_); at_builtin; refine Kd.R_append k89 (w0 := w) w.heap.size rfl (.tmp 53) (.tmp 57) 27 89 (.agg #[(.int .i64 0), (.int .i64 0), (.int .i64 0)]) 24 rfl Try.underlying27 info89 rfl (by decide) (by omega) (.slice (some ad121) x3_1.length co20) x3_1 (⟨x9_1, 1, rd l0 x9_1⟩ : S89) [.int .i64 x9_1, .int .i64 1, .int .i64 (rd l0 x9_1)] (fun _ => True) (fun _ => False) rfl rfl ?aP (fun _ hk => hk.elim) ?aF ?aO ?aB ?aS ?aL ?_; (case aP => exact k89_mkM _ _ _ (⟨x9_1, 1, rd l0 x9_1⟩ : S89)); (case aB => exact (Law.bg HB.out)); (case aF => exact (fun _ _ => trivial)); (case aO => exact (Law.rg HO_3.out)); (case aS => exact (below_size (Law.bg HB.out))); (case aL => have := LMc19.out; omega); intro v130 w21 ho hb hg hat; rw [← Ny129.out] at ho; have HO131 := Aside0.mk (ho); replace HB := Aside0.mk (hb); clear HO_3; clear ho hb hg hat)); try go_wp2_with (first | ((with_reducible refine gate_builtin (b := .append) (xs := #[.tmp 53, .tmp 57]) rfl ?_); at_builtin; refine Kd.R_append k89 (w0 := w) w.heap.size rfl (.tmp 53) (.tmp 57) 27 89 (.agg #[(.int .i64 0), (.int .i64 0), (.int .i64 0)]) 24 rfl Try.underlying27 info89 rfl (by decide) (by omega) (.slice (some ad121) x3_1.length co20) x3_1 (⟨x9_1, 1, rd l0 x9_1⟩ : S89) [.int .i64 x9_1, .int .i64 1, .int .i64 (rd l0 x9_1)] (fun _ => True) (fun _ => False) rfl rfl ?aP (fun _ hk => hk.elim) ?aF ?aO ?aB ?aS ?aL ?_; (case aP => exact k89_mkM _ _ _ (⟨x9_1, 1, rd l0 x9_1⟩ : S89)); (case aB => exact (Law.bg HB.out)); (case aF => exact (fun _ _ => trivial)); (case aO => exact (Law.rg HO_3.out)); (case aS => exact (below_size (Law.bg HB.out))); (case aL => have := LMc19.out; omega); intro v130 w21 ho hb hg hat; rw [← Ny129.out] at ho; have HO131 := Aside0.mk (ho); replace HB := Aside0.mk (hb); clear HO_3; clear ho hb hg hat)))
            go_roundg k1
            case measure => have := HK1.out; omega
            case rel => exact ⟨(y129), (wrap64 (x9_1 + 1)), (by first | rfl | (simp; done) | (simp [*]; done)), H', ⟨by have := HK1.out; omega⟩, ⟨by (with_reducible repeat (first | apply Kd.R_alloc | apply Kd.R_drewN | apply Kd.R_drew)); exact HO131.out⟩, ⟨by repeat (first | (with_reducible first | exact HB.out | apply below_alloc | apply pw_below_drewN | apply below_drew1) | exact HB.out)⟩⟩
           ·rw [if_neg c19] at H
            exact absurd H (by simp)
         ·rw [if_neg c9] at H
          exact absurd H (by simp)
        ·rw [if_neg c8] at H
         exact absurd H (by simp)
       ·rw [if_neg c6] at H
        have c6b0 : decide (0 ≤ (wrap64 ((x3_1.length : Int) - 1))) = false := decide_eq_false c6
        clear c6
        by_cases c22 : x3_1.length < 5864062014805
        ·rw [if_pos c22] at H
         have LMc22 := Aside0.mk c22
         clear c22
         obtain ⟨y132, hy132⟩ : ∃ y_ : List (S89), y_ = (x3_1 ++ [(⟨x9_1, 1, rd l0 x9_1⟩ : S89)]) := ⟨_, rfl⟩
         replace H : (impl_runsOf.l0 k1 y132 l0 (l0.length : Int) (wrap64 (x9_1 + 1))) = some r := by first | (rw [hy132]; with_reducible exact H) | (have H2_ := (Option.bind_some _ _).symm.trans H; rw [hy132]; with_reducible exact H2_) | (have H2_ := (Option.bind_some _ _).symm.trans H; with_reducible exact H2_) | with_reducible exact H | (rw [hy132]; exact H) | exact H
         have Ny132 := Aside0.mk hy132
         clear hy132
         have H' := Aside0.mk H
         clear H
         have p120 : 0 ≤ (x9_1 : Int) := of_decide_eq_true (by first | (with_reducible assumption) | assumption)
         have q120 : x9_1 < (l0.length : Int) := of_decide_eq_true (by first | (with_reducible assumption) | assumption)
         obtain ⟨ad120, e120, hx120_0⟩ := Kd.at_int HR0.out x9_1 p120 q120
         cases e120
         replace hx120_0 := (HB.out.cell (World.block_lt_of_cell? w _ hx120_0)).trans hx120_0
         replace p120 := eq_true p120
         replace q120 := eq_true q120
         obtain ⟨Ao23, co23, eo23⟩ := Kd.R_slice HO_3.out
         subst eo23
         go_wp2_with (first | ((with_reducible refine gate_builtin (b := .append) (xs := #[.tmp 53, .tmp 57]) rfl ?_); at_builtin; refine Kd.R_append k89 (w0 := w) w.heap.size rfl (.tmp 53) (.tmp 57) 27 89 (.agg #[(.int .i64 0), (.int .i64 0), (.int .i64 0)]) 24 rfl Try.underlying27 info89 rfl (by decide) (by omega) (.slice Ao23 x3_1.length co23) x3_1 (⟨x9_1, 1, rd l0 x9_1⟩ : S89) [.int .i64 x9_1, .int .i64 1, .int .i64 (rd l0 x9_1)] (fun _ => True) (fun _ => False) rfl rfl ?aP (fun _ hk => hk.elim) ?aF ?aO ?aB ?aS ?aL ?_; (case aP => exact k89_mkM _ _ _ (⟨x9_1, 1, rd l0 x9_1⟩ : S89)); (case aB => exact (Law.bg HB.out)); (case aF => exact (fun _ _ => trivial)); (case aO => exact (Law.rg HO_3.out)); (case aS => exact (below_size (Law.bg HB.out))); (case aL => have := LMc22.out; omega); intro v133 w24 ho hb hg hat; rw [← Ny132.out] at ho; have HO134 := Aside0.mk (ho); replace HB := Aside0.mk (hb); clear HO_3; clear ho hb hg hat))
         repeat (go_quiet (first | ((with_reducible refine gate_builtin (b := .append) (xs := #[.tmp 53, .tmp 57]) rfl ?_); at_builtin; refine Kd.R_append k89 (w0 := w) w.heap.size rfl (.tmp 53) (.tmp 57) 27 89 (.agg #[(.int .i64 0), (.int .i64 0), (.int .i64 0)]) 24 rfl Try.underlying27 info89 rfl (by decide) (by omega) (.slice Ao23 x3_1.length co23) x3_1 (⟨x9_1, 1, rd l0 x9_1⟩ : S89) [.int .i64 x9_1, .int .i64 1, .int .i64 (rd l0 x9_1)] (fun _ => True) (fun _ => False) rfl rfl ?aP (fun _ hk => hk.elim) ?aF ?aO ?aB ?aS ?aL ?_; (case aP => exact k89_mkM _ _ _ (⟨x9_1, 1, rd l0 x9_1⟩ : S89)); (case aB => exact (Law.bg HB.out)); (case aF => exact (fun _ _ => trivial)); (case aO => exact (Law.rg HO_3.out)); (case aS => exact (below_size (Law.bg HB.out))); (case aL => have := LMc22.out; omega); intro v133 w24 ho hb hg hat; rw [← Ny132.out] at ho; have HO134 := Aside0.mk (ho); replace HB := Aside0.mk (hb); clear HO_3; clear ho hb hg hat)); try go_wp2_with (first | ((with_reducible refine gate_builtin (b := .append) (xs := #[.tmp 53, .tmp 57]) rfl ?_); at_builtin; refine Kd.R_append k89 (w0 := w) w.heap.size rfl (.tmp 53) (.tmp 57) 27 89 (.agg #[(.int .i64 0), (.int .i64 0), (.int .i64 0)]) 24 rfl Try.underlying27 info89 rfl (by decide) (by omega) (.slice Ao23 x3_1.length co23) x3_1 (⟨x9_1, 1, rd l0 x9_1⟩ : S89) [.int .i64 x9_1, .int .i64 1, .int .i64 (rd l0 x9_1)] (fun _ => True) (fun _ => False) rfl rfl ?aP (fun _ hk => hk.elim) ?aF ?aO ?aB ?aS ?aL ?_; (case aP => exact k89_mkM _ _ _ (⟨x9_1, 1, rd l0 x9_1⟩ : S89)); (case aB => exact (Law.bg HB.out)); (case aF => exact (fun _ _ => trivial)); (case aO => exact (Law.rg HO_3.out)); (case aS => exact (below_size (Law.bg HB.out))); (case aL => have := LMc22.out; omega); intro v133 w24 ho hb hg hat; rw [← Ny132.out] at ho; have HO134 := Aside0.mk (ho); replace HB := Aside0.mk (hb); clear HO_3; clear ho hb hg hat)))
         go_roundg k1
         case measure => have := HK1.out; omega
         case rel => exact ⟨(y132), (wrap64 (x9_1 + 1)), (by first | rfl | (simp; done) | (simp [*]; done)), H', ⟨by have := HK1.out; omega⟩, ⟨by (with_reducible repeat (first | apply Kd.R_alloc | apply Kd.R_drewN | apply Kd.R_drew)); exact HO134.out⟩, ⟨by repeat (first | (with_reducible first | exact HB.out | apply below_alloc | apply pw_below_drewN | apply below_drew1) | exact HB.out)⟩⟩
        ·rw [if_neg c22] at H
         exact absurd H (by simp)
     ·rw [if_neg c4] at H
      exact absurd H (by simp)
    ·rw [if_neg c3] at H
     exact absurd H (by simp)
   ·rw [if_neg c2] at H
    have c2b0 : decide (x9_1 < (l0.length : Int)) = false := decide_eq_false c2
    clear c2
    obtain rfl := Option.some.inj H
    go_wp2
    repeat (go_quiet (fail); try go_wp2)
    go_ret
    exact ⟨_, by first | rfl | (simp [errW_none, errW_some] <;> rfl) | (simp [*, errW_none, errW_some] <;> rfl), by (with_reducible repeat (first | apply Kd.R_alloc | apply Kd.R_drewN | apply Kd.R_drew)); exact HO_3.out, by repeat (first | (with_reducible first | exact HB.out | apply below_alloc | apply pw_below_drewN | apply below_drew1) | exact HB.out)⟩

/-! ### impl_RunsOf: function 24 -/
def impl_RunsOf.f (k : Nat) (l0 : List Int) : Option ((List (S89)) × Int) := (impl_badCounts.f k (([l0] : List (List Int)))).bind fun t138 => (if t138 = 0 then ((impl_runsOf.f k l0).bind fun t139 => (some (t139, 0))) else (some (([] : List (S89)), t138)))
set_option maxHeartbeats 8000000 in
set_option maxRecDepth 100000 in
theorem impl_RunsOf.calls (k : Nat) (P0_ : Nat → Prop) (A0 : Option Addr) (c0 : Nat) (l0 : List Int) (r1 : List (S89)) (r2 : Int) (w : World) (hs0 : Kd.V (Kd.int .i64) 2 w w.heap.size (fun k_ => P0_ k_) (.slice A0 l0.length c0) l0) (h : impl_RunsOf.f k l0 = some (r1, r2)) :
  Calls Try.prog 24 #[.slice A0 l0.length c0] w fun e w' => ∃ v0_ : Value, e = .returned (.tuple #[v0_, .int .i64 r2]) ∧ Kd.R k89 89 w' w.heap.size (fun k_ => (w.heap.size ≤ k_)) v0_ r1 ∧ Below w.heap.size w w' := by
 have HO0 := Aside0.mk (show Kd.V (Kd.int .i64) 2 w w.heap.size (fun k_ => (P0_ k_ ∨ w.heap.size ≤ k_)) (.slice A0 l0.length c0) l0 from Kd.V_mono hs0 (fun k_ hk => .inl hk))
 have HB := Aside0.mk (Below.refl w.heap.size w)
 have H : ((impl_badCounts.f k (([l0] : List (List Int)))).bind fun t138 => (if t138 = 0 then ((impl_runsOf.f k l0).bind fun t139 => (some (t139, 0))) else (some (([] : List (S89)), t138)))) = some (r1, r2) := h
 clear h
 obtain ⟨y135, hy135⟩ : ∃ y_ : List (List Int), y_ = (([l0] : List (List Int))) := ⟨_, rfl⟩
 replace H : ((impl_badCounts.f k y135).bind fun t138 => (if t138 = 0 then ((impl_runsOf.f k l0).bind fun t139 => (some (t139, 0))) else (some (([] : List (S89)), t138)))) = some (r1, r2) := by first | (rw [hy135]; with_reducible exact H) | (have H2_ := (Option.bind_some _ _).symm.trans H; rw [hy135]; with_reducible exact H2_) | (have H2_ := (Option.bind_some _ _).symm.trans H; with_reducible exact H2_) | with_reducible exact H | (rw [hy135]; exact H) | exact H
 have Ny135 := Aside0.mk hy135
 clear hy135
 replace H := Option.bind_eq_some_iff.mp H
 obtain ⟨t138, A20, H⟩ := H
 replace H : (if t138 = 0 then ((impl_runsOf.f k l0).bind fun t139 => (some (t139, 0))) else (some (([] : List (S89)), t138))) = some (r1, r2) := H
 have A2 := Aside0.mk A20
 clear A20
 by_cases c3 : t138 = 0
 ·rw [if_pos c3] at H
  have c3b0 : (t138 == 0) = true := beq_iff_eq.mpr c3
  have c3b1 : (t138 != 0) = false := bne_eq_false_iff_eq.mpr c3
  clear c3
  replace H := Option.bind_eq_some_iff.mp H
  obtain ⟨t139, A40, H⟩ := H
  replace H : (some (t139, 0)) = some (r1, r2) := H
  have A4 := Aside0.mk A40
  clear A40
  simp only [Option.some.injEq, Prod.mk.injEq] at H
  obtain ⟨rfl, rfl⟩ := H
  go_enter Try.func24, Try.ntmps24
  go_wp2_with (first | ((with_reducible refine gate_dst (N := 6) rfl ?_); refine Kd.N_lit (Kd.slice 2 (Kd.int .i64)) _ 24 ?hg (N' := 6) ?hd (xs := ([l0] : List (List Int))) (inner := [.slice A0 l0.length c0]) (ok := (fun k_ => (P0_ k_ ∨ w.heap.size ≤ k_))) (okp := (fun k_ => (P0_ k_ ∨ w.heap.size ≤ k_))) ?hr ?hp (fun _ hk => hk) ((show ∀ k_, w.heap.size ≤ k_ → (fun k_ => (P0_ k_ ∨ w.heap.size ≤ k_)) k_ from fun k_ hk => (.inr (Nat.le_trans (below_size (Law.bg HB.out)) hk))) _ (Nat.le_refl _)) (Below.refl _ _) (Nat.le_refl _) (by simp) ?_; (case hd => rfl); (case hg => rfl); (case hr => first | (go_simp; done) | (go_simp; rfl)); (case hp => exact (Reps.one (show Kd.FK (Kd.slice 2 (Kd.int .i64)) _ _ l0 [.slice A0 l0.length c0] from (Kd.FK_slice_mk (Kd.V_reads' (Kd.V_mono (ok' := (fun k_ => (P0_ k_ ∨ w.heap.size ≤ k_))) (HO0.out) (fun k_ hk => hk))).2.1 (Kd.V_F (Kd.V_mono (ok' := (fun k_ => (P0_ k_ ∨ w.heap.size ≤ k_))) (HO0.out) (fun k_ hk => hk))))) (Reps.none _ _))); intro v136 w5 ho6 hb hg_ hnew_; clear hg_ hnew_; (first | rw [← Ny135.out] at ho6 | (simp only [Int.reduceToNat] at ho6; rw [← Ny135.out] at ho6)); have HO137 := Aside0.mk (Kd.N_lower ho6 (below_size (Law.bg HB.out))); replace HO0 := Aside0.mk (Kd.V_elder' (by (with_reducible repeat (first | apply Kd.V_alloc | apply Kd.V_drewN | apply Kd.V_drew)); exact HO0.out) (Kd.N_base ho6) hb); replace HB := Law.bS HB hb; clear hb ho6; obtain ⟨Ao7, co7, eo7⟩ := Kd.N_slice HO137.out; subst eo7) | ((with_reducible refine gate_callee (f := 66) rfl ?_); refine goesL_ (some 7) rfl rfl Try.func66 (by kernel_rfl) rfl #[.slice Ao7 y135.length co7] rfl (by (try simp only [List.map_toArray, List.map_cons, List.map_nil]); first | done | rfl | (simp only [List.length_drop, List.length_take]; rfl)) ?_; (with_reducible refine (impl_badCounts.calls k _ _ y135 t138 _ ?side1 ?side2 A2.out).mono ?_); (case side1 => exact Law.cg ((Kd.N_reads' HO137.out).2.2)); (case side2 => exact (Kd.N_reads' HO137.out).2.1); rintro e w' ⟨rfl, ⟨nd, rfl⟩⟩; refine ⟨_, rfl, ?_⟩) | ((with_reducible refine gate_callee (f := 67) rfl ?_); refine goesL_ (some 12) rfl rfl Try.func67 (by kernel_rfl) rfl #[.slice A0 l0.length c0] rfl (by (try simp only [List.map_toArray, List.map_cons, List.map_nil]); first | done | rfl | (simp only [List.length_drop, List.length_take]; rfl)) ?_; (with_reducible refine (impl_runsOf.calls k _ _ l0 t139 _ ?side1 ?side2 A4.out).mono ?_); (case side1 => exact Law.cg ((Kd.V_reads' HO0.out).2.2)); (case side2 => exact (Kd.V_reads' HO0.out).2.1); rintro e w8 ⟨v140, rfl, ho0, hb⟩; refine ⟨_, rfl, ?_⟩; have HO141 := Law.rL (Kd.R_newM (M := fun k_ => (w.heap.size ≤ k_)) ho0 (below_size (Law.bg HB.out)) (fun k_ h_ => h_)) HB; replace HO0 := Aside0.mk (Kd.V_elder' (by (with_reducible repeat (first | apply Kd.V_alloc | apply Kd.V_drewN | apply Kd.V_drew)); exact HO0.out) (Kd.R_base ho0) hb); replace HO137 := Aside0.mk (Kd.N_elder' (by (with_reducible repeat (first | apply Kd.N_alloc | apply Kd.N_drewN | apply Kd.N_drew)); exact HO137.out) (Kd.R_base ho0) hb); replace HB := Law.bS HB hb; (try clear hb); (try clear ho0)))
  go_ret2
  exact ⟨_, by first | rfl | (simp [errW_none, errW_some] <;> rfl) | (simp [*, errW_none, errW_some] <;> rfl), by (with_reducible repeat (first | apply Kd.R_alloc | apply Kd.R_drewN | apply Kd.R_drew)); exact Kd.R_mono HO141.out (fun _ hk => hk.1), by repeat (first | (with_reducible first | exact HB.out | apply below_alloc | apply pw_below_drewN | apply below_drew1) | exact HB.out)⟩
 ·rw [if_neg c3] at H
  have c3b0 : (t138 == 0) = false := beq_eq_false_iff_ne.mpr c3
  have c3b1 : (t138 != 0) = true := bne_iff_ne.mpr c3
  simp only [Option.some.injEq, Prod.mk.injEq] at H
  obtain ⟨rfl, rfl⟩ := H
  go_enter Try.func24, Try.ntmps24
  go_wp2_with (first | ((with_reducible refine gate_dst (N := 6) rfl ?_); refine Kd.N_lit (Kd.slice 2 (Kd.int .i64)) _ 24 ?hg (N' := 6) ?hd (xs := ([l0] : List (List Int))) (inner := [.slice A0 l0.length c0]) (ok := (fun k_ => (P0_ k_ ∨ w.heap.size ≤ k_))) (okp := (fun k_ => (P0_ k_ ∨ w.heap.size ≤ k_))) ?hr ?hp (fun _ hk => hk) ((show ∀ k_, w.heap.size ≤ k_ → (fun k_ => (P0_ k_ ∨ w.heap.size ≤ k_)) k_ from fun k_ hk => (.inr (Nat.le_trans (below_size (Law.bg HB.out)) hk))) _ (Nat.le_refl _)) (Below.refl _ _) (Nat.le_refl _) (by simp) ?_; (case hd => rfl); (case hg => rfl); (case hr => first | (go_simp; done) | (go_simp; rfl)); (case hp => exact (Reps.one (show Kd.FK (Kd.slice 2 (Kd.int .i64)) _ _ l0 [.slice A0 l0.length c0] from (Kd.FK_slice_mk (Kd.V_reads' (Kd.V_mono (ok' := (fun k_ => (P0_ k_ ∨ w.heap.size ≤ k_))) (HO0.out) (fun k_ hk => hk))).2.1 (Kd.V_F (Kd.V_mono (ok' := (fun k_ => (P0_ k_ ∨ w.heap.size ≤ k_))) (HO0.out) (fun k_ hk => hk))))) (Reps.none _ _))); intro v136 w9 ho10 hb hg_ hnew_; clear hg_ hnew_; (first | rw [← Ny135.out] at ho10 | (simp only [Int.reduceToNat] at ho10; rw [← Ny135.out] at ho10)); have HO137 := Aside0.mk (Kd.N_lower ho10 (below_size (Law.bg HB.out))); replace HO0 := Aside0.mk (Kd.V_elder' (by (with_reducible repeat (first | apply Kd.V_alloc | apply Kd.V_drewN | apply Kd.V_drew)); exact HO0.out) (Kd.N_base ho10) hb); replace HB := Law.bS HB hb; clear hb ho10; obtain ⟨Ao11, co11, eo11⟩ := Kd.N_slice HO137.out; subst eo11) | ((with_reducible refine gate_callee (f := 66) rfl ?_); refine goesL_ (some 7) rfl rfl Try.func66 (by kernel_rfl) rfl #[.slice Ao11 y135.length co11] rfl (by (try simp only [List.map_toArray, List.map_cons, List.map_nil]); first | done | rfl | (simp only [List.length_drop, List.length_take]; rfl)) ?_; (with_reducible refine (impl_badCounts.calls k _ _ y135 t138 _ ?side1 ?side2 A2.out).mono ?_); (case side1 => exact Law.cg ((Kd.N_reads' HO137.out).2.2)); (case side2 => exact (Kd.N_reads' HO137.out).2.1); rintro e w' ⟨rfl, ⟨nd, rfl⟩⟩; refine ⟨_, rfl, ?_⟩))
  go_ret2
  exact ⟨_, by first | rfl | (simp [errW_none, errW_some] <;> rfl) | (simp [*, errW_none, errW_some] <;> rfl), by first | exact Kd.R_nil _ _ _ _ _ | exact Kd.N_nil _ _ _ _ _ | exact Kd.V_nil _ _ _ _ _ | exact Kd.Q_nil _ _ _ _ _ | exact Kd.S_nil _ _ _ _ _, by repeat (first | (with_reducible first | exact HB.out | apply below_alloc | apply pw_below_drewN | apply below_drew1) | exact HB.out)⟩

/-! ### spec_l1BlocksOK: function 59 -/
def spec_l1BlocksOK.f (a0 : Int) : Option (Bool) := if a0 ≥ 8 then (some (decide (a0 ≤ 512))) else (some false)
set_option maxHeartbeats 8000000 in
set_option maxRecDepth 100000 in
theorem spec_l1BlocksOK.calls (a0 : Int) (r : Bool) (w : World) (h : spec_l1BlocksOK.f a0 = some r) :
  Calls Try.prog 59 #[.int .i64 a0] w fun e w' => e = .returned (.bool r) ∧ Drawn0 w w' := by
 have H : (if a0 ≥ 8 then (some (decide (a0 ≤ 512))) else (some false)) = some r := h
 clear h
 by_cases c2 : a0 ≥ 8
 ·rw [if_pos c2] at H
  have c2b0 : decide (8 ≤ a0) = true := decide_eq_true c2
  clear c2
  obtain rfl := Option.some.inj H
  go_enter Try.func59, Try.ntmps59
  go_wp2
  go_ret
  exact ⟨by first | rfl | (simp; done) | (simp [*]; done), by repeat (first | exact Drawn0.refl _ | apply Drawn0.step)⟩
 ·rw [if_neg c2] at H
  have c2b0 : decide (8 ≤ a0) = false := decide_eq_false c2
  clear c2
  obtain rfl := Option.some.inj H
  go_enter Try.func59, Try.ntmps59
  go_wp2
  go_ret
  exact ⟨by first | rfl | (simp; done) | (simp [*]; done), by repeat (first | exact Drawn0.refl _ | apply Drawn0.step)⟩

/-! ### spec_l3Check: function 64 -/
def spec_l3Check.l0 : Nat → List Int → Int → Option (Int)
 | 0, _, _ => none
 | k + 1, x0, x3 => if x3 < (x0.length : Int) then (if 0 ≤ x3 then (if (rd x0 x3) < 0 then (some 2) else (if (rd x0 x3) > 65535 then (some 2) else (spec_l3Check.l0 k x0 (wrap64 (x3 + 1))))) else (none)) else (if 0 < (x0.length : Int) then (if (rd x0 0) = 0 then (if 1 < (x0.length : Int) then (if (rd x0 1) = 0 then (some 0) else (some 5)) else (none)) else (some 5)) else (none))
def spec_l3Check.f (k : Nat) (l0 : List Int) : Option (Int) := (spec_l1BlocksOK.f (l0.length : Int)).bind fun t142 => (if t142 = true then (spec_l3Check.l0 k l0 0) else (some 1))
set_option maxHeartbeats 8000000 in
set_option maxRecDepth 100000 in
theorem spec_l3Check.calls (k : Nat) (A0 : Option Addr) (c0 : Nat) (l0 : List Int) (r : Int) (w : World) (hr0 : Kd.C (Kd.int .i64) w A0 l0.length l0) (hc0 : l0.length ≤ c0) (h : spec_l3Check.f k l0 = some r) :
  Calls Try.prog 64 #[.slice A0 l0.length c0] w fun e w' => e = .returned (.int .i64 r) ∧ Drawn0 w w' := by
 have HR0 := Aside0.mk hr0
 have HC0 := Aside0.mk hc0
 clear hr0 hc0
 have H : ((spec_l1BlocksOK.f (l0.length : Int)).bind fun t142 => (if t142 = true then (spec_l3Check.l0 k l0 0) else (some 1))) = some r := h
 clear h
 replace H := Option.bind_eq_some_iff.mp H
 obtain ⟨t142, A20, H⟩ := H
 replace H : (if t142 = true then (spec_l3Check.l0 k l0 0) else (some 1)) = some r := H
 have A2 := Aside0.mk A20
 clear A20
 by_cases c3 : t142 = true
 ·subst c3
  have H1 : (spec_l3Check.l0 k l0 0) = some r := by rw [if_pos rfl] at H; exact H
  clear H
  have H := H1
  clear H1
  have H' := Aside0.mk H
  clear H
  go_enter Try.func64, Try.ntmps64
  go_wp2_with (first | ((with_reducible refine gate_callee (f := 59) rfl ?_); refine goesL_ (some 6) rfl rfl Try.func59 (by kernel_rfl) rfl #[.int .i64 (l0.length : Int)] rfl (by (try simp only [List.map_toArray, List.map_cons, List.map_nil]); first | done | rfl | (simp only [List.length_drop, List.length_take]; rfl)) ?_; (with_reducible refine (spec_l1BlocksOK.calls (l0.length : Int) true _ A2.out).mono ?_); rintro e w' ⟨rfl, ⟨nd, rfl⟩⟩; refine ⟨_, rfl, ?_⟩))
  go_loopg [3] k (fun kq v3 w' => ∃ (x3_1 : Int), v3 = .int .i64 x3_1 ∧ Aside0 (spec_l3Check.l0 kq l0 x3_1 = some r) ∧ Aside0 (kq ≤ k) ∧ Drawn0 w w')
  case atStart => exact ⟨(0), (by first | rfl | (simp; done) | (simp [*]; done)), H', ⟨Nat.le_refl _⟩, by repeat (first | exact Drawn0.refl _ | apply Drawn0.step)⟩
  case round =>
   clear H'
   try clear p2
   try clear c3
   obtain ⟨x3_1, rfl, HA, HK1, ⟨m1, rfl⟩⟩ := hrel
   cases gk with
   | zero => exact absurd HA.out (by simp [spec_l3Check.l0])
   | succ k1 =>
    have H := HA.out
    clear HA
    simp only [spec_l3Check.l0] at H
    by_cases c4 : x3_1 < (l0.length : Int)
    ·rw [if_pos c4] at H
     have c4b0 : decide (x3_1 < (l0.length : Int)) = true := decide_eq_true c4
     clear c4
     by_cases c5 : 0 ≤ x3_1
     ·rw [if_pos c5] at H
      have c5b0 : decide (0 ≤ x3_1) = true := decide_eq_true c5
      clear c5
      by_cases c6 : (rd l0 x3_1) < 0
      ·rw [if_pos c6] at H
       have c6b0 : decide ((rd l0 x3_1) < 0) = true := decide_eq_true c6
       clear c6
       obtain rfl := Option.some.inj H
       have p143 : 0 ≤ (x3_1 : Int) := of_decide_eq_true (by first | (with_reducible assumption) | assumption)
       have q143 : x3_1 < (l0.length : Int) := of_decide_eq_true (by first | (with_reducible assumption) | assumption)
       obtain ⟨ad143, e143, hx143_0⟩ := Kd.at_int HR0.out x3_1 p143 q143
       cases e143
       replace p143 := eq_true p143
       replace q143 := eq_true q143
       go_wp2
       go_ret
       exact ⟨by first | rfl | (simp; done) | (simp [*]; done), by repeat (first | exact Drawn0.refl _ | apply Drawn0.step)⟩
      ·rw [if_neg c6] at H
       have c6b0 : decide ((rd l0 x3_1) < 0) = false := decide_eq_false c6
       clear c6
       by_cases c7 : (rd l0 x3_1) > 65535
       ·rw [if_pos c7] at H
        have c7b0 : decide (65535 < (rd l0 x3_1)) = true := decide_eq_true c7
        clear c7
        obtain rfl := Option.some.inj H
        have p143 : 0 ≤ (x3_1 : Int) := of_decide_eq_true (by first | (with_reducible assumption) | assumption)
        have q143 : x3_1 < (l0.length : Int) := of_decide_eq_true (by first | (with_reducible assumption) | assumption)
        obtain ⟨ad143, e143, hx143_0⟩ := Kd.at_int HR0.out x3_1 p143 q143
        cases e143
        replace p143 := eq_true p143
        replace q143 := eq_true q143
        have p144 : 0 ≤ (x3_1 : Int) := of_decide_eq_true (by first | (with_reducible assumption) | assumption)
        have q144 : x3_1 < (l0.length : Int) := of_decide_eq_true (by first | (with_reducible assumption) | assumption)
        obtain ⟨ad144, e144, hx144_0⟩ := Kd.at_int HR0.out x3_1 p144 q144
        obtain rfl : ad143 = ad144 := (by injection e144)
        replace p144 := eq_true p144
        replace q144 := eq_true q144
        go_wp2
        go_ret
        exact ⟨by first | rfl | (simp; done) | (simp [*]; done), by repeat (first | exact Drawn0.refl _ | apply Drawn0.step)⟩
       ·rw [if_neg c7] at H
        have c7b0 : decide (65535 < (rd l0 x3_1)) = false := decide_eq_false c7
        clear c7
        have H' := Aside0.mk H
        clear H
        have p143 : 0 ≤ (x3_1 : Int) := of_decide_eq_true (by first | (with_reducible assumption) | assumption)
        have q143 : x3_1 < (l0.length : Int) := of_decide_eq_true (by first | (with_reducible assumption) | assumption)
        obtain ⟨ad143, e143, hx143_0⟩ := Kd.at_int HR0.out x3_1 p143 q143
        cases e143
        replace p143 := eq_true p143
        replace q143 := eq_true q143
        have p144 : 0 ≤ (x3_1 : Int) := of_decide_eq_true (by first | (with_reducible assumption) | assumption)
        have q144 : x3_1 < (l0.length : Int) := of_decide_eq_true (by first | (with_reducible assumption) | assumption)
        obtain ⟨ad144, e144, hx144_0⟩ := Kd.at_int HR0.out x3_1 p144 q144
        obtain rfl : ad143 = ad144 := (by injection e144)
        replace p144 := eq_true p144
        replace q144 := eq_true q144
        go_wp2
        go_roundg k1
        case measure => have := HK1.out; omega
        case rel => exact ⟨(wrap64 (x3_1 + 1)), (by first | rfl | (simp; done) | (simp [*]; done)), H', ⟨by have := HK1.out; omega⟩, by repeat (first | exact Drawn0.refl _ | apply Drawn0.step)⟩
     ·rw [if_neg c5] at H
      exact absurd H (by simp)
    ·rw [if_neg c4] at H
     have c4b0 : decide (x3_1 < (l0.length : Int)) = false := decide_eq_false c4
     clear c4
     by_cases c8 : 0 < (l0.length : Int)
     ·rw [if_pos c8] at H
      have c8b0 : decide (0 < (l0.length : Int)) = true := decide_eq_true c8
      have c8b1 : decide (0 < l0.length) = true := decide_eq_true (by omega)
      clear c8
      by_cases c9 : (rd l0 0) = 0
      ·rw [if_pos c9] at H
       have c9b0 : ((rd l0 0) == 0) = true := beq_iff_eq.mpr c9
       have c9b1 : ((rd l0 0) != 0) = false := bne_eq_false_iff_eq.mpr c9
       clear c9
       by_cases c10 : 1 < (l0.length : Int)
       ·rw [if_pos c10] at H
        have c10b0 : decide (1 < (l0.length : Int)) = true := decide_eq_true c10
        have c10b1 : decide (1 < l0.length) = true := decide_eq_true (by omega)
        clear c10
        by_cases c11 : (rd l0 1) = 0
        ·rw [if_pos c11] at H
         have c11b0 : ((rd l0 1) == 0) = true := beq_iff_eq.mpr c11
         have c11b1 : ((rd l0 1) != 0) = false := bne_eq_false_iff_eq.mpr c11
         clear c11
         obtain rfl := Option.some.inj H
         have p145 : 0 ≤ (0 : Int) := (by omega)
         have q145 : 0 < (l0.length : Int) := of_decide_eq_true (by first | (with_reducible assumption) | assumption)
         obtain ⟨ad145, e145, hx145_0⟩ := Kd.at_int HR0.out 0 p145 q145
         cases e145
         have qi145 : (0 < l0.length) = True := eq_true (by omega)
         (try rw [show ((0 : Int)).toNat = 0 from rfl] at hx145_0)
         (try rw [Addr.add_zero'] at hx145_0)
         replace p145 := eq_true p145
         replace q145 := eq_true q145
         have p146 : 0 ≤ (1 : Int) := (by omega)
         have q146 : 1 < (l0.length : Int) := of_decide_eq_true (by first | (with_reducible assumption) | assumption)
         obtain ⟨ad146, e146, hx146_0⟩ := Kd.at_int HR0.out 1 p146 q146
         obtain rfl : ad145 = ad146 := (by injection e146)
         (try simp only [show (1 : Int).toNat = 1 from rfl, Nat.reduceMul, Nat.reduceEqDiff, Go.Addr.add, ↓reduceIte] at hx146_0)
         have qi146 : (1 < l0.length) = True := eq_true (by omega)
         (try rw [show ((1 : Int)).toNat = 1 from rfl] at hx146_0)
         replace p146 := eq_true p146
         replace q146 := eq_true q146
         go_wp2
         go_ret
         exact ⟨by first | rfl | (simp; done) | (simp [*]; done), by repeat (first | exact Drawn0.refl _ | apply Drawn0.step)⟩
        ·rw [if_neg c11] at H
         have c11b0 : ((rd l0 1) == 0) = false := beq_eq_false_iff_ne.mpr c11
         have c11b1 : ((rd l0 1) != 0) = true := bne_iff_ne.mpr c11
         obtain rfl := Option.some.inj H
         have p145 : 0 ≤ (0 : Int) := (by omega)
         have q145 : 0 < (l0.length : Int) := of_decide_eq_true (by first | (with_reducible assumption) | assumption)
         obtain ⟨ad145, e145, hx145_0⟩ := Kd.at_int HR0.out 0 p145 q145
         cases e145
         have qi145 : (0 < l0.length) = True := eq_true (by omega)
         (try rw [show ((0 : Int)).toNat = 0 from rfl] at hx145_0)
         (try rw [Addr.add_zero'] at hx145_0)
         replace p145 := eq_true p145
         replace q145 := eq_true q145
         have p146 : 0 ≤ (1 : Int) := (by omega)
         have q146 : 1 < (l0.length : Int) := of_decide_eq_true (by first | (with_reducible assumption) | assumption)
         obtain ⟨ad146, e146, hx146_0⟩ := Kd.at_int HR0.out 1 p146 q146
         obtain rfl : ad145 = ad146 := (by injection e146)
         (try simp only [show (1 : Int).toNat = 1 from rfl, Nat.reduceMul, Nat.reduceEqDiff, Go.Addr.add, ↓reduceIte] at hx146_0)
         have qi146 : (1 < l0.length) = True := eq_true (by omega)
         (try rw [show ((1 : Int)).toNat = 1 from rfl] at hx146_0)
         replace p146 := eq_true p146
         replace q146 := eq_true q146
         go_wp2
         go_ret
         exact ⟨by first | rfl | (simp; done) | (simp [*]; done), by repeat (first | exact Drawn0.refl _ | apply Drawn0.step)⟩
       ·rw [if_neg c10] at H
        exact absurd H (by simp)
      ·rw [if_neg c9] at H
       have c9b0 : ((rd l0 0) == 0) = false := beq_eq_false_iff_ne.mpr c9
       have c9b1 : ((rd l0 0) != 0) = true := bne_iff_ne.mpr c9
       obtain rfl := Option.some.inj H
       have p145 : 0 ≤ (0 : Int) := (by omega)
       have q145 : 0 < (l0.length : Int) := of_decide_eq_true (by first | (with_reducible assumption) | assumption)
       obtain ⟨ad145, e145, hx145_0⟩ := Kd.at_int HR0.out 0 p145 q145
       cases e145
       have qi145 : (0 < l0.length) = True := eq_true (by omega)
       (try rw [show ((0 : Int)).toNat = 0 from rfl] at hx145_0)
       (try rw [Addr.add_zero'] at hx145_0)
       replace p145 := eq_true p145
       replace q145 := eq_true q145
       go_wp2
       go_ret
       exact ⟨by first | rfl | (simp; done) | (simp [*]; done), by repeat (first | exact Drawn0.refl _ | apply Drawn0.step)⟩
     ·rw [if_neg c8] at H
      exact absurd H (by simp)
 ·replace c3 := Bool.eq_false_iff.mpr c3
  subst c3
  have H1 : (some 1) = some r := by rw [if_neg (show ¬ (false = true) by decide)] at H; exact H
  clear H
  have H := H1
  clear H1
  obtain rfl := Option.some.inj H
  go_enter Try.func64, Try.ntmps64
  go_wp2_with (first | ((with_reducible refine gate_callee (f := 59) rfl ?_); refine goesL_ (some 6) rfl rfl Try.func59 (by kernel_rfl) rfl #[.int .i64 (l0.length : Int)] rfl (by (try simp only [List.map_toArray, List.map_cons, List.map_nil]); first | done | rfl | (simp only [List.length_drop, List.length_take]; rfl)) ?_; (with_reducible refine (spec_l1BlocksOK.calls (l0.length : Int) false _ A2.out).mono ?_); rintro e w' ⟨rfl, ⟨nd, rfl⟩⟩; refine ⟨_, rfl, ?_⟩))
  go_ret
  exact ⟨by first | rfl | (simp; done) | (simp [*]; done), by repeat (first | exact Drawn0.refl _ | apply Drawn0.step)⟩

end Go.Proofs.Ytbimmmmjdimebaa.PFnPlan
