-- This text was written by a program of this session (gprint.py, on a turned copy of the print tool).
import Derived.Test.YtbimmmmjdimebaaPFnExactPlanTablex0
namespace Go.Proofs.Ytbimmmmjdimebaa.PFnExactPlanTable
open Go.RowKit Go.Proofs.YtbimmmmjdimebaaW.PrintWords Go.Proofs.YtbimmmmjdimebaaW.PrintLast Go.Proofs.YtbimmmmjdimebaaW.PrintMore
attribute [local go_sem] max2_int min2_int max_two min_two max_three min_three max_four min_four   -- for this text's walks alone
set_option linter.unusedVariables false
set_option linter.unusedSimpArgs false

/-! ### impl_runsOf: function 67 -/
def impl_runsOf.l0 : Nat → List (S89) → List Int → Int → Int → Option ((List (S89)))
  | 0, _, _, _, _ => none
  | k + 1, x3, x7, x8, x9 => if x9 < x8 then (if 0 ≤ x9 then (if x9 < (x7.length : Int) then (if (rd x7 x9) = 0 then (impl_runsOf.l0 k x3 x7 x8 (wrap64 (x9 + 1))) else (if (wrap64 ((x3.length : Int) - 1)) ≥ 0 then (if 0 ≤ (wrap64 ((x3.length : Int) - 1)) then (if (wrap64 ((x3.length : Int) - 1)) < (x3.length : Int) then (if (wrap64 (((rd_T89 x3 (wrap64 ((x3.length : Int) - 1))).f0) + ((rd_T89 x3 (wrap64 ((x3.length : Int) - 1))).f1))) = x9 then (if ((rd_T89 x3 (wrap64 ((x3.length : Int) - 1))).f2) = (rd x7 x9) then (impl_runsOf.l0 k (x3.set ((wrap64 ((x3.length : Int) - 1)) : Int).toNat (⟨(rd_T89 x3 (wrap64 ((x3.length : Int) - 1))).f0, wrap64 (((rd_T89 x3 (wrap64 ((x3.length : Int) - 1))).f1) + 1), (rd_T89 x3 (wrap64 ((x3.length : Int) - 1))).f2⟩ : S89)) x7 x8 (wrap64 (x9 + 1))) else (if x3.length < 5864062014805 then (impl_runsOf.l0 k (x3 ++ [(⟨x9, 1, rd x7 x9⟩ : S89)]) x7 x8 (wrap64 (x9 + 1))) else (none))) else (if x3.length < 5864062014805 then (impl_runsOf.l0 k (x3 ++ [(⟨x9, 1, rd x7 x9⟩ : S89)]) x7 x8 (wrap64 (x9 + 1))) else (none))) else (none)) else (none)) else (if x3.length < 5864062014805 then (impl_runsOf.l0 k (x3 ++ [(⟨x9, 1, rd x7 x9⟩ : S89)]) x7 x8 (wrap64 (x9 + 1))) else (none)))) else (none)) else (none)) else (some x3)
def impl_runsOf.f (k : Nat) (l0 : List Int) : Option ((List (S89))) := impl_runsOf.l0 k ([] : List (S89)) l0 (l0.length : Int) 0
theorem impl_runsOf.mono_l : ∀ k, (∀ y0 y1 y2 y3, LeO (impl_runsOf.l0 k y0 y1 y2 y3) (impl_runsOf.l0 (k + 1) y0 y1 y2 y3))
  | 0 => fun _ _ _ _ r h => by simp [impl_runsOf.l0] at h
  | k + 1 => by
    have ih0 := impl_runsOf.mono_l k
    · intro y0 y1 y2 y3
      unfold impl_runsOf.l0
      repeat' first
      | (with_reducible exact ih0 _ _ _ _)
      | (with_reducible exact LeO.refl _)
      | (with_reducible exact LeO.none _)
      | (with_reducible refine LeO.ite ?_ ?_)
      | (with_reducible refine LeO.bind ?_ (fun _ => ?_))
      | exact ih0 _ _ _ _
      | exact LeO.none _
      | refine LeO.ite ?_ ?_
      | refine LeO.bind ?_ (fun _ => ?_)
theorem impl_runsOf.mono : ∀ a0 k, LeO (impl_runsOf.f k a0) (impl_runsOf.f (k + 1) a0) := by
  intro a0 k
  have ih0 := impl_runsOf.mono_l k
  unfold impl_runsOf.f
  repeat' first
      | (with_reducible exact ih0 _ _ _ _)
      | (with_reducible exact LeO.refl _)
      | (with_reducible exact LeO.none _)
      | (with_reducible refine LeO.ite ?_ ?_)
      | (with_reducible refine LeO.bind ?_ (fun _ => ?_))
      | exact ih0 _ _ _ _
      | exact LeO.none _
      | refine LeO.ite ?_ ?_
      | refine LeO.bind ?_ (fun _ => ?_)
set_option maxHeartbeats 8000000 in
set_option maxRecDepth 100000 in
theorem impl_runsOf.calls (k : Nat) (A0 : Option Addr) (c0 : Nat) (l0 : List Int) (r : List (S89)) (w : World) (hr0 : Kd.C (Kd.int .i64) w A0 l0.length l0) (hc0 : l0.length ≤ c0) (h : impl_runsOf.f k l0 = some r) :
    Calls Try.prog 67 #[.slice A0 l0.length c0] w fun e w' => ∃ v0_ : Value, e = .returned (v0_) ∧ Kd.R k89 89 w' w.heap.size (fun _ => True) v0_ r ∧ Below w.heap.size w w' := by
  have hu89 := Try.underlying89
  have HR0 := Aside0.mk hr0
  have HC0 := Aside0.mk hc0
  clear hr0 hc0
  have HB := Aside0.mk (Below.refl w.heap.size w)
  have H : (impl_runsOf.l0 k ([] : List (S89)) l0 (l0.length : Int) 0) = some r := h
  clear h
  have H' := Aside0.mk H
  clear H
  go_enter Try.func67, Try.ntmps67
  go_wp2
  repeat (go_quiet (fail); try go_wp2)
  go_loopg [3, 9] k (fun kq v3 v9 w' => ∃ (x3_1 : List (S89)) (x9_1 : Int), v9 = .int .i64 x9_1 ∧ Aside0 (impl_runsOf.l0 kq x3_1 l0 (l0.length : Int) x9_1 = some r) ∧ Aside0 (kq ≤ k) ∧ Aside0 (Kd.R k89 89 w' w.heap.size (fun _ => True) v3 x3_1) ∧ Aside0 (Below w.heap.size w w'))
  case atStart => exact ⟨(([] : List (S89))), (0), (by first | rfl | (simp; done) | (simp [*]; done)), H', ⟨Nat.le_refl _⟩, ⟨by first | exact Kd.R_nil _ _ _ _ _ | exact Kd.N_nil _ _ _ _ _ | exact Kd.V_nil _ _ _ _ _ | exact Kd.Q_nil _ _ _ _ _ | exact Kd.S_nil _ _ _ _ _⟩, ⟨by repeat (first | (with_reducible first | exact HB.out | apply below_alloc | apply pw_below_drewN | apply below_drew1) | exact HB.out)⟩⟩
  case round =>
    clear H'
    obtain ⟨x3_1, x9_1, rfl, HA, HK1, HO_3, HB⟩ := hrel
    cases gk with
    | zero => exact absurd HA.out (by simp [impl_runsOf.l0])
    | succ k1 =>
      have H := HA.out
      clear HA
      simp only [impl_runsOf.l0] at H
      by_cases c2 : x9_1 < (l0.length : Int)
      · rw [if_pos c2] at H
        have c2b0 : decide (x9_1 < (l0.length : Int)) = true := decide_eq_true c2
        clear c2
        by_cases c3 : 0 ≤ x9_1
        · rw [if_pos c3] at H
          have c3b0 : decide (0 ≤ x9_1) = true := decide_eq_true c3
          clear c3
          by_cases c4 : x9_1 < (l0.length : Int)
          · rw [if_pos c4] at H
            have c4b0 : decide (x9_1 < (l0.length : Int)) = true := decide_eq_true c4
            clear c4
            by_cases c5 : (rd l0 x9_1) = 0
            · rw [if_pos c5] at H
              have c5b0 : ((rd l0 x9_1) == 0) = true := beq_iff_eq.mpr c5
              have c5b1 : ((rd l0 x9_1) != 0) = false := bne_eq_false_iff_eq.mpr c5
              clear c5
              have H' := Aside0.mk H
              clear H
              have p185 : 0 ≤ (x9_1 : Int) := of_decide_eq_true (by first | (with_reducible assumption) | assumption)
              have q185 : x9_1 < (l0.length : Int) := of_decide_eq_true (by first | (with_reducible assumption) | assumption)
              obtain ⟨ad185, e185, hx185_0⟩ := Kd.at_int HR0.out x9_1 p185 q185
              cases e185
              replace hx185_0 := (HB.out.cell (World.block_lt_of_cell? w _ hx185_0)).trans hx185_0
              replace p185 := eq_true p185
              replace q185 := eq_true q185
              go_wp2
              repeat (go_quiet (fail); try go_wp2)
              go_roundg k1
              case measure => have := HK1.out; omega
              case rel => exact ⟨(x3_1), (wrap64 (x9_1 + 1)), (by first | rfl | (simp; done) | (simp [*]; done)), H', ⟨by have := HK1.out; omega⟩, ⟨by (with_reducible repeat (first | apply Kd.R_alloc | apply Kd.R_drewN | apply Kd.R_drew)); exact HO_3.out⟩, ⟨by repeat (first | (with_reducible first | exact HB.out | apply below_alloc | apply pw_below_drewN | apply below_drew1) | exact HB.out)⟩⟩
            · rw [if_neg c5] at H
              have c5b0 : ((rd l0 x9_1) == 0) = false := beq_eq_false_iff_ne.mpr c5
              have c5b1 : ((rd l0 x9_1) != 0) = true := bne_iff_ne.mpr c5
              by_cases c6 : (wrap64 ((x3_1.length : Int) - 1)) ≥ 0
              · rw [if_pos c6] at H
                have c6b0 : decide (0 ≤ (wrap64 ((x3_1.length : Int) - 1))) = true := decide_eq_true c6
                clear c6
                obtain ⟨ji7, hji7⟩ : ∃ j_ : Int, (wrap64 ((x3_1.length : Int) - 1)) = j_ := ⟨_, rfl⟩
                replace H : (if 0 ≤ (ji7) then (if (ji7) < (x3_1.length : Int) then (if (wrap64 (((rd_T89 x3_1 (ji7)).f0) + ((rd_T89 x3_1 (ji7)).f1))) = x9_1 then (if ((rd_T89 x3_1 (ji7)).f2) = (rd l0 x9_1) then (impl_runsOf.l0 k1 (x3_1.set ((ji7) : Int).toNat (⟨(rd_T89 x3_1 (ji7)).f0, wrap64 (((rd_T89 x3_1 (ji7)).f1) + 1), (rd_T89 x3_1 (ji7)).f2⟩ : S89)) l0 (l0.length : Int) (wrap64 (x9_1 + 1))) else (if x3_1.length < 5864062014805 then (impl_runsOf.l0 k1 (x3_1 ++ [(⟨x9_1, 1, rd l0 x9_1⟩ : S89)]) l0 (l0.length : Int) (wrap64 (x9_1 + 1))) else (none))) else (if x3_1.length < 5864062014805 then (impl_runsOf.l0 k1 (x3_1 ++ [(⟨x9_1, 1, rd l0 x9_1⟩ : S89)]) l0 (l0.length : Int) (wrap64 (x9_1 + 1))) else (none))) else (none)) else (none)) = some r := by first | (rw [hji7] at H; exact H) | (simp only [hji7] at H ⊢; exact H)
                (try rw [hji7] at c6b0)
                have hji7w : (IntKind.i64.wrap ((x3_1.length : Int) - 1)) = ji7 := (i64_w _).trans hji7
                by_cases c8 : 0 ≤ (ji7)
                · rw [if_pos c8] at H
                  have c8b0 : decide (0 ≤ (ji7)) = true := decide_eq_true c8
                  clear c8
                  by_cases c9 : (ji7) < (x3_1.length : Int)
                  · rw [if_pos c9] at H
                    have c9b0 : decide ((ji7) < (x3_1.length : Int)) = true := decide_eq_true c9
                    clear c9
                    by_cases c10 : (wrap64 (((rd_T89 x3_1 (ji7)).f0) + ((rd_T89 x3_1 (ji7)).f1))) = x9_1
                    · rw [if_pos c10] at H
                      have c10b0 : ((wrap64 (((rd_T89 x3_1 (ji7)).f0) + ((rd_T89 x3_1 (ji7)).f1))) == x9_1) = true := beq_iff_eq.mpr c10
                      have c10b1 : ((wrap64 (((rd_T89 x3_1 (ji7)).f0) + ((rd_T89 x3_1 (ji7)).f1))) != x9_1) = false := bne_eq_false_iff_eq.mpr c10
                      clear c10
                      by_cases c11 : ((rd_T89 x3_1 (ji7)).f2) = (rd l0 x9_1)
                      · rw [if_pos c11] at H
                        have c11b0 : (((rd_T89 x3_1 (ji7)).f2) == (rd l0 x9_1)) = true := beq_iff_eq.mpr c11
                        have c11b1 : (((rd_T89 x3_1 (ji7)).f2) != (rd l0 x9_1)) = false := bne_eq_false_iff_eq.mpr c11
                        clear c11
                        obtain ⟨y190, hy190⟩ : ∃ y_ : List (S89), y_ = (x3_1.set ((ji7) : Int).toNat (⟨(rd_T89 x3_1 (ji7)).f0, wrap64 (((rd_T89 x3_1 (ji7)).f1) + 1), (rd_T89 x3_1 (ji7)).f2⟩ : S89)) := ⟨_, rfl⟩
                        replace H : (impl_runsOf.l0 k1 y190 l0 (l0.length : Int) (wrap64 (x9_1 + 1))) = some r := by first | (rw [hy190]; with_reducible exact H) | (have H2_ := (Option.bind_some _ _).symm.trans H; rw [hy190]; with_reducible exact H2_) | (have H2_ := (Option.bind_some _ _).symm.trans H; with_reducible exact H2_) | with_reducible exact H | (rw [hy190]; exact H) | exact H
                        have Ny190 := Aside0.mk hy190
                        clear hy190
                        have H' := Aside0.mk H
                        clear H
                        have p185 : 0 ≤ (x9_1 : Int) := of_decide_eq_true (by first | (with_reducible assumption) | assumption)
                        have q185 : x9_1 < (l0.length : Int) := of_decide_eq_true (by first | (with_reducible assumption) | assumption)
                        obtain ⟨ad185, e185, hx185_0⟩ := Kd.at_int HR0.out x9_1 p185 q185
                        cases e185
                        replace hx185_0 := (HB.out.cell (World.block_lt_of_cell? w _ hx185_0)).trans hx185_0
                        replace p185 := eq_true p185
                        replace q185 := eq_true q185
                        obtain ⟨Ao13, co13, eo13⟩ := Kd.R_slice HO_3.out
                        subst eo13
                        have p186 : 0 ≤ ((ji7) : Int) := of_decide_eq_true (by first | (with_reducible assumption) | assumption)
                        have q186 : (ji7) < (x3_1.length : Int) := of_decide_eq_true (by first | (with_reducible assumption) | assumption)
                        obtain ⟨ad186, e186, hx186_0, hx186_1, hx186_2⟩ := at_T89 (Kd.R_reads' HO_3.out).2.2 (ji7) p186 q186
                        cases e186
                        replace p186 := eq_true p186
                        replace q186 := eq_true q186
                        have p187 : 0 ≤ ((ji7) : Int) := of_decide_eq_true (by first | (with_reducible assumption) | assumption)
                        have q187 : (ji7) < (x3_1.length : Int) := of_decide_eq_true (by first | (with_reducible assumption) | assumption)
                        obtain ⟨ad187, e187, hx187_0, hx187_1, hx187_2⟩ := at_T89 (Kd.R_reads' HO_3.out).2.2 (ji7) p187 q187
                        obtain rfl : ad186 = ad187 := (by injection e187)
                        replace p187 := eq_true p187
                        replace q187 := eq_true q187
                        have p188 : 0 ≤ ((ji7) : Int) := of_decide_eq_true (by first | (with_reducible assumption) | assumption)
                        have q188 : (ji7) < (x3_1.length : Int) := of_decide_eq_true (by first | (with_reducible assumption) | assumption)
                        obtain ⟨ad188, e188, hx188_0, hx188_1, hx188_2⟩ := at_T89 (Kd.R_reads' HO_3.out).2.2 (ji7) p188 q188
                        obtain rfl : ad186 = ad188 := (by injection e188)
                        replace p188 := eq_true p188
                        replace q188 := eq_true q188
                        have p189 : 0 ≤ ((ji7) : Int) := of_decide_eq_true (by first | (with_reducible assumption) | assumption)
                        have q189 : (ji7) < (x3_1.length : Int) := of_decide_eq_true (by first | (with_reducible assumption) | assumption)
                        obtain ⟨ad189, e189, hx189_0, hx189_1, hx189_2⟩ := at_T89 (Kd.R_reads' HO_3.out).2.2 (ji7) p189 q189
                        obtain rfl : ad186 = ad189 := (by injection e189)
                        replace p189 := eq_true p189
                        replace q189 := eq_true q189
                        have p12 : 0 ≤ ((ji7) : Int) := of_decide_eq_true (by first | (with_reducible assumption) | assumption)
                        have q12 : ((ji7) : Int) < ((x3_1.length : Int) : Int) := of_decide_eq_true (by first | (with_reducible assumption) | assumption)
                        obtain ⟨go12, co12, eo12, gb12, gl12, cl12, HG12⟩ := Kd.R_form HO_3.out (by omega)
                        (first | cases eo12 | (injection eo12 with ea_ en_ ec_; (first | subst ea_ | (injection ea_ with ea_; subst ea_)); subst ec_; clear en_))
                        have GB12 := Aside0.mk gb12
                        have GG12 := Aside0.mk HG12
                        clear gb12 gl12 HG12
                        (first | simp only [add_plain] at hx186_0 | skip)
                        (first | simp only [add_plain] at hx186_1 | skip)
                        (first | simp only [add_plain] at hx186_2 | skip)
                        (first | simp only [add_plain] at hx187_0 | skip)
                        (first | simp only [add_plain] at hx187_1 | skip)
                        (first | simp only [add_plain] at hx187_2 | skip)
                        (first | simp only [add_plain] at hx188_0 | skip)
                        (first | simp only [add_plain] at hx188_1 | skip)
                        (first | simp only [add_plain] at hx188_2 | skip)
                        (first | simp only [add_plain] at hx189_0 | skip)
                        (first | simp only [add_plain] at hx189_1 | skip)
                        (first | simp only [add_plain] at hx189_2 | skip)
                        obtain ⟨ce12, hcl12, hM12, hcc12, hfr12⟩ := Kd.R_elem HO_3.out z89 ((ji7) : Int) p12 q12
                        obtain rfl := k89_openM hM12
                        have hx12_0 : wr.cell? ⟨go12, ((ji7) : Int).toNat * 3, none⟩ = some (.int .i64 ((rd_T89 x3_1 (ji7)).f0)) := hcc12 0 _ rfl
                        have hx12_1 : wr.cell? ⟨go12, ((ji7) : Int).toNat * 3 + 1, none⟩ = some (.int .i64 ((rd_T89 x3_1 (ji7)).f1)) := hcc12 1 _ rfl
                        have hx12_2 : wr.cell? ⟨go12, ((ji7) : Int).toNat * 3 + 2, none⟩ = some (.int .i64 ((rd_T89 x3_1 (ji7)).f2)) := hcc12 2 _ rfl
                        have hf12_0 : wr.frozen? ⟨go12, ((ji7) : Int).toNat * 3, none⟩ = false := hfr12 0
                        have hf12_1 : wr.frozen? ⟨go12, ((ji7) : Int).toNat * 3 + 1, none⟩ = false := hfr12 1
                        have hf12_2 : wr.frozen? ⟨go12, ((ji7) : Int).toNat * 3 + 2, none⟩ = false := hfr12 2
                        clear hcl12 hcc12 hfr12 hM12
                        replace p12 := eq_true p12
                        replace q12 := eq_true q12
                        have HX14 := Aside0.mk (show Kd.R k89 89 wr w.heap.size (fun _ => True) (.slice (some ⟨go12, 0, none⟩) x3_1.length co13) x3_1 from (by (with_reducible repeat (first | apply Kd.R_alloc | apply Kd.R_drewN | apply Kd.R_drew)); exact HO_3.out))
                        obtain ⟨ce14, hcl14, hM14, hcc14, hfr14⟩ := Kd.R_elem HX14.out z89 ((ji7) : Int) (of_decide_eq_true (by first | (with_reducible assumption) | assumption)) (by have h_ : ((ji7) : Int) < ((x3_1.length : Int) : Int) := of_decide_eq_true (by first | (with_reducible assumption) | assumption); first | exact h_ | (have e_ := (Kd.R_reads' HO_3.out).1; omega) | simpa using h_)
                        obtain rfl := k89_openM hM14
                        have HP14 := Kd.R_seg HX14.out ((ji7) : Int) (of_decide_eq_true (by first | (with_reducible assumption) | assumption)) (by have h_ : ((ji7) : Int) < ((x3_1.length : Int) : Int) := of_decide_eq_true (by first | (with_reducible assumption) | assumption); first | exact h_ | (have e_ := (Kd.R_reads' HO_3.out).1; omega) | simpa using h_) (seg := [.int .i64 (wrap64 (((rd_T89 x3_1 (ji7)).f1) + 1))]) (j := 1) hcl14 hcc14 (show 2 ≤ 3 from by decide) (x' := (⟨(rd_T89 x3_1 (ji7)).f0, wrap64 (((rd_T89 x3_1 (ji7)).f1) + 1), (rd_T89 x3_1 (ji7)).f2⟩ : S89)) (k89_mkM _ _ _ (⟨(rd_T89 x3_1 (ji7)).f0, wrap64 (((rd_T89 x3_1 (ji7)).f1) + 1), (rd_T89 x3_1 (ji7)).f2⟩ : S89) ) (fun _ hk => hk)
                        have hx14_1 := hcc14 1 _ rfl
                        (try simp only [show (k89).sz = 3 from rfl, Nat.mul_one, Nat.add_zero] at hx14_1)
                        have hf14_1 := hfr14 1
                        (try simp only [show (k89).sz = 3 from rfl, Nat.mul_one, Nat.add_zero] at hf14_1)
                        clear hcl14 hcc14 hfr14 hM14
                        go_wp2_with (first | ((with_reducible refine gate_store (t := 2) (p := 52) rfl ?_); (try (rw [drewN_self wr]; generalize hq_ : World.drewN wr _ = wr; have n0_ := Aside0.mk (Kd.R_at hq_ HO_3.out); have n1_ := Aside0.mk (below_at hq_ HB.out); clear hq_ HO_3 HB; have HO_3 := n0_; have HB := n1_; clear n0_ n1_; (try (have HX14 := Aside0.mk (show Kd.R k89 89 wr w.heap.size (fun _ => True) (.slice (some ⟨go12, 0, none⟩) x3_1.length co13) x3_1 from (by (with_reducible repeat (first | apply Kd.R_alloc | apply Kd.R_drewN | apply Kd.R_drew)); exact HO_3.out)))); (try (obtain ⟨ce14, hcl14, hM14, hcc14, hfr14⟩ := Kd.R_elem HX14.out z89 ((ji7) : Int) (of_decide_eq_true (by first | (with_reducible assumption) | assumption)) (by have h_ : ((ji7) : Int) < ((x3_1.length : Int) : Int) := of_decide_eq_true (by first | (with_reducible assumption) | assumption); first | exact h_ | (have e_ := (Kd.R_reads' HO_3.out).1; omega) | simpa using h_))); (try (obtain rfl := k89_openM hM14)); (try (have HP14 := Kd.R_seg HX14.out ((ji7) : Int) (of_decide_eq_true (by first | (with_reducible assumption) | assumption)) (by have h_ : ((ji7) : Int) < ((x3_1.length : Int) : Int) := of_decide_eq_true (by first | (with_reducible assumption) | assumption); first | exact h_ | (have e_ := (Kd.R_reads' HO_3.out).1; omega) | simpa using h_) (seg := [.int .i64 (wrap64 (((rd_T89 x3_1 (ji7)).f1) + 1))]) (j := 1) hcl14 hcc14 (show 2 ≤ 3 from by decide) (x' := (⟨(rd_T89 x3_1 (ji7)).f0, wrap64 (((rd_T89 x3_1 (ji7)).f1) + 1), (rd_T89 x3_1 (ji7)).f2⟩ : S89)) (k89_mkM _ _ _ (⟨(rd_T89 x3_1 (ji7)).f0, wrap64 (((rd_T89 x3_1 (ji7)).f1) + 1), (rd_T89 x3_1 (ji7)).f2⟩ : S89) ) (fun _ hk => hk))); (try (have hx14_1 := hcc14 1 _ rfl)); (try (try simp only [show (k89).sz = 3 from rfl, Nat.mul_one, Nat.add_zero] at hx14_1)); (try (have hf14_1 := hfr14 1)); (try (try simp only [show (k89).sz = 3 from rfl, Nat.mul_one, Nat.add_zero] at hf14_1)); (try (clear hcl14 hcc14 hfr14 hM14)))); refine store_event (t := 2) (p := 52) (v := ?vo_w15) (w1 := (wr.setCell ⟨go12, ((ji7) : Int).toNat * 3 + 1, none⟩ (.int .i64 (wrap64 (((rd_T89 x3_1 (ji7)).f1) + 1))))) ?hg ?ho ?hn ?hr ?_; (case ho => rfl); (case hg => rfl); (case hn => rfl); (case hr => first | (go_simp; done) | (go_simp; rfl)); intro w15 hw; have hg : wr.grownBy w15 (some go12) := (by rw [hw]; exact HP14.2); have hp_ : Kd.R k89 89 w15 w.heap.size (fun _ => True) (.slice (some ⟨go12, 0, none⟩) x3_1.length co13) y190 := (by rw [hw, Ny190.out]; exact HP14.1); clear HP14; have n0_ := Aside0.mk (hp_); have n1_ := Aside0.mk ((by rw [hw]; exact below_set (HB.out) GB12.out : Below w.heap.size w w15)); clear HO_3; clear HB; have HO_3 := n0_; have HB := n1_; clear n0_ n1_; clear hg hw hp_))
                        repeat (go_quiet (first | ((with_reducible refine gate_store (t := 2) (p := 52) rfl ?_); (try (rw [drewN_self wr]; generalize hq_ : World.drewN wr _ = wr; have n0_ := Aside0.mk (Kd.R_at hq_ HO_3.out); have n1_ := Aside0.mk (below_at hq_ HB.out); clear hq_ HO_3 HB; have HO_3 := n0_; have HB := n1_; clear n0_ n1_; (try (have HX14 := Aside0.mk (show Kd.R k89 89 wr w.heap.size (fun _ => True) (.slice (some ⟨go12, 0, none⟩) x3_1.length co13) x3_1 from (by (with_reducible repeat (first | apply Kd.R_alloc | apply Kd.R_drewN | apply Kd.R_drew)); exact HO_3.out)))); (try (obtain ⟨ce14, hcl14, hM14, hcc14, hfr14⟩ := Kd.R_elem HX14.out z89 ((ji7) : Int) (of_decide_eq_true (by first | (with_reducible assumption) | assumption)) (by have h_ : ((ji7) : Int) < ((x3_1.length : Int) : Int) := of_decide_eq_true (by first | (with_reducible assumption) | assumption); first | exact h_ | (have e_ := (Kd.R_reads' HO_3.out).1; omega) | simpa using h_))); (try (obtain rfl := k89_openM hM14)); (try (have HP14 := Kd.R_seg HX14.out ((ji7) : Int) (of_decide_eq_true (by first | (with_reducible assumption) | assumption)) (by have h_ : ((ji7) : Int) < ((x3_1.length : Int) : Int) := of_decide_eq_true (by first | (with_reducible assumption) | assumption); first | exact h_ | (have e_ := (Kd.R_reads' HO_3.out).1; omega) | simpa using h_) (seg := [.int .i64 (wrap64 (((rd_T89 x3_1 (ji7)).f1) + 1))]) (j := 1) hcl14 hcc14 (show 2 ≤ 3 from by decide) (x' := (⟨(rd_T89 x3_1 (ji7)).f0, wrap64 (((rd_T89 x3_1 (ji7)).f1) + 1), (rd_T89 x3_1 (ji7)).f2⟩ : S89)) (k89_mkM _ _ _ (⟨(rd_T89 x3_1 (ji7)).f0, wrap64 (((rd_T89 x3_1 (ji7)).f1) + 1), (rd_T89 x3_1 (ji7)).f2⟩ : S89) ) (fun _ hk => hk))); (try (have hx14_1 := hcc14 1 _ rfl)); (try (try simp only [show (k89).sz = 3 from rfl, Nat.mul_one, Nat.add_zero] at hx14_1)); (try (have hf14_1 := hfr14 1)); (try (try simp only [show (k89).sz = 3 from rfl, Nat.mul_one, Nat.add_zero] at hf14_1)); (try (clear hcl14 hcc14 hfr14 hM14)))); refine store_event (t := 2) (p := 52) (v := ?vo_w15) (w1 := (wr.setCell ⟨go12, ((ji7) : Int).toNat * 3 + 1, none⟩ (.int .i64 (wrap64 (((rd_T89 x3_1 (ji7)).f1) + 1))))) ?hg ?ho ?hn ?hr ?_; (case ho => rfl); (case hg => rfl); (case hn => rfl); (case hr => first | (go_simp; done) | (go_simp; rfl)); intro w15 hw; have hg : wr.grownBy w15 (some go12) := (by rw [hw]; exact HP14.2); have hp_ : Kd.R k89 89 w15 w.heap.size (fun _ => True) (.slice (some ⟨go12, 0, none⟩) x3_1.length co13) y190 := (by rw [hw, Ny190.out]; exact HP14.1); clear HP14; have n0_ := Aside0.mk (hp_); have n1_ := Aside0.mk ((by rw [hw]; exact below_set (HB.out) GB12.out : Below w.heap.size w w15)); clear HO_3; clear HB; have HO_3 := n0_; have HB := n1_; clear n0_ n1_; clear hg hw hp_)); try go_wp2_with (first | ((with_reducible refine gate_store (t := 2) (p := 52) rfl ?_); (try (rw [drewN_self wr]; generalize hq_ : World.drewN wr _ = wr; have n0_ := Aside0.mk (Kd.R_at hq_ HO_3.out); have n1_ := Aside0.mk (below_at hq_ HB.out); clear hq_ HO_3 HB; have HO_3 := n0_; have HB := n1_; clear n0_ n1_; (try (have HX14 := Aside0.mk (show Kd.R k89 89 wr w.heap.size (fun _ => True) (.slice (some ⟨go12, 0, none⟩) x3_1.length co13) x3_1 from (by (with_reducible repeat (first | apply Kd.R_alloc | apply Kd.R_drewN | apply Kd.R_drew)); exact HO_3.out)))); (try (obtain ⟨ce14, hcl14, hM14, hcc14, hfr14⟩ := Kd.R_elem HX14.out z89 ((ji7) : Int) (of_decide_eq_true (by first | (with_reducible assumption) | assumption)) (by have h_ : ((ji7) : Int) < ((x3_1.length : Int) : Int) := of_decide_eq_true (by first | (with_reducible assumption) | assumption); first | exact h_ | (have e_ := (Kd.R_reads' HO_3.out).1; omega) | simpa using h_))); (try (obtain rfl := k89_openM hM14)); (try (have HP14 := Kd.R_seg HX14.out ((ji7) : Int) (of_decide_eq_true (by first | (with_reducible assumption) | assumption)) (by have h_ : ((ji7) : Int) < ((x3_1.length : Int) : Int) := of_decide_eq_true (by first | (with_reducible assumption) | assumption); first | exact h_ | (have e_ := (Kd.R_reads' HO_3.out).1; omega) | simpa using h_) (seg := [.int .i64 (wrap64 (((rd_T89 x3_1 (ji7)).f1) + 1))]) (j := 1) hcl14 hcc14 (show 2 ≤ 3 from by decide) (x' := (⟨(rd_T89 x3_1 (ji7)).f0, wrap64 (((rd_T89 x3_1 (ji7)).f1) + 1), (rd_T89 x3_1 (ji7)).f2⟩ : S89)) (k89_mkM _ _ _ (⟨(rd_T89 x3_1 (ji7)).f0, wrap64 (((rd_T89 x3_1 (ji7)).f1) + 1), (rd_T89 x3_1 (ji7)).f2⟩ : S89) ) (fun _ hk => hk))); (try (have hx14_1 := hcc14 1 _ rfl)); (try (try simp only [show (k89).sz = 3 from rfl, Nat.mul_one, Nat.add_zero] at hx14_1)); (try (have hf14_1 := hfr14 1)); (try (try simp only [show (k89).sz = 3 from rfl, Nat.mul_one, Nat.add_zero] at hf14_1)); (try (clear hcl14 hcc14 hfr14 hM14)))); refine store_event (t := 2) (p := 52) (v := ?vo_w15) (w1 := (wr.setCell ⟨go12, ((ji7) : Int).toNat * 3 + 1, none⟩ (.int .i64 (wrap64 (((rd_T89 x3_1 (ji7)).f1) + 1))))) ?hg ?ho ?hn ?hr ?_; (case ho => rfl); (case hg => rfl); (case hn => rfl); (case hr => first | (go_simp; done) | (go_simp; rfl)); intro w15 hw; have hg : wr.grownBy w15 (some go12) := (by rw [hw]; exact HP14.2); have hp_ : Kd.R k89 89 w15 w.heap.size (fun _ => True) (.slice (some ⟨go12, 0, none⟩) x3_1.length co13) y190 := (by rw [hw, Ny190.out]; exact HP14.1); clear HP14; have n0_ := Aside0.mk (hp_); have n1_ := Aside0.mk ((by rw [hw]; exact below_set (HB.out) GB12.out : Below w.heap.size w w15)); clear HO_3; clear HB; have HO_3 := n0_; have HB := n1_; clear n0_ n1_; clear hg hw hp_)))
                        go_roundg k1
                        case measure => have := HK1.out; omega
                        case rel => exact ⟨(y190), (wrap64 (x9_1 + 1)), (by first | rfl | (simp; done) | (simp [*]; done)), H', ⟨by have := HK1.out; omega⟩, ⟨by (with_reducible repeat (first | apply Kd.R_alloc | apply Kd.R_drewN | apply Kd.R_drew)); exact HO_3.out⟩, ⟨by repeat (first | (with_reducible first | exact HB.out | apply below_alloc | apply pw_below_drewN | apply below_drew1) | exact HB.out)⟩⟩
                      · rw [if_neg c11] at H
                        have c11b0 : (((rd_T89 x3_1 (ji7)).f2) == (rd l0 x9_1)) = false := beq_eq_false_iff_ne.mpr c11
                        have c11b1 : (((rd_T89 x3_1 (ji7)).f2) != (rd l0 x9_1)) = true := bne_iff_ne.mpr c11
                        by_cases c16 : x3_1.length < 5864062014805
                        · rw [if_pos c16] at H
                          have LMc16 := Aside0.mk c16
                          clear c16
                          obtain ⟨y191, hy191⟩ : ∃ y_ : List (S89), y_ = (x3_1 ++ [(⟨x9_1, 1, rd l0 x9_1⟩ : S89)]) := ⟨_, rfl⟩
                          replace H : (impl_runsOf.l0 k1 y191 l0 (l0.length : Int) (wrap64 (x9_1 + 1))) = some r := by first | (rw [hy191]; with_reducible exact H) | (have H2_ := (Option.bind_some _ _).symm.trans H; rw [hy191]; with_reducible exact H2_) | (have H2_ := (Option.bind_some _ _).symm.trans H; with_reducible exact H2_) | with_reducible exact H | (rw [hy191]; exact H) | exact H
                          have Ny191 := Aside0.mk hy191
                          clear hy191
                          have H' := Aside0.mk H
                          clear H
                          have p185 : 0 ≤ (x9_1 : Int) := of_decide_eq_true (by first | (with_reducible assumption) | assumption)
                          have q185 : x9_1 < (l0.length : Int) := of_decide_eq_true (by first | (with_reducible assumption) | assumption)
                          obtain ⟨ad185, e185, hx185_0⟩ := Kd.at_int HR0.out x9_1 p185 q185
                          cases e185
                          replace hx185_0 := (HB.out.cell (World.block_lt_of_cell? w _ hx185_0)).trans hx185_0
                          replace p185 := eq_true p185
                          replace q185 := eq_true q185
                          obtain ⟨Ao17, co17, eo17⟩ := Kd.R_slice HO_3.out
                          subst eo17
                          have p186 : 0 ≤ ((ji7) : Int) := of_decide_eq_true (by first | (with_reducible assumption) | assumption)
                          have q186 : (ji7) < (x3_1.length : Int) := of_decide_eq_true (by first | (with_reducible assumption) | assumption)
                          obtain ⟨ad186, e186, hx186_0, hx186_1, hx186_2⟩ := at_T89 (Kd.R_reads' HO_3.out).2.2 (ji7) p186 q186
                          cases e186
                          replace p186 := eq_true p186
                          replace q186 := eq_true q186
                          have p187 : 0 ≤ ((ji7) : Int) := of_decide_eq_true (by first | (with_reducible assumption) | assumption)
                          have q187 : (ji7) < (x3_1.length : Int) := of_decide_eq_true (by first | (with_reducible assumption) | assumption)
                          obtain ⟨ad187, e187, hx187_0, hx187_1, hx187_2⟩ := at_T89 (Kd.R_reads' HO_3.out).2.2 (ji7) p187 q187
                          obtain rfl : ad186 = ad187 := (by injection e187)
                          replace p187 := eq_true p187
                          replace q187 := eq_true q187
                          have p188 : 0 ≤ ((ji7) : Int) := of_decide_eq_true (by first | (with_reducible assumption) | assumption)
                          have q188 : (ji7) < (x3_1.length : Int) := of_decide_eq_true (by first | (with_reducible assumption) | assumption)
                          obtain ⟨ad188, e188, hx188_0, hx188_1, hx188_2⟩ := at_T89 (Kd.R_reads' HO_3.out).2.2 (ji7) p188 q188
                          obtain rfl : ad186 = ad188 := (by injection e188)
                          replace p188 := eq_true p188
                          replace q188 := eq_true q188
                          go_wp2_with (first | ((with_reducible refine gate_builtin (b := .append) (xs := #[.tmp 53, .tmp 57]) rfl ?_); at_builtin; refine Kd.R_append k89 (w0 := w) w.heap.size rfl (.tmp 53) (.tmp 57) 27 89 (.agg #[(.int .i64 0), (.int .i64 0), (.int .i64 0)]) 24 rfl Try.underlying27 info89 rfl (by decide) (by omega) (.slice (some ad186) x3_1.length co17) x3_1 (⟨x9_1, 1, rd l0 x9_1⟩ : S89) [.int .i64 x9_1, .int .i64 1, .int .i64 (rd l0 x9_1)] (fun _ => True) (fun _ => False) rfl rfl ?aP (fun _ hk => hk.elim) ?aF ?aO ?aB ?aS ?aL ?_; (case aP => exact k89_mkM _ _ _ (⟨x9_1, 1, rd l0 x9_1⟩ : S89)); (case aB => exact (by repeat (first | (with_reducible first | exact HB.out | apply below_alloc | apply pw_below_drewN | apply below_drew1) | exact HB.out))); (case aF => exact (fun _ _ => trivial)); (case aO => exact (by (with_reducible repeat (first | apply Kd.R_alloc | apply Kd.R_drewN | apply Kd.R_drew)); exact HO_3.out)); (case aS => exact (below_size (by repeat (first | (with_reducible first | exact HB.out | apply below_alloc | apply pw_below_drewN | apply below_drew1) | exact HB.out)))); (case aL => have := LMc16.out; omega); intro v192 w18 ho hb hg hat; rw [← Ny191.out] at ho; have n0_ := Aside0.mk (hb); have n1_ := Aside0.mk (ho); clear HB; clear HO_3; have HB := n0_; have HO193 := n1_; clear n0_ n1_; clear ho hb hg hat))
                          repeat (go_quiet (first | ((with_reducible refine gate_builtin (b := .append) (xs := #[.tmp 53, .tmp 57]) rfl ?_); at_builtin; refine Kd.R_append k89 (w0 := w) w.heap.size rfl (.tmp 53) (.tmp 57) 27 89 (.agg #[(.int .i64 0), (.int .i64 0), (.int .i64 0)]) 24 rfl Try.underlying27 info89 rfl (by decide) (by omega) (.slice (some ad186) x3_1.length co17) x3_1 (⟨x9_1, 1, rd l0 x9_1⟩ : S89) [.int .i64 x9_1, .int .i64 1, .int .i64 (rd l0 x9_1)] (fun _ => True) (fun _ => False) rfl rfl ?aP (fun _ hk => hk.elim) ?aF ?aO ?aB ?aS ?aL ?_; (case aP => exact k89_mkM _ _ _ (⟨x9_1, 1, rd l0 x9_1⟩ : S89)); (case aB => exact (by repeat (first | (with_reducible first | exact HB.out | apply below_alloc | apply pw_below_drewN | apply below_drew1) | exact HB.out))); (case aF => exact (fun _ _ => trivial)); (case aO => exact (by (with_reducible repeat (first | apply Kd.R_alloc | apply Kd.R_drewN | apply Kd.R_drew)); exact HO_3.out)); (case aS => exact (below_size (by repeat (first | (with_reducible first | exact HB.out | apply below_alloc | apply pw_below_drewN | apply below_drew1) | exact HB.out)))); (case aL => have := LMc16.out; omega); intro v192 w18 ho hb hg hat; rw [← Ny191.out] at ho; have n0_ := Aside0.mk (hb); have n1_ := Aside0.mk (ho); clear HB; clear HO_3; have HB := n0_; have HO193 := n1_; clear n0_ n1_; clear ho hb hg hat)); try go_wp2_with (first | ((with_reducible refine gate_builtin (b := .append) (xs := #[.tmp 53, .tmp 57]) rfl ?_); at_builtin; refine Kd.R_append k89 (w0 := w) w.heap.size rfl (.tmp 53) (.tmp 57) 27 89 (.agg #[(.int .i64 0), (.int .i64 0), (.int .i64 0)]) 24 rfl Try.underlying27 info89 rfl (by decide) (by omega) (.slice (some ad186) x3_1.length co17) x3_1 (⟨x9_1, 1, rd l0 x9_1⟩ : S89) [.int .i64 x9_1, .int .i64 1, .int .i64 (rd l0 x9_1)] (fun _ => True) (fun _ => False) rfl rfl ?aP (fun _ hk => hk.elim) ?aF ?aO ?aB ?aS ?aL ?_; (case aP => exact k89_mkM _ _ _ (⟨x9_1, 1, rd l0 x9_1⟩ : S89)); (case aB => exact (by repeat (first | (with_reducible first | exact HB.out | apply below_alloc | apply pw_below_drewN | apply below_drew1) | exact HB.out))); (case aF => exact (fun _ _ => trivial)); (case aO => exact (by (with_reducible repeat (first | apply Kd.R_alloc | apply Kd.R_drewN | apply Kd.R_drew)); exact HO_3.out)); (case aS => exact (below_size (by repeat (first | (with_reducible first | exact HB.out | apply below_alloc | apply pw_below_drewN | apply below_drew1) | exact HB.out)))); (case aL => have := LMc16.out; omega); intro v192 w18 ho hb hg hat; rw [← Ny191.out] at ho; have n0_ := Aside0.mk (hb); have n1_ := Aside0.mk (ho); clear HB; clear HO_3; have HB := n0_; have HO193 := n1_; clear n0_ n1_; clear ho hb hg hat)))
                          go_roundg k1
                          case measure => have := HK1.out; omega
                          case rel => exact ⟨(y191), (wrap64 (x9_1 + 1)), (by first | rfl | (simp; done) | (simp [*]; done)), H', ⟨by have := HK1.out; omega⟩, ⟨by (with_reducible repeat (first | apply Kd.R_alloc | apply Kd.R_drewN | apply Kd.R_drew)); exact HO193.out⟩, ⟨by repeat (first | (with_reducible first | exact HB.out | apply below_alloc | apply pw_below_drewN | apply below_drew1) | exact HB.out)⟩⟩
                        · rw [if_neg c16] at H
                          exact absurd H (by simp)
                    · rw [if_neg c10] at H
                      have c10b0 : ((wrap64 (((rd_T89 x3_1 (ji7)).f0) + ((rd_T89 x3_1 (ji7)).f1))) == x9_1) = false := beq_eq_false_iff_ne.mpr c10
                      have c10b1 : ((wrap64 (((rd_T89 x3_1 (ji7)).f0) + ((rd_T89 x3_1 (ji7)).f1))) != x9_1) = true := bne_iff_ne.mpr c10
                      by_cases c19 : x3_1.length < 5864062014805
                      · rw [if_pos c19] at H
                        have LMc19 := Aside0.mk c19
                        clear c19
                        obtain ⟨y194, hy194⟩ : ∃ y_ : List (S89), y_ = (x3_1 ++ [(⟨x9_1, 1, rd l0 x9_1⟩ : S89)]) := ⟨_, rfl⟩
                        replace H : (impl_runsOf.l0 k1 y194 l0 (l0.length : Int) (wrap64 (x9_1 + 1))) = some r := by first | (rw [hy194]; with_reducible exact H) | (have H2_ := (Option.bind_some _ _).symm.trans H; rw [hy194]; with_reducible exact H2_) | (have H2_ := (Option.bind_some _ _).symm.trans H; with_reducible exact H2_) | with_reducible exact H | (rw [hy194]; exact H) | exact H
                        have Ny194 := Aside0.mk hy194
                        clear hy194
                        have H' := Aside0.mk H
                        clear H
                        have p185 : 0 ≤ (x9_1 : Int) := of_decide_eq_true (by first | (with_reducible assumption) | assumption)
                        have q185 : x9_1 < (l0.length : Int) := of_decide_eq_true (by first | (with_reducible assumption) | assumption)
                        obtain ⟨ad185, e185, hx185_0⟩ := Kd.at_int HR0.out x9_1 p185 q185
                        cases e185
                        replace hx185_0 := (HB.out.cell (World.block_lt_of_cell? w _ hx185_0)).trans hx185_0
                        replace p185 := eq_true p185
                        replace q185 := eq_true q185
                        obtain ⟨Ao20, co20, eo20⟩ := Kd.R_slice HO_3.out
                        subst eo20
                        have p186 : 0 ≤ ((ji7) : Int) := of_decide_eq_true (by first | (with_reducible assumption) | assumption)
                        have q186 : (ji7) < (x3_1.length : Int) := of_decide_eq_true (by first | (with_reducible assumption) | assumption)
                        obtain ⟨ad186, e186, hx186_0, hx186_1, hx186_2⟩ := at_T89 (Kd.R_reads' HO_3.out).2.2 (ji7) p186 q186
                        cases e186
                        replace p186 := eq_true p186
                        replace q186 := eq_true q186
                        have p187 : 0 ≤ ((ji7) : Int) := of_decide_eq_true (by first | (with_reducible assumption) | assumption)
                        have q187 : (ji7) < (x3_1.length : Int) := of_decide_eq_true (by first | (with_reducible assumption) | assumption)
                        obtain ⟨ad187, e187, hx187_0, hx187_1, hx187_2⟩ := at_T89 (Kd.R_reads' HO_3.out).2.2 (ji7) p187 q187
                        obtain rfl : ad186 = ad187 := (by injection e187)
                        replace p187 := eq_true p187
                        replace q187 := eq_true q187
                        go_wp2_with (first | ((with_reducible refine gate_builtin (b := .append) (xs := #[.tmp 53, .tmp 57]) rfl ?_); at_builtin; refine Kd.R_append k89 (w0 := w) w.heap.size rfl (.tmp 53) (.tmp 57) 27 89 (.agg #[(.int .i64 0), (.int .i64 0), (.int .i64 0)]) 24 rfl Try.underlying27 info89 rfl (by decide) (by omega) (.slice (some ad186) x3_1.length co20) x3_1 (⟨x9_1, 1, rd l0 x9_1⟩ : S89) [.int .i64 x9_1, .int .i64 1, .int .i64 (rd l0 x9_1)] (fun _ => True) (fun _ => False) rfl rfl ?aP (fun _ hk => hk.elim) ?aF ?aO ?aB ?aS ?aL ?_; (case aP => exact k89_mkM _ _ _ (⟨x9_1, 1, rd l0 x9_1⟩ : S89)); (case aB => exact (by repeat (first | (with_reducible first | exact HB.out | apply below_alloc | apply pw_below_drewN | apply below_drew1) | exact HB.out))); (case aF => exact (fun _ _ => trivial)); (case aO => exact (by (with_reducible repeat (first | apply Kd.R_alloc | apply Kd.R_drewN | apply Kd.R_drew)); exact HO_3.out)); (case aS => exact (below_size (by repeat (first | (with_reducible first | exact HB.out | apply below_alloc | apply pw_below_drewN | apply below_drew1) | exact HB.out)))); (case aL => have := LMc19.out; omega); intro v195 w21 ho hb hg hat; rw [← Ny194.out] at ho; have n0_ := Aside0.mk (hb); have n1_ := Aside0.mk (ho); clear HB; clear HO_3; have HB := n0_; have HO196 := n1_; clear n0_ n1_; clear ho hb hg hat))
                        repeat (go_quiet (first | ((with_reducible refine gate_builtin (b := .append) (xs := #[.tmp 53, .tmp 57]) rfl ?_); at_builtin; refine Kd.R_append k89 (w0 := w) w.heap.size rfl (.tmp 53) (.tmp 57) 27 89 (.agg #[(.int .i64 0), (.int .i64 0), (.int .i64 0)]) 24 rfl Try.underlying27 info89 rfl (by decide) (by omega) (.slice (some ad186) x3_1.length co20) x3_1 (⟨x9_1, 1, rd l0 x9_1⟩ : S89) [.int .i64 x9_1, .int .i64 1, .int .i64 (rd l0 x9_1)] (fun _ => True) (fun _ => False) rfl rfl ?aP (fun _ hk => hk.elim) ?aF ?aO ?aB ?aS ?aL ?_; (case aP => exact k89_mkM _ _ _ (⟨x9_1, 1, rd l0 x9_1⟩ : S89)); (case aB => exact (by repeat (first | (with_reducible first | exact HB.out | apply below_alloc | apply pw_below_drewN | apply below_drew1) | exact HB.out))); (case aF => exact (fun _ _ => trivial)); (case aO => exact (by (with_reducible repeat (first | apply Kd.R_alloc | apply Kd.R_drewN | apply Kd.R_drew)); exact HO_3.out)); (case aS => exact (below_size (by repeat (first | (with_reducible first | exact HB.out | apply below_alloc | apply pw_below_drewN | apply below_drew1) | exact HB.out)))); (case aL => have := LMc19.out; omega); intro v195 w21 ho hb hg hat; rw [← Ny194.out] at ho; have n0_ := Aside0.mk (hb); have n1_ := Aside0.mk (ho); clear HB; clear HO_3; have HB := n0_; have HO196 := n1_; clear n0_ n1_; clear ho hb hg hat)); try go_wp2_with (first | ((with_reducible refine gate_builtin (b := .append) (xs := #[.tmp 53, .tmp 57]) rfl ?_); at_builtin; refine Kd.R_append k89 (w0 := w) w.heap.size rfl (.tmp 53) (.tmp 57) 27 89 (.agg #[(.int .i64 0), (.int .i64 0), (.int .i64 0)]) 24 rfl Try.underlying27 info89 rfl (by decide) (by omega) (.slice (some ad186) x3_1.length co20) x3_1 (⟨x9_1, 1, rd l0 x9_1⟩ : S89) [.int .i64 x9_1, .int .i64 1, .int .i64 (rd l0 x9_1)] (fun _ => True) (fun _ => False) rfl rfl ?aP (fun _ hk => hk.elim) ?aF ?aO ?aB ?aS ?aL ?_; (case aP => exact k89_mkM _ _ _ (⟨x9_1, 1, rd l0 x9_1⟩ : S89)); (case aB => exact (by repeat (first | (with_reducible first | exact HB.out | apply below_alloc | apply pw_below_drewN | apply below_drew1) | exact HB.out))); (case aF => exact (fun _ _ => trivial)); (case aO => exact (by (with_reducible repeat (first | apply Kd.R_alloc | apply Kd.R_drewN | apply Kd.R_drew)); exact HO_3.out)); (case aS => exact (below_size (by repeat (first | (with_reducible first | exact HB.out | apply below_alloc | apply pw_below_drewN | apply below_drew1) | exact HB.out)))); (case aL => have := LMc19.out; omega); intro v195 w21 ho hb hg hat; rw [← Ny194.out] at ho; have n0_ := Aside0.mk (hb); have n1_ := Aside0.mk (ho); clear HB; clear HO_3; have HB := n0_; have HO196 := n1_; clear n0_ n1_; clear ho hb hg hat)))
                        go_roundg k1
                        case measure => have := HK1.out; omega
                        case rel => exact ⟨(y194), (wrap64 (x9_1 + 1)), (by first | rfl | (simp; done) | (simp [*]; done)), H', ⟨by have := HK1.out; omega⟩, ⟨by (with_reducible repeat (first | apply Kd.R_alloc | apply Kd.R_drewN | apply Kd.R_drew)); exact HO196.out⟩, ⟨by repeat (first | (with_reducible first | exact HB.out | apply below_alloc | apply pw_below_drewN | apply below_drew1) | exact HB.out)⟩⟩
                      · rw [if_neg c19] at H
                        exact absurd H (by simp)
                  · rw [if_neg c9] at H
                    exact absurd H (by simp)
                · rw [if_neg c8] at H
                  exact absurd H (by simp)
              · rw [if_neg c6] at H
                have c6b0 : decide (0 ≤ (wrap64 ((x3_1.length : Int) - 1))) = false := decide_eq_false c6
                clear c6
                by_cases c22 : x3_1.length < 5864062014805
                · rw [if_pos c22] at H
                  have LMc22 := Aside0.mk c22
                  clear c22
                  obtain ⟨y197, hy197⟩ : ∃ y_ : List (S89), y_ = (x3_1 ++ [(⟨x9_1, 1, rd l0 x9_1⟩ : S89)]) := ⟨_, rfl⟩
                  replace H : (impl_runsOf.l0 k1 y197 l0 (l0.length : Int) (wrap64 (x9_1 + 1))) = some r := by first | (rw [hy197]; with_reducible exact H) | (have H2_ := (Option.bind_some _ _).symm.trans H; rw [hy197]; with_reducible exact H2_) | (have H2_ := (Option.bind_some _ _).symm.trans H; with_reducible exact H2_) | with_reducible exact H | (rw [hy197]; exact H) | exact H
                  have Ny197 := Aside0.mk hy197
                  clear hy197
                  have H' := Aside0.mk H
                  clear H
                  have p185 : 0 ≤ (x9_1 : Int) := of_decide_eq_true (by first | (with_reducible assumption) | assumption)
                  have q185 : x9_1 < (l0.length : Int) := of_decide_eq_true (by first | (with_reducible assumption) | assumption)
                  obtain ⟨ad185, e185, hx185_0⟩ := Kd.at_int HR0.out x9_1 p185 q185
                  cases e185
                  replace hx185_0 := (HB.out.cell (World.block_lt_of_cell? w _ hx185_0)).trans hx185_0
                  replace p185 := eq_true p185
                  replace q185 := eq_true q185
                  obtain ⟨Ao23, co23, eo23⟩ := Kd.R_slice HO_3.out
                  subst eo23
                  go_wp2_with (first | ((with_reducible refine gate_builtin (b := .append) (xs := #[.tmp 53, .tmp 57]) rfl ?_); at_builtin; refine Kd.R_append k89 (w0 := w) w.heap.size rfl (.tmp 53) (.tmp 57) 27 89 (.agg #[(.int .i64 0), (.int .i64 0), (.int .i64 0)]) 24 rfl Try.underlying27 info89 rfl (by decide) (by omega) (.slice Ao23 x3_1.length co23) x3_1 (⟨x9_1, 1, rd l0 x9_1⟩ : S89) [.int .i64 x9_1, .int .i64 1, .int .i64 (rd l0 x9_1)] (fun _ => True) (fun _ => False) rfl rfl ?aP (fun _ hk => hk.elim) ?aF ?aO ?aB ?aS ?aL ?_; (case aP => exact k89_mkM _ _ _ (⟨x9_1, 1, rd l0 x9_1⟩ : S89)); (case aB => exact (by repeat (first | (with_reducible first | exact HB.out | apply below_alloc | apply pw_below_drewN | apply below_drew1) | exact HB.out))); (case aF => exact (fun _ _ => trivial)); (case aO => exact (by (with_reducible repeat (first | apply Kd.R_alloc | apply Kd.R_drewN | apply Kd.R_drew)); exact HO_3.out)); (case aS => exact (below_size (by repeat (first | (with_reducible first | exact HB.out | apply below_alloc | apply pw_below_drewN | apply below_drew1) | exact HB.out)))); (case aL => have := LMc22.out; omega); intro v198 w24 ho hb hg hat; rw [← Ny197.out] at ho; have n0_ := Aside0.mk (hb); have n1_ := Aside0.mk (ho); clear HB; clear HO_3; have HB := n0_; have HO199 := n1_; clear n0_ n1_; clear ho hb hg hat))
                  repeat (go_quiet (first | ((with_reducible refine gate_builtin (b := .append) (xs := #[.tmp 53, .tmp 57]) rfl ?_); at_builtin; refine Kd.R_append k89 (w0 := w) w.heap.size rfl (.tmp 53) (.tmp 57) 27 89 (.agg #[(.int .i64 0), (.int .i64 0), (.int .i64 0)]) 24 rfl Try.underlying27 info89 rfl (by decide) (by omega) (.slice Ao23 x3_1.length co23) x3_1 (⟨x9_1, 1, rd l0 x9_1⟩ : S89) [.int .i64 x9_1, .int .i64 1, .int .i64 (rd l0 x9_1)] (fun _ => True) (fun _ => False) rfl rfl ?aP (fun _ hk => hk.elim) ?aF ?aO ?aB ?aS ?aL ?_; (case aP => exact k89_mkM _ _ _ (⟨x9_1, 1, rd l0 x9_1⟩ : S89)); (case aB => exact (by repeat (first | (with_reducible first | exact HB.out | apply below_alloc | apply pw_below_drewN | apply below_drew1) | exact HB.out))); (case aF => exact (fun _ _ => trivial)); (case aO => exact (by (with_reducible repeat (first | apply Kd.R_alloc | apply Kd.R_drewN | apply Kd.R_drew)); exact HO_3.out)); (case aS => exact (below_size (by repeat (first | (with_reducible first | exact HB.out | apply below_alloc | apply pw_below_drewN | apply below_drew1) | exact HB.out)))); (case aL => have := LMc22.out; omega); intro v198 w24 ho hb hg hat; rw [← Ny197.out] at ho; have n0_ := Aside0.mk (hb); have n1_ := Aside0.mk (ho); clear HB; clear HO_3; have HB := n0_; have HO199 := n1_; clear n0_ n1_; clear ho hb hg hat)); try go_wp2_with (first | ((with_reducible refine gate_builtin (b := .append) (xs := #[.tmp 53, .tmp 57]) rfl ?_); at_builtin; refine Kd.R_append k89 (w0 := w) w.heap.size rfl (.tmp 53) (.tmp 57) 27 89 (.agg #[(.int .i64 0), (.int .i64 0), (.int .i64 0)]) 24 rfl Try.underlying27 info89 rfl (by decide) (by omega) (.slice Ao23 x3_1.length co23) x3_1 (⟨x9_1, 1, rd l0 x9_1⟩ : S89) [.int .i64 x9_1, .int .i64 1, .int .i64 (rd l0 x9_1)] (fun _ => True) (fun _ => False) rfl rfl ?aP (fun _ hk => hk.elim) ?aF ?aO ?aB ?aS ?aL ?_; (case aP => exact k89_mkM _ _ _ (⟨x9_1, 1, rd l0 x9_1⟩ : S89)); (case aB => exact (by repeat (first | (with_reducible first | exact HB.out | apply below_alloc | apply pw_below_drewN | apply below_drew1) | exact HB.out))); (case aF => exact (fun _ _ => trivial)); (case aO => exact (by (with_reducible repeat (first | apply Kd.R_alloc | apply Kd.R_drewN | apply Kd.R_drew)); exact HO_3.out)); (case aS => exact (below_size (by repeat (first | (with_reducible first | exact HB.out | apply below_alloc | apply pw_below_drewN | apply below_drew1) | exact HB.out)))); (case aL => have := LMc22.out; omega); intro v198 w24 ho hb hg hat; rw [← Ny197.out] at ho; have n0_ := Aside0.mk (hb); have n1_ := Aside0.mk (ho); clear HB; clear HO_3; have HB := n0_; have HO199 := n1_; clear n0_ n1_; clear ho hb hg hat)))
                  go_roundg k1
                  case measure => have := HK1.out; omega
                  case rel => exact ⟨(y197), (wrap64 (x9_1 + 1)), (by first | rfl | (simp; done) | (simp [*]; done)), H', ⟨by have := HK1.out; omega⟩, ⟨by (with_reducible repeat (first | apply Kd.R_alloc | apply Kd.R_drewN | apply Kd.R_drew)); exact HO199.out⟩, ⟨by repeat (first | (with_reducible first | exact HB.out | apply below_alloc | apply pw_below_drewN | apply below_drew1) | exact HB.out)⟩⟩
                · rw [if_neg c22] at H
                  exact absurd H (by simp)
          · rw [if_neg c4] at H
            exact absurd H (by simp)
        · rw [if_neg c3] at H
          exact absurd H (by simp)
      · rw [if_neg c2] at H
        have c2b0 : decide (x9_1 < (l0.length : Int)) = false := decide_eq_false c2
        clear c2
        obtain rfl := Option.some.inj H
        go_wp2
        repeat (go_quiet (fail); try go_wp2)
        go_ret
        exact ⟨_, by first | rfl | (simp [errW_none, errW_some] <;> rfl) | (simp [*, errW_none, errW_some] <;> rfl), by (with_reducible repeat (first | apply Kd.R_alloc | apply Kd.R_drewN | apply Kd.R_drew)); exact HO_3.out, by repeat (first | (with_reducible first | exact HB.out | apply below_alloc | apply pw_below_drewN | apply below_drew1) | exact HB.out)⟩

end Go.Proofs.Ytbimmmmjdimebaa.PFnExactPlanTable
