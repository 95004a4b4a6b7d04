-- This text was written by a program of this session (gprint.py, on a turned copy of the print tool).
import Derived.Test.YtbimmmmjdimebaaLaw
import Derived.Test.YtbimmmmjdimebaaPFnPlanx0
import Derived.Test.YtbimmmmjdimebaaPFnPlanx6
namespace Go.Proofs.Ytbimmmmjdimebaa.PFnPlan
open Go.RowKit Go.Proofs.YtbimmmmjdimebaaW.PrintWords Go.Proofs.YtbimmmmjdimebaaW.PrintLast Go.Proofs.YtbimmmmjdimebaaW.PrintMore
attribute [local go_sem] max2_int min2_int max_two min_two max_three min_three max_four min_four   -- for this text's walks alone
set_option linter.unusedVariables false
set_option linter.unusedSimpArgs false

/-! ### spec_l3Plan: function 78 -/
mutual
def spec_l3Plan.l0 : Nat → List Int → List Int → Int → Option (List Int × (List (S89)) × Int)
 | 0, _, _, _ => none
 | k + 1, x0, x7, x8 => if x8 ≤ (x7.length : Int) then (spec_l3Plan.l1 k x0 x7 x8 (([] : List Int)) 0) else (some (([] : List Int), ([] : List (S89)), 7))
def spec_l3Plan.l1 : Nat → List Int → List Int → Int → List Int → Int → Option (List Int × (List (S89)) × Int)
 | 0, _, _, _, _, _ => none
 | k + 1, x0, x7, x8, x9, x10 => if x10 < (x0.length : Int) then (if 0 ≤ x10 then (if x9.length < 17592186044416 then (spec_l3Plan.l1 k x0 x7 x8 (x9 ++ [rd x0 x10]) (wrap64 (x10 + 1))) else (none)) else (none)) else (spec_l3Plan.l2 k x0 x7 x8 x9 0)
def spec_l3Plan.l2 : Nat → List Int → List Int → Int → List Int → Int → Option (List Int × (List (S89)) × Int)
 | 0, _, _, _, _, _ => none
 | k + 1, x0, x7, x8, x9, x11 => if x11 < x8 then (if 0 ≤ x11 then (if x11 < (x7.length : Int) then (if 0 ≤ (rd x7 x11) then (if (rd x7 x11) < (x9.length : Int) then (spec_l3Plan.l2 k x0 x7 x8 (x9.set ((rd x7 x11) : Int).toNat 1) (wrap64 (x11 + 1))) else (none)) else (none)) else (none)) else (none)) else ((spec_l3Runs.f k x9).bind fun t185 => (if (t185.length : Int) ≤ (wrap64 (20 * x8)) then (if 0 ≤ x8 then (if x8 ≤ (x7.length : Int) then (some ((x7.take (x8 : Int).toNat), t185, 0)) else (none)) else (none)) else (spec_l3Plan.l0 k x0 x7 (wrap64 (x8 + 1)))))
end
def spec_l3Plan.f (k : Nat) (l0 : List Int) (l1 : List Int) : Option (List Int × (List (S89)) × Int) := (spec_l3Free.f k l0 l1).bind fun t173 => (spec_l3Plan.l0 k l0 t173 1)
set_option maxHeartbeats 8000000 in
set_option maxRecDepth 100000 in
theorem spec_l3Plan.calls (k : Nat) (A0 : Option Addr) (c0 : Nat) (l0 : List Int) (A1 : Option Addr) (c1 : Nat) (l1 : List Int) (r1 : List Int) (r2 : List (S89)) (r3 : Int) (w : World) (hr0 : Kd.C (Kd.int .i64) w A0 l0.length l0) (hc0 : l0.length ≤ c0) (hr1 : Kd.C (Kd.int .i64) w A1 l1.length l1) (hc1 : l1.length ≤ c1) (h : spec_l3Plan.f k l0 l1 = some (r1, r2, r3)) :
  Calls Try.prog 78 #[.slice A0 l0.length c0, .slice A1 l1.length c1] w fun e w' => ∃ v0_ v1_ : Value, e = .returned (.tuple #[v0_, v1_, .int .i64 r3]) ∧ Kd.R (Kd.int .i64) 2 w' w.heap.size (fun _ => True) v0_ r1 ∧ Kd.R k89 89 w' w.heap.size (fun _ => True) v1_ r2 ∧ Below w.heap.size w w' := by
 have HR0 := Aside0.mk hr0
 have HC0 := Aside0.mk hc0
 clear hr0 hc0
 have HR1 := Aside0.mk hr1
 have HC1 := Aside0.mk hc1
 clear hr1 hc1
 have HB := Aside0.mk (Below.refl w.heap.size w)
 have H : ((spec_l3Free.f k l0 l1).bind fun t173 => (spec_l3Plan.l0 k l0 t173 1)) = some (r1, r2, r3) := h
 clear h
 replace H := Option.bind_eq_some_iff.mp H
 obtain ⟨t173, A30, H⟩ := H
 replace H : (spec_l3Plan.l0 k l0 t173 1) = some (r1, r2, r3) := H
 have A3 := Aside0.mk A30
 clear A30
 have H' := Aside0.mk H
 clear H
 go_enter Try.func78, Try.ntmps78
 go_wp2_with (first | ((with_reducible refine gate_callee (f := 102) rfl ?_); refine goesL_ (some 15) rfl rfl Try.func102 (by kernel_rfl) rfl #[.slice A0 l0.length c0, .slice A1 l1.length c1] rfl (by (try simp only [List.map_toArray, List.map_cons, List.map_nil]); first | done | rfl | (simp only [List.length_drop, List.length_take]; rfl)) ?_; (with_reducible refine (spec_l3Free.calls k _ _ l0 _ _ l1 t173 _ ?side1 ?side2 ?side3 ?side4 A3.out).mono ?_); (case side1 => exact Law.cg (HR0.out)); (case side2 => exact HC0.out); (case side3 => exact Law.cg (HR1.out)); (case side4 => exact HC1.out); rintro e w4 ⟨v174, rfl, ho0, hb⟩; refine ⟨_, rfl, ?_⟩; have HO175 := Law.rL ho0 HB; replace HB := Law.bS HB hb; (try clear hb); (try clear ho0)))
 go_loopg [8] k (fun kq v8 w' => ∃ (x7_1 : List Int) (x8_1 : Int), v8 = .int .i64 x8_1 ∧ Aside0 (spec_l3Plan.l0 kq l0 x7_1 x8_1 = some (r1, r2, r3)) ∧ Aside0 (kq ≤ k) ∧ Aside0 (Kd.R (Kd.int .i64) 2 w' w.heap.size (fun _ => True) v174 x7_1) ∧ Aside0 (Below w.heap.size w w'))
 case atStart => exact ⟨(t173), (1), (by first | rfl | (simp; done) | (simp [*]; done)), H', ⟨Nat.le_refl _⟩, ⟨by (with_reducible repeat (first | apply Kd.R_alloc | apply Kd.R_drewN | apply Kd.R_drew)); exact HO175.out⟩, ⟨by repeat (first | (with_reducible first | exact HB.out | apply below_alloc | apply pw_below_drewN | apply below_drew1) | exact HB.out)⟩⟩
 case round =>
  clear H'
  try clear c1
  try clear p2
  obtain ⟨x7_1, x8_1, rfl, HA, HK1, HO_7, HB⟩ := hrel
  cases gk with
  | zero => exact absurd HA.out (by simp [spec_l3Plan.l0])
  | succ k1 =>
   have H := HA.out
   clear HA
   simp only [spec_l3Plan.l0] at H
   by_cases c5 : x8_1 ≤ (x7_1.length : Int)
   ·rw [if_pos c5] at H
    have c5b0 : decide (x8_1 ≤ (x7_1.length : Int)) = true := decide_eq_true c5
    clear c5
    obtain ⟨y176, hy176⟩ : ∃ y_ : List Int, y_ = (([] : List Int)) := ⟨_, rfl⟩
    replace H : (spec_l3Plan.l1 k1 l0 x7_1 x8_1 y176 0) = some (r1, r2, r3) := by first | (rw [hy176]; with_reducible exact H) | (have H2_ := (Option.bind_some _ _).symm.trans H; rw [hy176]; with_reducible exact H2_) | (have H2_ := (Option.bind_some _ _).symm.trans H; with_reducible exact H2_) | with_reducible exact H | (rw [hy176]; exact H) | exact H
    have Ny176 := Aside0.mk hy176
    clear hy176
    have H' := Aside0.mk H
    clear H
    obtain ⟨Ao6, co6, eo6⟩ := Kd.R_slice HO_7.out
    subst eo6
    go_wp2_with (first | ((with_reducible refine gate_dst (N := 22) rfl ?_); refine Kd.R_lit (Kd.int .i64) _ 2 ?hg (N := 22) ?hd (xs := ([] : List Int)) (inner := []) (ok := fun _ => True) (okp := fun _ => True) ?hr ?hp (fun _ hk => hk) trivial (Below.refl _ _) (Nat.le_refl _) (by simp) ?_; (case hd => rfl); (case hg => rfl); (case hr => first | (go_simp; done) | (go_simp; rfl)); (case hp => exact (Reps.none _ _)); intro v177 w7 ho8 hb hg_ hnew_; clear hg_ hnew_; (first | rw [← Ny176.out] at ho8 | (simp only [Int.reduceToNat] at ho8; rw [← Ny176.out] at ho8)); have HO178 := Law.rL (Law.rN ho8 HO_7) HB; replace HO_7 := Law.rE HO_7 ho8 hb; replace HB := Law.bS HB hb; clear hb ho8))
    go_loopg [9, 10] k1 (fun kq v9 v10 w' => ∃ (x9_2 : List Int) (x10_2 : Int), v10 = .int .i64 x10_2 ∧ Aside0 (spec_l3Plan.l1 kq l0 x7_1 x8_1 x9_2 x10_2 = some (r1, r2, r3)) ∧ Aside0 (kq ≤ k1) ∧ Aside0 (Kd.R (Kd.int .i64) 2 w' w.heap.size (fun k_ => some k_ ≠ (v9 : Value).ownBlock) (.slice Ao6 x7_1.length co6) x7_1) ∧ Aside0 (Kd.R (Kd.int .i64) 2 w' w.heap.size (fun k_ => some k_ ≠ ((.slice Ao6 x7_1.length co6) : Value).ownBlock) v9 x9_2) ∧ Aside0 (Below w.heap.size w w'))
    case atStart => exact ⟨(y176), (0), (by first | rfl | (simp; done) | (simp [*]; done)), H', ⟨Nat.le_refl _⟩, ⟨by (with_reducible repeat (first | apply Kd.R_alloc | apply Kd.R_drewN | apply Kd.R_drew)); exact Kd.R_mono HO_7.out (fun _ hk => hk.2)⟩, ⟨by (with_reducible repeat (first | apply Kd.R_alloc | apply Kd.R_drewN | apply Kd.R_drew)); exact Kd.R_mono HO178.out (fun _ hk => hk.2)⟩, ⟨by repeat (first | (with_reducible first | exact HB.out | apply below_alloc | apply pw_below_drewN | apply below_drew1) | exact HB.out)⟩⟩
    case round =>
     clear H'
     try clear c1
     try clear p2
     try clear c5
     try clear c5b0
     try clear c7
     try clear p2
     obtain ⟨x9_2, x10_2, rfl, HA, HK2, HO_7, HO_9, HB⟩ := hrel
     cases gk with
     | zero => exact absurd HA.out (by simp [spec_l3Plan.l1])
     | succ k2 =>
      have H := HA.out
      clear HA
      simp only [spec_l3Plan.l1] at H
      by_cases c9 : x10_2 < (l0.length : Int)
      ·rw [if_pos c9] at H
       have c9b0 : decide (x10_2 < (l0.length : Int)) = true := decide_eq_true c9
       clear c9
       by_cases c10 : 0 ≤ x10_2
       ·rw [if_pos c10] at H
        have c10b0 : decide (0 ≤ x10_2) = true := decide_eq_true c10
        clear c10
        by_cases c11 : x9_2.length < 17592186044416
        ·rw [if_pos c11] at H
         have LMc11 := Aside0.mk c11
         clear c11
         obtain ⟨y180, hy180⟩ : ∃ y_ : List Int, y_ = (x9_2 ++ [rd l0 x10_2]) := ⟨_, rfl⟩
         replace H : (spec_l3Plan.l1 k2 l0 x7_1 x8_1 y180 (wrap64 (x10_2 + 1))) = some (r1, r2, r3) := by first | (rw [hy180]; with_reducible exact H) | (have H2_ := (Option.bind_some _ _).symm.trans H; rw [hy180]; with_reducible exact H2_) | (have H2_ := (Option.bind_some _ _).symm.trans H; with_reducible exact H2_) | with_reducible exact H | (rw [hy180]; exact H) | exact H
         have Ny180 := Aside0.mk hy180
         clear hy180
         have H' := Aside0.mk H
         clear H
         have p179 : 0 ≤ (x10_2 : Int) := of_decide_eq_true (by first | (with_reducible assumption) | assumption)
         have q179 : x10_2 < (l0.length : Int) := of_decide_eq_true (by first | (with_reducible assumption) | assumption)
         obtain ⟨ad179, e179, hx179_0⟩ := Kd.at_int HR0.out x10_2 p179 q179
         cases e179
         replace hx179_0 := (HB.out.cell (World.block_lt_of_cell? w _ hx179_0)).trans hx179_0
         replace p179 := eq_true p179
         replace q179 := eq_true q179
         go_wp2_with (first | ((with_reducible refine gate_builtin (b := .append) (xs := #[.tmp 29, .tmp 34]) rfl ?_); at_builtin; refine Kd.R_append (Kd.int .i64) (w0 := w) w.heap.size rfl (.tmp 29) (.tmp 34) 24 2 (.int .i64 0) 8 rfl Try.underlying24 info2 rfl (by decide) (by omega) u9 x9_2 (rd l0 x10_2) [.int .i64 (rd l0 x10_2)] (fun k_ => some k_ ≠ (.slice Ao6 x7_1.length co6 : Value).ownBlock) (fun _ => False) rfl rfl ?aP (fun _ hk => hk.elim) ?aF ?aO ?aB ?aS ?aL ?_; (case aP => exact rfl); (case aB => exact (Law.bg HB.out)); (case aF => exact (fun k_ hk => Kd.fresh' (Kd.R_lt (Law.rg HO_7.out)) k_ hk)); (case aO => exact (Law.rg HO_9.out)); (case aS => exact (below_size (Law.bg HB.out))); (case aL => have := LMc11.out; omega); intro v181 w12 ho hb hg hat; rw [← Ny180.out] at ho; have HO182 := Aside0.mk (ho); replace HO_7 := Aside0.mk (Kd.R_after (ok := (fun _ => True)) (by (with_reducible repeat (first | apply Kd.R_alloc | apply Kd.R_drewN | apply Kd.R_drew)); exact Kd.R_mono HO_7.out (fun _ hk => ⟨trivial, hk⟩)) hg hat); replace HB := Aside0.mk (hb); clear HO_9; clear ho hb hg hat))
         go_roundg k2
         case measure => have := HK1.out; have := HK2.out; omega
         case rel => exact ⟨(y180), (wrap64 (x10_2 + 1)), (by first | rfl | (simp; done) | (simp [*]; done)), H', ⟨by have := HK1.out; have := HK2.out; omega⟩, ⟨by (with_reducible repeat (first | apply Kd.R_alloc | apply Kd.R_drewN | apply Kd.R_drew)); exact Kd.R_mono HO_7.out (fun _ hk => hk.2)⟩, ⟨by (with_reducible repeat (first | apply Kd.R_alloc | apply Kd.R_drewN | apply Kd.R_drew)); exact HO182.out⟩, ⟨by repeat (first | (with_reducible first | exact HB.out | apply below_alloc | apply pw_below_drewN | apply below_drew1) | exact HB.out)⟩⟩
        ·rw [if_neg c11] at H
         exact absurd H (by simp)
       ·rw [if_neg c10] at H
        exact absurd H (by simp)
      ·rw [if_neg c9] at H
       have c9b0 : decide (x10_2 < (l0.length : Int)) = false := decide_eq_false c9
       clear c9
       have H' := Aside0.mk H
       clear H
       go_wp2
       go_loopg [11] k2 (fun kq v11 w' => ∃ (x9_3 : List Int) (x11_3 : Int), v11 = .int .i64 x11_3 ∧ Aside0 (spec_l3Plan.l2 kq l0 x7_1 x8_1 x9_3 x11_3 = some (r1, r2, r3)) ∧ Aside0 (kq ≤ k2) ∧ Aside0 (Kd.R (Kd.int .i64) 2 w' w.heap.size (fun k_ => some k_ ≠ (u9 : Value).ownBlock) (.slice Ao6 x7_1.length co6) x7_1) ∧ Aside0 (Kd.R (Kd.int .i64) 2 w' w.heap.size (fun k_ => some k_ ≠ ((.slice Ao6 x7_1.length co6) : Value).ownBlock) u9 x9_3) ∧ Aside0 (Below w.heap.size w w'))
       case atStart => exact ⟨(x9_2), (0), (by first | rfl | (simp; done) | (simp [*]; done)), H', ⟨Nat.le_refl _⟩, ⟨by (with_reducible repeat (first | apply Kd.R_alloc | apply Kd.R_drewN | apply Kd.R_drew)); exact HO_7.out⟩, ⟨by (with_reducible repeat (first | apply Kd.R_alloc | apply Kd.R_drewN | apply Kd.R_drew)); exact HO_9.out⟩, ⟨by repeat (first | (with_reducible first | exact HB.out | apply below_alloc | apply pw_below_drewN | apply below_drew1) | exact HB.out)⟩⟩
       case round =>
        clear H'
        try clear c1
        try clear p1
        try clear q1
        try clear hx1
        try clear p2
        try clear c5
        try clear c5b0
        try clear p6
        try clear c7
        try clear c9
        try clear c9b0
        try clear c10
        try clear c10b0
        try clear c11
        try clear hx179_0
        try clear p179
        try clear p2
        try clear q179
        obtain ⟨x9_3, x11_3, rfl, HA, HK3, HO_7, HO_9, HB⟩ := hrel
        cases gk with
        | zero => exact absurd HA.out (by simp [spec_l3Plan.l2])
        | succ k3 =>
         have H := HA.out
         clear HA
         simp only [spec_l3Plan.l2] at H
         by_cases c13 : x11_3 < x8_1
         ·rw [if_pos c13] at H
          have c13b0 : decide (x11_3 < x8_1) = true := decide_eq_true c13
          clear c13
          by_cases c14 : 0 ≤ x11_3
          ·rw [if_pos c14] at H
           have c14b0 : decide (0 ≤ x11_3) = true := decide_eq_true c14
           clear c14
           by_cases c15 : x11_3 < (x7_1.length : Int)
           ·rw [if_pos c15] at H
            have c15b0 : decide (x11_3 < (x7_1.length : Int)) = true := decide_eq_true c15
            clear c15
            by_cases c16 : 0 ≤ (rd x7_1 x11_3)
            ·rw [if_pos c16] at H
             have c16b0 : decide (0 ≤ (rd x7_1 x11_3)) = true := decide_eq_true c16
             clear c16
             by_cases c17 : (rd x7_1 x11_3) < (x9_3.length : Int)
             ·rw [if_pos c17] at H
              have c17b0 : decide ((rd x7_1 x11_3) < (x9_3.length : Int)) = true := decide_eq_true c17
              clear c17
              obtain ⟨y184, hy184⟩ : ∃ y_ : List Int, y_ = (x9_3.set ((rd x7_1 x11_3) : Int).toNat 1) := ⟨_, rfl⟩
              replace H : (spec_l3Plan.l2 k3 l0 x7_1 x8_1 y184 (wrap64 (x11_3 + 1))) = some (r1, r2, r3) := by first | (rw [hy184]; with_reducible exact H) | (have H2_ := (Option.bind_some _ _).symm.trans H; rw [hy184]; with_reducible exact H2_) | (have H2_ := (Option.bind_some _ _).symm.trans H; with_reducible exact H2_) | with_reducible exact H | (rw [hy184]; exact H) | exact H
              have Ny184 := Aside0.mk hy184
              clear hy184
              have H' := Aside0.mk H
              clear H
              have p183 : 0 ≤ (x11_3 : Int) := of_decide_eq_true (by first | (with_reducible assumption) | assumption)
              have q183 : x11_3 < (x7_1.length : Int) := of_decide_eq_true (by first | (with_reducible assumption) | assumption)
              obtain ⟨ad183, e183, hx183_0⟩ := Kd.at_int (Kd.R_reads' HO_7.out).2.2 x11_3 p183 q183
              cases e183
              replace p183 := eq_true p183
              replace q183 := eq_true q183
              have p18 : 0 ≤ ((rd x7_1 x11_3) : Int) := of_decide_eq_true (by first | (with_reducible assumption) | assumption)
              have q18 : ((rd x7_1 x11_3) : Int) < ((x9_3.length : Int) : Int) := of_decide_eq_true (by first | (with_reducible assumption) | assumption)
              obtain ⟨go18, co18, eo18, gb18, gl18, cl18, HG18⟩ := Kd.R_form HO_9.out (by omega)
              (first | cases eo18 | (injection eo18 with ea_ en_ ec_; (first | subst ea_ | (injection ea_ with ea_; subst ea_)); subst ec_; clear en_))
              have GB18 := Aside0.mk gb18
              have GG18 := Aside0.mk HG18
              clear gb18 gl18 HG18
              obtain ⟨hx18_0, hf18_0⟩ := Kd.R_celln 0 HO_9.out ((rd x7_1 x11_3) : Int) p18 q18
              replace p18 := eq_true p18
              replace q18 := eq_true q18
              have HP19 := Kd.R_putg HO_9.out ((rd x7_1 x11_3) : Int) 1
              go_wp2_with (first | ((with_reducible refine gate_store (t := 2) (p := 46) rfl ?_); refine store_event (t := 2) (p := 46) (v := ?vo_w20) (w1 := (wr.setCell ⟨go18, ((rd x7_1 x11_3) : Int).toNat, none⟩ (.int .i64 1))) ?hg ?ho ?hn ?hr ?_; (case ho => rfl); (case hg => rfl); (case hn => rfl); (case hr => first | (go_simp; done) | (go_simp; rfl)); intro w20 hw; have hg : wr.grownBy w20 (some go18) := (by rw [hw]; exact HP19.2); have hp_ : Kd.R (Kd.int .i64) 2 w20 w.heap.size (fun k_ => some k_ ≠ (.slice (some ad183) x7_1.length co6 : Value).ownBlock) (.slice (some ⟨go18, 0, none⟩) x9_3.length co18) y184 := (by rw [hw, Ny184.out]; exact HP19.1); clear HP19; replace HO_7 := Aside0.mk (Kd.R_after (v := (.slice (some ⟨go18, 0, none⟩) x9_3.length co18)) (v1 := (.slice (some ⟨go18, 0, none⟩) x9_3.length co18)) (ok := (fun _ => True)) (by (with_reducible repeat (first | apply Kd.R_alloc | apply Kd.R_drewN | apply Kd.R_drew)); exact Kd.R_mono HO_7.out (fun _ hk => ⟨trivial, hk⟩)) hg (.inl rfl)); replace HO_9 := Aside0.mk (hp_); replace HB := Aside0.mk ((by rw [hw]; exact below_set (HB.out) GB18.out : Below w.heap.size w w20)); clear hg hw hp_))
              go_roundg k3
              case measure => have := HK1.out; have := HK2.out; have := HK3.out; omega
              case rel => exact ⟨(y184), (wrap64 (x11_3 + 1)), (by first | rfl | (simp; done) | (simp [*]; done)), H', ⟨by have := HK1.out; have := HK2.out; have := HK3.out; omega⟩, ⟨by (with_reducible repeat (first | apply Kd.R_alloc | apply Kd.R_drewN | apply Kd.R_drew)); exact Kd.R_mono HO_7.out (fun _ hk => hk.2)⟩, ⟨by (with_reducible repeat (first | apply Kd.R_alloc | apply Kd.R_drewN | apply Kd.R_drew)); exact HO_9.out⟩, ⟨by repeat (first | (with_reducible first | exact HB.out | apply below_alloc | apply pw_below_drewN | apply below_drew1) | exact HB.out)⟩⟩
             ·rw [if_neg c17] at H
              exact absurd H (by simp)
            ·rw [if_neg c16] at H
             exact absurd H (by simp)
           ·rw [if_neg c15] at H
            exact absurd H (by simp)
          ·rw [if_neg c14] at H
           exact absurd H (by simp)
         ·rw [if_neg c13] at H
          have c13b0 : decide (x11_3 < x8_1) = false := decide_eq_false c13
          clear c13
          replace H := Option.bind_eq_some_iff.mp H
          obtain ⟨t185, A210, H⟩ := H
          replace H : (if (t185.length : Int) ≤ (wrap64 (20 * x8_1)) then (if 0 ≤ x8_1 then (if x8_1 ≤ (x7_1.length : Int) then (some ((x7_1.take (x8_1 : Int).toNat), t185, 0)) else (none)) else (none)) else (spec_l3Plan.l0 k3 l0 x7_1 (wrap64 (x8_1 + 1)))) = some (r1, r2, r3) := H
          have A21 := Aside0.mk A210
          clear A210
          by_cases c22 : (t185.length : Int) ≤ (wrap64 (20 * x8_1))
          ·rw [if_pos c22] at H
           have c22b0 : decide ((t185.length : Int) ≤ (wrap64 (20 * x8_1))) = true := decide_eq_true c22
           clear c22
           by_cases c23 : 0 ≤ x8_1
           ·rw [if_pos c23] at H
            have c23b0 := eq_true c23
            have c23b1 : decide (0 ≤ x8_1) = true := decide_eq_true c23
            clear c23
            by_cases c24 : x8_1 ≤ (x7_1.length : Int)
            ·rw [if_pos c24] at H
             have c24b0 := eq_true c24
             have c24b1 : decide (x8_1 ≤ (x7_1.length : Int)) = true := decide_eq_true c24
             clear c24
             obtain ⟨y188, hy188⟩ : ∃ y_ : List Int, y_ = (x7_1.take (x8_1 : Int).toNat) := ⟨_, rfl⟩
             replace H : (some (y188, t185, 0)) = some (r1, r2, r3) := by first | (rw [hy188]; with_reducible exact H) | (have H2_ := (Option.bind_some _ _).symm.trans H; rw [hy188]; with_reducible exact H2_) | (have H2_ := (Option.bind_some _ _).symm.trans H; with_reducible exact H2_) | with_reducible exact H | (rw [hy188]; exact H) | exact H
             have Ny188 := Aside0.mk hy188
             clear hy188
             simp only [Option.some.injEq, Prod.mk.injEq] at H
             obtain ⟨rfl, rfl, rfl⟩ := H
             obtain ⟨Ao25, co25, eo25⟩ := Kd.R_slice HO_9.out
             subst eo25
             go_wp2_with (first | ((with_reducible refine gate_callee (f := 65) rfl ?_); refine goesL_ (some 48) rfl rfl Try.func65 (by kernel_rfl) rfl #[.slice Ao25 x9_3.length co25] rfl (by (try simp only [List.map_toArray, List.map_cons, List.map_nil]); first | done | rfl | (simp only [List.length_drop, List.length_take]; rfl)) ?_; (with_reducible refine (spec_l3Runs.calls k3 _ _ x9_3 t185 _ ?side1 ?side2 A21.out).mono ?_); (case side1 => exact Law.cg ((Kd.R_reads' HO_9.out).2.2)); (case side2 => exact (Kd.R_reads' HO_9.out).2.1); rintro e w26 ⟨v186, rfl, ho0, hb⟩; refine ⟨_, rfl, ?_⟩; have HO187 := Law.rL ho0 HB; replace HO_7 := Law.rB HO_7 hb; replace HO_9 := Law.rB HO_9 hb; replace HB := Law.bS HB hb; (try clear hb); (try clear ho0); obtain ⟨Ao27, co27, eo27⟩ := Kd.R_slice HO187.out; subst eo27; have q28 : (x8_1 : Int) ≤ ((x7_1.length : Int) : Int) := of_decide_eq_true (by first | (with_reducible assumption) | assumption); obtain ⟨i028, hi028, _, hsz28, _⟩ := info_parts info2; have hcut28 := cut_to (P := Try.prog) 24 2 .i64 Try.underlying24 hi028 Ao6 x7_1.length co6 x8_1 (of_decide_eq_true (by first | (with_reducible assumption) | assumption)) q28 (Kd.R_reads' HO_7.out).2.1; have hr28 := Kd.R_take (m := (x8_1 : Int).toNat) HO_7.out (by omega); have hy28 : y188.length = (x8_1 : Int).toNat := (by rw [Ny188.out, List.length_take]; omega); rw [← Ny188.out] at hr28; rw [← hy28] at hr28 hcut28; clear hy28 hi028 hsz28 HO_7; have HO190 := Aside0.mk hr28; clear hr28; replace q28 := eq_true q28))
             go_ret3
             exact ⟨_, _, by first | rfl | (simp [errW_none, errW_some] <;> rfl) | (simp [*, errW_none, errW_some] <;> rfl), by (with_reducible repeat (first | apply Kd.R_alloc | apply Kd.R_drewN | apply Kd.R_drew)); exact Kd.R_mono HO190.out (fun _ hk => trivial), by (with_reducible repeat (first | apply Kd.R_alloc | apply Kd.R_drewN | apply Kd.R_drew)); exact HO187.out, by repeat (first | (with_reducible first | exact HB.out | apply below_alloc | apply pw_below_drewN | apply below_drew1) | exact HB.out)⟩
            ·rw [if_neg c24] at H
             exact absurd H (by simp)
           ·rw [if_neg c23] at H
            exact absurd H (by simp)
          ·rw [if_neg c22] at H
           have c22b0 : decide ((t185.length : Int) ≤ (wrap64 (20 * x8_1))) = false := decide_eq_false c22
           clear c22
           have H' := Aside0.mk H
           clear H
           obtain ⟨Ao29, co29, eo29⟩ := Kd.R_slice HO_9.out
           subst eo29
           go_wp2_with (first | ((with_reducible refine gate_callee (f := 65) rfl ?_); refine goesL_ (some 48) rfl rfl Try.func65 (by kernel_rfl) rfl #[.slice Ao29 x9_3.length co29] rfl (by (try simp only [List.map_toArray, List.map_cons, List.map_nil]); first | done | rfl | (simp only [List.length_drop, List.length_take]; rfl)) ?_; (with_reducible refine (spec_l3Runs.calls k3 _ _ x9_3 t185 _ ?side1 ?side2 A21.out).mono ?_); (case side1 => exact Law.cg ((Kd.R_reads' HO_9.out).2.2)); (case side2 => exact (Kd.R_reads' HO_9.out).2.1); rintro e w30 ⟨v186, rfl, ho0, hb⟩; refine ⟨_, rfl, ?_⟩; have HO187 := Law.rL ho0 HB; replace HO_7 := Law.rB HO_7 hb; replace HO_9 := Law.rB HO_9 hb; replace HB := Law.bS HB hb; (try clear hb); (try clear ho0); obtain ⟨Ao31, co31, eo31⟩ := Kd.R_slice HO187.out; subst eo31))
           go_roundg k3
           case measure => have := HK1.out; have := HK2.out; have := HK3.out; omega
           case rel => exact ⟨(x7_1), (wrap64 (x8_1 + 1)), (by first | rfl | (simp; done) | (simp [*]; done)), H', ⟨by have := HK1.out; have := HK2.out; have := HK3.out; omega⟩, ⟨by (with_reducible repeat (first | apply Kd.R_alloc | apply Kd.R_drewN | apply Kd.R_drew)); exact Kd.R_mono HO_7.out (fun _ hk => trivial)⟩, ⟨by repeat (first | (with_reducible first | exact HB.out | apply below_alloc | apply pw_below_drewN | apply below_drew1) | exact HB.out)⟩⟩
   ·rw [if_neg c5] at H
    have c5b0 : decide (x8_1 ≤ (x7_1.length : Int)) = false := decide_eq_false c5
    clear c5
    simp only [Option.some.injEq, Prod.mk.injEq] at H
    obtain ⟨rfl, rfl, rfl⟩ := H
    obtain ⟨Ao32, co32, eo32⟩ := Kd.R_slice HO_7.out
    subst eo32
    go_wp2
    go_ret3
    exact ⟨_, _, by first | rfl | (simp [errW_none, errW_some] <;> rfl) | (simp [*, errW_none, errW_some] <;> rfl), by first | exact Kd.R_nil _ _ _ _ _ | exact Kd.N_nil _ _ _ _ _ | exact Kd.V_nil _ _ _ _ _ | exact Kd.Q_nil _ _ _ _ _ | exact Kd.S_nil _ _ _ _ _, by first | exact Kd.R_nil _ _ _ _ _ | exact Kd.N_nil _ _ _ _ _ | exact Kd.V_nil _ _ _ _ _ | exact Kd.Q_nil _ _ _ _ _ | exact Kd.S_nil _ _ _ _ _, by repeat (first | (with_reducible first | exact HB.out | apply below_alloc | apply pw_below_drewN | apply below_drew1) | exact HB.out)⟩

/-! ### spec_PlanTable: function 35 -/
def spec_PlanTable.f (k : Nat) (l0 : List Int) (l1 : List Int) : Option (List Int × (List (S89)) × Int) := (spec_l3CheckTwo.f k l0 l1).bind fun t191 => (if t191 = 0 then ((spec_l3Plan.f k l0 l1).bind fun bt192 => (some (bt192.1, bt192.2.1, bt192.2.2))) else (some (([] : List Int), ([] : List (S89)), t191)))
set_option maxHeartbeats 8000000 in
set_option maxRecDepth 100000 in
theorem spec_PlanTable.calls (k : Nat) (A0 : Option Addr) (c0 : Nat) (l0 : List Int) (A1 : Option Addr) (c1 : Nat) (l1 : List Int) (r1 : List Int) (r2 : List (S89)) (r3 : Int) (w : World) (hr0 : Kd.C (Kd.int .i64) w A0 l0.length l0) (hc0 : l0.length ≤ c0) (hr1 : Kd.C (Kd.int .i64) w A1 l1.length l1) (hc1 : l1.length ≤ c1) (h : spec_PlanTable.f k l0 l1 = some (r1, r2, r3)) :
  Calls Try.prog 35 #[.slice A0 l0.length c0, .slice A1 l1.length c1] w fun e w' => ∃ v0_ v1_ : Value, e = .returned (.tuple #[v0_, v1_, .int .i64 r3]) ∧ Kd.R (Kd.int .i64) 2 w' w.heap.size (fun _ => True) v0_ r1 ∧ Kd.R k89 89 w' w.heap.size (fun _ => True) v1_ r2 ∧ Below w.heap.size w w' := by
 have HR0 := Aside0.mk hr0
 have HC0 := Aside0.mk hc0
 clear hr0 hc0
 have HR1 := Aside0.mk hr1
 have HC1 := Aside0.mk hc1
 clear hr1 hc1
 have HB := Aside0.mk (Below.refl w.heap.size w)
 have H : ((spec_l3CheckTwo.f k l0 l1).bind fun t191 => (if t191 = 0 then ((spec_l3Plan.f k l0 l1).bind fun bt192 => (some (bt192.1, bt192.2.1, bt192.2.2))) else (some (([] : List Int), ([] : List (S89)), t191)))) = some (r1, r2, r3) := h
 clear h
 replace H := Option.bind_eq_some_iff.mp H
 obtain ⟨t191, A30, H⟩ := H
 replace H : (if t191 = 0 then ((spec_l3Plan.f k l0 l1).bind fun bt192 => (some (bt192.1, bt192.2.1, bt192.2.2))) else (some (([] : List Int), ([] : List (S89)), t191))) = some (r1, r2, r3) := H
 have A3 := Aside0.mk A30
 clear A30
 by_cases c4 : t191 = 0
 ·rw [if_pos c4] at H
  have c4b0 : (t191 == 0) = true := beq_iff_eq.mpr c4
  have c4b1 : (t191 != 0) = false := bne_eq_false_iff_eq.mpr c4
  clear c4
  replace H := Option.bind_eq_some_iff.mp H
  obtain ⟨⟨t192, t193, t194⟩, A50, H⟩ := H
  replace H : (some (t192, t193, t194)) = some (r1, r2, r3) := H
  have A5 := Aside0.mk A50
  clear A50
  simp only [Option.some.injEq, Prod.mk.injEq] at H
  obtain ⟨rfl, rfl, rfl⟩ := H
  go_enter Try.func35, Try.ntmps35
  go_wp2_with (first | ((with_reducible refine gate_callee (f := 77) rfl ?_); refine goesL_ (some 10) rfl rfl Try.func77 (by kernel_rfl) rfl #[.slice A0 l0.length c0, .slice A1 l1.length c1] rfl (by (try simp only [List.map_toArray, List.map_cons, List.map_nil]); first | done | rfl | (simp only [List.length_drop, List.length_take]; rfl)) ?_; (with_reducible refine (spec_l3CheckTwo.calls k _ _ l0 _ _ l1 t191 _ ?side1 ?side2 ?side3 ?side4 A3.out).mono ?_); (case side1 => exact Law.cg (HR0.out)); (case side2 => exact HC0.out); (case side3 => exact Law.cg (HR1.out)); (case side4 => exact HC1.out); rintro e w' ⟨rfl, ⟨nd, rfl⟩⟩; refine ⟨_, rfl, ?_⟩) | ((with_reducible refine gate_callee (f := 78) rfl ?_); refine goesL_ (some 16) rfl rfl Try.func78 (by kernel_rfl) rfl #[.slice A0 l0.length c0, .slice A1 l1.length c1] rfl (by (try simp only [List.map_toArray, List.map_cons, List.map_nil]); first | done | rfl | (simp only [List.length_drop, List.length_take]; rfl)) ?_; (with_reducible refine (spec_l3Plan.calls k _ _ l0 _ _ l1 t192 t193 t194 _ ?side1 ?side2 ?side3 ?side4 A5.out).mono ?_); (case side1 => exact Law.cg (HR0.out)); (case side2 => exact HC0.out); (case side3 => exact Law.cg (HR1.out)); (case side4 => exact HC1.out); rintro e w6 ⟨v195, v197, rfl, ho0, ho1, hb⟩; refine ⟨_, rfl, ?_⟩; have HO196 := Law.rL ho0 HB; have HO198 := Law.rL ho1 HB; replace HB := Law.bS HB hb; (try clear hb); (try clear ho0); (try clear ho1)))
  go_ret3
  exact ⟨_, _, by first | rfl | (simp [errW_none, errW_some] <;> rfl) | (simp [*, errW_none, errW_some] <;> rfl), by (with_reducible repeat (first | apply Kd.R_alloc | apply Kd.R_drewN | apply Kd.R_drew)); exact HO196.out, by (with_reducible repeat (first | apply Kd.R_alloc | apply Kd.R_drewN | apply Kd.R_drew)); exact HO198.out, by repeat (first | (with_reducible first | exact HB.out | apply below_alloc | apply pw_below_drewN | apply below_drew1) | exact HB.out)⟩
 ·rw [if_neg c4] at H
  have c4b0 : (t191 == 0) = false := beq_eq_false_iff_ne.mpr c4
  have c4b1 : (t191 != 0) = true := bne_iff_ne.mpr c4
  simp only [Option.some.injEq, Prod.mk.injEq] at H
  obtain ⟨rfl, rfl, rfl⟩ := H
  go_enter Try.func35, Try.ntmps35
  go_wp2_with (first | ((with_reducible refine gate_callee (f := 77) rfl ?_); refine goesL_ (some 10) rfl rfl Try.func77 (by kernel_rfl) rfl #[.slice A0 l0.length c0, .slice A1 l1.length c1] rfl (by (try simp only [List.map_toArray, List.map_cons, List.map_nil]); first | done | rfl | (simp only [List.length_drop, List.length_take]; rfl)) ?_; (with_reducible refine (spec_l3CheckTwo.calls k _ _ l0 _ _ l1 t191 _ ?side1 ?side2 ?side3 ?side4 A3.out).mono ?_); (case side1 => exact Law.cg (HR0.out)); (case side2 => exact HC0.out); (case side3 => exact Law.cg (HR1.out)); (case side4 => exact HC1.out); rintro e w' ⟨rfl, ⟨nd, rfl⟩⟩; refine ⟨_, rfl, ?_⟩))
  go_ret3
  exact ⟨_, _, by first | rfl | (simp [errW_none, errW_some] <;> rfl) | (simp [*, errW_none, errW_some] <;> rfl), by first | exact Kd.R_nil _ _ _ _ _ | exact Kd.N_nil _ _ _ _ _ | exact Kd.V_nil _ _ _ _ _ | exact Kd.Q_nil _ _ _ _ _ | exact Kd.S_nil _ _ _ _ _, by first | exact Kd.R_nil _ _ _ _ _ | exact Kd.N_nil _ _ _ _ _ | exact Kd.V_nil _ _ _ _ _ | exact Kd.Q_nil _ _ _ _ _ | exact Kd.S_nil _ _ _ _ _, by repeat (first | (with_reducible first | exact HB.out | apply below_alloc | apply pw_below_drewN | apply below_drew1) | exact HB.out)⟩

end Go.Proofs.Ytbimmmmjdimebaa.PFnPlan
