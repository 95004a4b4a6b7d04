-- This text was written by a program of this session (gprint.py, on a turned copy of the print tool).
import Derived.Test.YtbimmmmjdimebaaLaw
import Derived.Test.YtbimmmmjdimebaaPFnPlanx0
import Derived.Test.YtbimmmmjdimebaaPFnPlanx1
import Derived.Test.YtbimmmmjdimebaaPFnPlanx4
import Derived.Test.YtbimmmmjdimebaaIter
namespace Go.Proofs.Ytbimmmmjdimebaa.PFnPlan
open Go.RowKit Go.Proofs.YtbimmmmjdimebaaW.PrintWords Go.Proofs.YtbimmmmjdimebaaW.PrintLast Go.Proofs.YtbimmmmjdimebaaW.PrintMore
attribute [local go_sem] max2_int min2_int max_two min_two max_three min_three max_four min_four   -- for this text's walks alone
set_option linter.unusedVariables false
set_option linter.unusedSimpArgs false

attribute [local go_sem high] eqA89
/-! ### laws_fCopyNums: function 49 -/
def laws_fCopyNums.l0 : Nat → List Int → List Int → Int → Option (List Int)
 | 0, _, _, _ => none
 | k + 1, x0, x3, x4 => if x4 < (x0.length : Int) then (if 0 ≤ x4 then (if x3.length < 17592186044416 then (laws_fCopyNums.l0 k x0 (x3 ++ [rd x0 x4]) (wrap64 (x4 + 1))) else (none)) else (none)) else (some x3)
def laws_fCopyNums.f (k : Nat) (l0 : List Int) : Option (List Int) := laws_fCopyNums.l0 k l0 (([] : List Int)) 0
set_option maxHeartbeats 8000000 in
set_option maxRecDepth 100000 in
theorem laws_fCopyNums.calls (k : Nat) (A0 : Option Addr) (c0 : Nat) (l0 : List Int) (r : List Int) (w : World) (hr0 : Kd.C (Kd.int .i64) w A0 l0.length l0) (hc0 : l0.length ≤ c0) (h : laws_fCopyNums.f k l0 = some r) :
  Calls Try.prog 49 #[.slice A0 l0.length c0] w fun e w' => ∃ v0_ : Value, e = .returned (v0_) ∧ Kd.R (Kd.int .i64) 2 w' w.heap.size (fun _ => True) v0_ r ∧ Below w.heap.size w w' := by
 have HR0 := Aside0.mk hr0
 have HC0 := Aside0.mk hc0
 clear hr0 hc0
 have HB := Aside0.mk (Below.refl w.heap.size w)
 have H : (laws_fCopyNums.l0 k l0 (([] : List Int)) 0) = some r := h
 clear h
 obtain ⟨y365, hy365⟩ : ∃ y_ : List Int, y_ = (([] : List Int)) := ⟨_, rfl⟩
 replace H : (laws_fCopyNums.l0 k l0 y365 0) = some r := by first | (rw [hy365]; with_reducible exact H) | (have H2_ := (Option.bind_some _ _).symm.trans H; rw [hy365]; with_reducible exact H2_) | (have H2_ := (Option.bind_some _ _).symm.trans H; with_reducible exact H2_) | with_reducible exact H | (rw [hy365]; exact H) | exact H
 have Ny365 := Aside0.mk hy365
 clear hy365
 have H' := Aside0.mk H
 clear H
 go_enter Try.func49, Try.ntmps49
 go_wp2_with (first | ((with_reducible refine gate_dst (N := 5) rfl ?_); refine Kd.R_lit (Kd.int .i64) _ 2 ?hg (N := 5) ?hd (xs := ([] : List Int)) (inner := []) (ok := fun _ => True) (okp := fun _ => True) ?hr ?hp (fun _ hk => hk) trivial (Below.refl _ _) (Nat.le_refl _) (by simp) ?_; (case hd => rfl); (case hg => rfl); (case hr => first | (go_simp; done) | (go_simp; rfl)); (case hp => exact (Reps.none _ _)); intro v366 w2 ho3 hb hg_ hnew_; clear hg_ hnew_; (first | rw [← Ny365.out] at ho3 | (simp only [Int.reduceToNat] at ho3; rw [← Ny365.out] at ho3)); have HO367 := Law.rL ho3 HB; replace HB := Law.bS HB hb; clear hb ho3))
 go_loopg [3, 4] k (fun kq v3 v4 w' => ∃ (x3_1 : List Int) (x4_1 : Int), v4 = .int .i64 x4_1 ∧ Aside0 (laws_fCopyNums.l0 kq l0 x3_1 x4_1 = some r) ∧ Aside0 (kq ≤ k) ∧ Aside0 (Kd.R (Kd.int .i64) 2 w' w.heap.size (fun _ => True) v3 x3_1) ∧ Aside0 (Below w.heap.size w w'))
 case atStart => exact ⟨(y365), (0), (by first | rfl | (simp; done) | (simp [*]; done)), H', ⟨Nat.le_refl _⟩, ⟨by (with_reducible repeat (first | apply Kd.R_alloc | apply Kd.R_drewN | apply Kd.R_drew)); exact HO367.out⟩, ⟨by repeat (first | (with_reducible first | exact HB.out | apply below_alloc | apply pw_below_drewN | apply below_drew1) | exact HB.out)⟩⟩
 case round =>
  clear H'
  try clear p2
  obtain ⟨x3_1, x4_1, rfl, HA, HK1, HO_3, HB⟩ := hrel
  cases gk with
  | zero => exact absurd HA.out (by simp [laws_fCopyNums.l0])
  | succ k1 =>
   have H := HA.out
   clear HA
   simp only [laws_fCopyNums.l0] at H
   by_cases c4 : x4_1 < (l0.length : Int)
   ·rw [if_pos c4] at H
    have c4b0 : decide (x4_1 < (l0.length : Int)) = true := decide_eq_true c4
    clear c4
    by_cases c5 : 0 ≤ x4_1
    ·rw [if_pos c5] at H
     have c5b0 : decide (0 ≤ x4_1) = true := decide_eq_true c5
     clear c5
     by_cases c6 : x3_1.length < 17592186044416
     ·rw [if_pos c6] at H
      have LMc6 := Aside0.mk c6
      clear c6
      obtain ⟨y369, hy369⟩ : ∃ y_ : List Int, y_ = (x3_1 ++ [rd l0 x4_1]) := ⟨_, rfl⟩
      replace H : (laws_fCopyNums.l0 k1 l0 y369 (wrap64 (x4_1 + 1))) = some r := by first | (rw [hy369]; with_reducible exact H) | (have H2_ := (Option.bind_some _ _).symm.trans H; rw [hy369]; with_reducible exact H2_) | (have H2_ := (Option.bind_some _ _).symm.trans H; with_reducible exact H2_) | with_reducible exact H | (rw [hy369]; exact H) | exact H
      have Ny369 := Aside0.mk hy369
      clear hy369
      have H' := Aside0.mk H
      clear H
      have p368 : 0 ≤ (x4_1 : Int) := of_decide_eq_true (by first | (with_reducible assumption) | assumption)
      have q368 : x4_1 < (l0.length : Int) := of_decide_eq_true (by first | (with_reducible assumption) | assumption)
      obtain ⟨ad368, e368, hx368_0⟩ := Kd.at_int HR0.out x4_1 p368 q368
      cases e368
      replace hx368_0 := (HB.out.cell (World.block_lt_of_cell? w _ hx368_0)).trans hx368_0
      replace p368 := eq_true p368
      replace q368 := eq_true q368
      go_wp2_with (first | ((with_reducible refine gate_builtin (b := .append) (xs := #[.tmp 12, .tmp 17]) rfl ?_); at_builtin; refine Kd.R_append (Kd.int .i64) (w0 := w) w.heap.size rfl (.tmp 12) (.tmp 17) 24 2 (.int .i64 0) 8 rfl Try.underlying24 info2 rfl (by decide) (by omega) u3 x3_1 (rd l0 x4_1) [.int .i64 (rd l0 x4_1)] (fun _ => True) (fun _ => False) rfl rfl ?aP (fun _ hk => hk.elim) ?aF ?aO ?aB ?aS ?aL ?_; (case aP => exact rfl); (case aB => exact (Law.bg HB.out)); (case aF => exact (fun _ _ => trivial)); (case aO => exact (Law.rg HO_3.out)); (case aS => exact (below_size (Law.bg HB.out))); (case aL => have := LMc6.out; omega); intro v370 w7 ho hb hg hat; rw [← Ny369.out] at ho; have HO371 := Aside0.mk (ho); replace HB := Aside0.mk (hb); clear HO_3; clear ho hb hg hat))
      go_roundg k1
      case measure => have := HK1.out; omega
      case rel => exact ⟨(y369), (wrap64 (x4_1 + 1)), (by first | rfl | (simp; done) | (simp [*]; done)), H', ⟨by have := HK1.out; omega⟩, ⟨by (with_reducible repeat (first | apply Kd.R_alloc | apply Kd.R_drewN | apply Kd.R_drew)); exact HO371.out⟩, ⟨by repeat (first | (with_reducible first | exact HB.out | apply below_alloc | apply pw_below_drewN | apply below_drew1) | exact HB.out)⟩⟩
     ·rw [if_neg c6] at H
      exact absurd H (by simp)
    ·rw [if_neg c5] at H
     exact absurd H (by simp)
   ·rw [if_neg c4] at H
    have c4b0 : decide (x4_1 < (l0.length : Int)) = false := decide_eq_false c4
    clear c4
    obtain rfl := Option.some.inj H
    go_wp2
    go_ret
    exact ⟨_, by first | rfl | (simp [errW_none, errW_some] <;> rfl) | (simp [*, errW_none, errW_some] <;> rfl), by (with_reducible repeat (first | apply Kd.R_alloc | apply Kd.R_drewN | apply Kd.R_drew)); exact HO_3.out, by repeat (first | (with_reducible first | exact HB.out | apply below_alloc | apply pw_below_drewN | apply below_drew1) | exact HB.out)⟩

/-! ### impl_Classify: function 50 -/
def impl_Classify.l0 : Nat → List Int → List Int → List Int → Int → Int → Option (List Int × Int)
 | 0, _, _, _, _, _ => none
 | k + 1, x0, x1, x7, x20, x21 => if x21 < x20 then (if x21 < 2 then (if 0 ≤ x21 then (if x21 < (x7.length : Int) then (impl_Classify.l0 k x0 x1 (x7.set (x21 : Int).toNat 1) x20 (wrap64 (x21 + 1))) else (none)) else (none)) else (if 0 ≤ x21 then (if x21 < (x0.length : Int) then (if (rd x0 x21) > 0 then (if x21 < (x7.length : Int) then (impl_Classify.l0 k x0 x1 (x7.set (x21 : Int).toNat 2) x20 (wrap64 (x21 + 1))) else (none)) else (if x21 < (x1.length : Int) then (if (rd x1 x21) > 0 then (if x21 < (x7.length : Int) then (impl_Classify.l0 k x0 x1 (x7.set (x21 : Int).toNat 3) x20 (wrap64 (x21 + 1))) else (none)) else (if x21 < (x7.length : Int) then (impl_Classify.l0 k x0 x1 (x7.set (x21 : Int).toNat 4) x20 (wrap64 (x21 + 1))) else (none))) else (none))) else (none)) else (none))) else (some (x7, 0))
def impl_Classify.f (k : Nat) (l0 : List Int) (l1 : List Int) : Option (List Int × Int) := (impl_badCounts.f k (([l0, l1] : List (List Int)))).bind fun t375 => (if t375 = 0 then (if 0 ≤ (l0.length : Int) then (if ((l0.length : Int) : Int).toNat ≤ 35184372088832 then (impl_Classify.l0 k l0 l1 (List.replicate ((l0.length : Int) : Int).toNat 0) (l0.length : Int) 0) else (none)) else (none)) else (some (([] : List Int), t375)))
set_option maxHeartbeats 8000000 in
set_option maxRecDepth 100000 in
theorem impl_Classify.calls (k : Nat) (P0_ : Nat → Prop) (A0 : Option Addr) (c0 : Nat) (l0 : List Int) (P1_ : Nat → Prop) (A1 : Option Addr) (c1 : Nat) (l1 : List Int) (r1 : List Int) (r2 : Int) (w : World) (hs0 : Kd.V (Kd.int .i64) 2 w w.heap.size (fun k_ => P0_ k_) (.slice A0 l0.length c0) l0) (hs1 : Kd.V (Kd.int .i64) 2 w w.heap.size (fun k_ => P1_ k_) (.slice A1 l1.length c1) l1) (h : impl_Classify.f k l0 l1 = some (r1, r2)) :
  Calls Try.prog 50 #[.slice A0 l0.length c0, .slice A1 l1.length c1] w fun e w' => ∃ v0_ : Value, e = .returned (.tuple #[v0_, .int .i64 r2]) ∧ Kd.R (Kd.int .i64) 2 w' w.heap.size (fun k_ => (w.heap.size ≤ k_)) v0_ r1 ∧ Below w.heap.size w w' := by
 have HO0 := Aside0.mk (show Kd.V (Kd.int .i64) 2 w w.heap.size (fun k_ => ((P0_ k_ ∨ P1_ k_) ∨ w.heap.size ≤ k_)) (.slice A0 l0.length c0) l0 from Kd.V_mono hs0 (fun k_ hk => .inl (.inl hk)))
 have HO1 := Aside0.mk (show Kd.V (Kd.int .i64) 2 w w.heap.size (fun k_ => ((P0_ k_ ∨ P1_ k_) ∨ w.heap.size ≤ k_)) (.slice A1 l1.length c1) l1 from Kd.V_mono hs1 (fun k_ hk => .inl (.inr hk)))
 have HB := Aside0.mk (Below.refl w.heap.size w)
 have H : ((impl_badCounts.f k (([l0, l1] : List (List Int)))).bind fun t375 => (if t375 = 0 then (if 0 ≤ (l0.length : Int) then (if ((l0.length : Int) : Int).toNat ≤ 35184372088832 then (impl_Classify.l0 k l0 l1 (List.replicate ((l0.length : Int) : Int).toNat 0) (l0.length : Int) 0) else (none)) else (none)) else (some (([] : List Int), t375)))) = some (r1, r2) := h
 clear h
 obtain ⟨y372, hy372⟩ : ∃ y_ : List (List Int), y_ = (([l0, l1] : List (List Int))) := ⟨_, rfl⟩
 replace H : ((impl_badCounts.f k y372).bind fun t375 => (if t375 = 0 then (if 0 ≤ (l0.length : Int) then (if ((l0.length : Int) : Int).toNat ≤ 35184372088832 then (impl_Classify.l0 k l0 l1 (List.replicate ((l0.length : Int) : Int).toNat 0) (l0.length : Int) 0) else (none)) else (none)) else (some (([] : List Int), t375)))) = some (r1, r2) := by first | (rw [hy372]; with_reducible exact H) | (have H2_ := (Option.bind_some _ _).symm.trans H; rw [hy372]; with_reducible exact H2_) | (have H2_ := (Option.bind_some _ _).symm.trans H; with_reducible exact H2_) | with_reducible exact H | (rw [hy372]; exact H) | exact H
 have Ny372 := Aside0.mk hy372
 clear hy372
 replace H := Option.bind_eq_some_iff.mp H
 obtain ⟨t375, A30, H⟩ := H
 replace H : (if t375 = 0 then (if 0 ≤ (l0.length : Int) then (if ((l0.length : Int) : Int).toNat ≤ 35184372088832 then (impl_Classify.l0 k l0 l1 (List.replicate ((l0.length : Int) : Int).toNat 0) (l0.length : Int) 0) else (none)) else (none)) else (some (([] : List Int), t375))) = some (r1, r2) := H
 have A3 := Aside0.mk A30
 clear A30
 by_cases c4 : t375 = 0
 ·rw [if_pos c4] at H
  have c4b0 : (t375 == 0) = true := beq_iff_eq.mpr c4
  have c4b1 : (t375 != 0) = false := bne_eq_false_iff_eq.mpr c4
  clear c4
  by_cases c5 : 0 ≤ (l0.length : Int)
  ·rw [if_pos c5] at H
   have c5b0 := eq_true c5
   have c5b1 : decide (0 ≤ (l0.length : Int)) = true := decide_eq_true c5
   clear c5
   by_cases c6 : ((l0.length : Int) : Int).toNat ≤ 35184372088832
   ·rw [if_pos c6] at H
    have c6b0 := eq_true c6
    have c6b1 : decide (((l0.length : Int) : Int).toNat ≤ 35184372088832) = true := decide_eq_true c6
    clear c6
    obtain ⟨y376, hy376⟩ : ∃ y_ : List Int, y_ = (List.replicate ((l0.length : Int) : Int).toNat 0) := ⟨_, rfl⟩
    replace H : (impl_Classify.l0 k l0 l1 y376 (l0.length : Int) 0) = some (r1, r2) := by first | (rw [hy376]; with_reducible exact H) | (have H2_ := (Option.bind_some _ _).symm.trans H; rw [hy376]; with_reducible exact H2_) | (have H2_ := (Option.bind_some _ _).symm.trans H; with_reducible exact H2_) | with_reducible exact H | (rw [hy376]; exact H) | exact H
    have Ny376 := Aside0.mk hy376
    clear hy376
    have H' := Aside0.mk H
    clear H
    go_enter Try.func50, Try.ntmps50
    go_wp2_with (first | ((with_reducible refine gate_dst (N := 11) rfl ?_); refine Kd.N_lit (Kd.slice 2 (Kd.int .i64)) _ 24 ?hg (N' := 11) ?hd (xs := ([l0, l1] : List (List Int))) (inner := [.slice A0 l0.length c0, .slice A1 l1.length c1]) (ok := (fun k_ => ((P0_ k_ ∨ P1_ k_) ∨ w.heap.size ≤ k_))) (okp := (fun k_ => ((P0_ k_ ∨ P1_ k_) ∨ w.heap.size ≤ k_))) ?hr ?hp (fun _ hk => hk) ((show ∀ k_, w.heap.size ≤ k_ → (fun k_ => ((P0_ k_ ∨ P1_ k_) ∨ w.heap.size ≤ k_)) k_ from fun k_ hk => (.inr (Nat.le_trans (below_size (Law.bg HB.out)) hk))) _ (Nat.le_refl _)) (Below.refl _ _) (Nat.le_refl _) (by simp) ?_; (case hd => rfl); (case hg => rfl); (case hr => first | (go_simp; done) | (go_simp; rfl)); (case hp => exact (Reps.one (show Kd.FK (Kd.slice 2 (Kd.int .i64)) _ _ l0 [.slice A0 l0.length c0] from (Kd.FK_slice_mk (Kd.V_reads' (Kd.V_mono (ok' := (fun k_ => ((P0_ k_ ∨ P1_ k_) ∨ w.heap.size ≤ k_))) (HO0.out) (fun k_ hk => hk))).2.1 (Kd.V_F (Kd.V_mono (ok' := (fun k_ => ((P0_ k_ ∨ P1_ k_) ∨ w.heap.size ≤ k_))) (HO0.out) (fun k_ hk => hk))))) (Reps.one (show Kd.FK (Kd.slice 2 (Kd.int .i64)) _ _ l1 [.slice A1 l1.length c1] from (Kd.FK_slice_mk (Kd.V_reads' (Kd.V_mono (ok' := (fun k_ => ((P0_ k_ ∨ P1_ k_) ∨ w.heap.size ≤ k_))) (HO1.out) (fun k_ hk => hk))).2.1 (Kd.V_F (Kd.V_mono (ok' := (fun k_ => ((P0_ k_ ∨ P1_ k_) ∨ w.heap.size ≤ k_))) (HO1.out) (fun k_ hk => hk))))) (Reps.none _ _)))); intro v373 w7 ho8 hb hg_ hnew_; clear hg_ hnew_; (first | rw [← Ny372.out] at ho8 | (simp only [Int.reduceToNat] at ho8; rw [← Ny372.out] at ho8)); have HO374 := Aside0.mk (Kd.N_lower ho8 (below_size (Law.bg HB.out))); replace HO0 := Aside0.mk (Kd.V_elder' (by (with_reducible repeat (first | apply Kd.V_alloc | apply Kd.V_drewN | apply Kd.V_drew)); exact HO0.out) (Kd.N_base ho8) hb); replace HO1 := Aside0.mk (Kd.V_elder' (by (with_reducible repeat (first | apply Kd.V_alloc | apply Kd.V_drewN | apply Kd.V_drew)); exact HO1.out) (Kd.N_base ho8) hb); replace HB := Law.bS HB hb; clear hb ho8; obtain ⟨Ao9, co9, eo9⟩ := Kd.N_slice HO374.out; subst eo9) | ((with_reducible refine gate_callee (f := 66) rfl ?_); refine goesL_ (some 12) rfl rfl Try.func66 (by kernel_rfl) rfl #[.slice Ao9 y372.length co9] rfl (by (try simp only [List.map_toArray, List.map_cons, List.map_nil]); first | done | rfl | (simp only [List.length_drop, List.length_take]; rfl)) ?_; (with_reducible refine (impl_badCounts.calls k _ _ y372 t375 _ ?side1 ?side2 A3.out).mono ?_); (case side1 => exact Law.cg ((Kd.N_reads' HO374.out).2.2)); (case side2 => exact (Kd.N_reads' HO374.out).2.1); rintro e w' ⟨rfl, ⟨nd, rfl⟩⟩; refine ⟨_, rfl, ?_⟩) | ((with_reducible refine gate_dst (N := 18) rfl ?_); refine Kd.R_make (Kd.int .i64) _ 2 rfl (N := 18) rfl 24 _ _ rfl (l0.length : Int) rfl rfl Try.underlying24 (.int .i64 0) 8 info2 rfl (by decide) (by omega) 0 (ok := fun _ => True) (okp := fun _ => True) rfl (fun _ hk => hk) trivial (of_decide_eq_true (by first | (with_reducible assumption) | assumption)) (Nat.le_trans (Nat.mul_le_mul_right _ (of_decide_eq_true (by first | (with_reducible assumption) | assumption) : (l0.length : Int).toNat ≤ 35184372088832)) (by omega)) (Below.refl _ _) (Nat.le_refl _) ?_; intro v377 w10 ho11 hb hg_ hnew_; clear hg_ hnew_; (first | rw [← Ny376.out] at ho11 | (simp only [Int.reduceToNat] at ho11; rw [← Ny376.out] at ho11)); have HO378 := Law.rL (Kd.R_newM (M := fun k_ => (w.heap.size ≤ k_)) ho11 (below_size (Law.bg HB.out)) (fun k_ h_ => h_)) HB; replace HO0 := Aside0.mk (Kd.V_elder' (by (with_reducible repeat (first | apply Kd.V_alloc | apply Kd.V_drewN | apply Kd.V_drew)); exact HO0.out) (Kd.R_base ho11) hb); replace HO1 := Aside0.mk (Kd.V_elder' (by (with_reducible repeat (first | apply Kd.V_alloc | apply Kd.V_drewN | apply Kd.V_drew)); exact HO1.out) (Kd.R_base ho11) hb); replace HO374 := Aside0.mk (Kd.N_elder' (by (with_reducible repeat (first | apply Kd.N_alloc | apply Kd.N_drewN | apply Kd.N_drew)); exact HO374.out) (Kd.R_base ho11) hb); replace HB := Law.bS HB hb; clear hb ho11))
    go_loopg [21] k (fun kq v21 w' => ∃ (x7_1 : List Int) (x21_1 : Int), v21 = .int .i64 x21_1 ∧ Aside0 (impl_Classify.l0 kq l0 l1 x7_1 (l0.length : Int) x21_1 = some (r1, r2)) ∧ Aside0 (kq ≤ k) ∧ Aside0 (Kd.V (Kd.int .i64) 2 w' w.heap.size (fun k_ => ((P0_ k_ ∨ P1_ k_) ∨ w.heap.size ≤ k_) ∧ some k_ ≠ (v377 : Value).ownBlock) (.slice A0 l0.length c0) l0) ∧ Aside0 (Kd.V (Kd.int .i64) 2 w' w.heap.size (fun k_ => ((P0_ k_ ∨ P1_ k_) ∨ w.heap.size ≤ k_) ∧ some k_ ≠ (v377 : Value).ownBlock) (.slice A1 l1.length c1) l1) ∧ Aside0 (Kd.R (Kd.int .i64) 2 w' w.heap.size (fun k_ => (w.heap.size ≤ k_)) v377 x7_1) ∧ Aside0 (Below w.heap.size w w'))
    case atStart => exact ⟨(y376), (0), (by first | rfl | (simp; done) | (simp [*]; done)), H', ⟨Nat.le_refl _⟩, ⟨by (with_reducible repeat (first | apply Kd.V_alloc | apply Kd.V_drewN | apply Kd.V_drew)); exact Kd.V_mono HO0.out (fun _ hk => ⟨hk.1.1, hk.2⟩)⟩, ⟨by (with_reducible repeat (first | apply Kd.V_alloc | apply Kd.V_drewN | apply Kd.V_drew)); exact Kd.V_mono HO1.out (fun _ hk => ⟨hk.1.1, hk.2⟩)⟩, ⟨by (with_reducible repeat (first | apply Kd.R_alloc | apply Kd.R_drewN | apply Kd.R_drew)); exact Kd.R_mono HO378.out (fun _ hk => hk.1)⟩, ⟨by repeat (first | (with_reducible first | exact HB.out | apply below_alloc | apply pw_below_drewN | apply below_drew1) | exact HB.out)⟩⟩
    case round =>
     clear H'
     try clear c1
     try clear p2
     try clear c4
     try clear c4b0
     try clear c4b1
     try clear c5
     try clear c5b0
     try clear c5b1
     try clear c6
     try clear c6b0
     try clear c6b1
     obtain ⟨x7_1, x21_1, rfl, HA, HK1, HO_0, HO_1, HO_7, HB⟩ := hrel
     cases gk with
     | zero => exact absurd HA.out (by simp [impl_Classify.l0])
     | succ k1 =>
      have H := HA.out
      clear HA
      simp only [impl_Classify.l0] at H
      by_cases c12 : x21_1 < (l0.length : Int)
      ·rw [if_pos c12] at H
       have c12b0 : decide (x21_1 < (l0.length : Int)) = true := decide_eq_true c12
       clear c12
       by_cases c13 : x21_1 < 2
       ·rw [if_pos c13] at H
        have c13b0 : decide (x21_1 < 2) = true := decide_eq_true c13
        clear c13
        by_cases c14 : 0 ≤ x21_1
        ·rw [if_pos c14] at H
         have c14b0 : decide (0 ≤ x21_1) = true := decide_eq_true c14
         clear c14
         by_cases c15 : x21_1 < (x7_1.length : Int)
         ·rw [if_pos c15] at H
          have c15b0 : decide (x21_1 < (x7_1.length : Int)) = true := decide_eq_true c15
          clear c15
          obtain ⟨y379, hy379⟩ : ∃ y_ : List Int, y_ = (x7_1.set (x21_1 : Int).toNat 1) := ⟨_, rfl⟩
          replace H : (impl_Classify.l0 k1 l0 l1 y379 (l0.length : Int) (wrap64 (x21_1 + 1))) = some (r1, r2) := by first | (rw [hy379]; with_reducible exact H) | (have H2_ := (Option.bind_some _ _).symm.trans H; rw [hy379]; with_reducible exact H2_) | (have H2_ := (Option.bind_some _ _).symm.trans H; with_reducible exact H2_) | with_reducible exact H | (rw [hy379]; exact H) | exact H
          have Ny379 := Aside0.mk hy379
          clear hy379
          have H' := Aside0.mk H
          clear H
          have p16 : 0 ≤ (x21_1 : Int) := of_decide_eq_true (by first | (with_reducible assumption) | assumption)
          have q16 : (x21_1 : Int) < ((x7_1.length : Int) : Int) := of_decide_eq_true (by first | (with_reducible assumption) | assumption)
          obtain ⟨go16, co16, eo16, gb16, gl16, cl16, HG16⟩ := Kd.R_form HO_7.out (by omega)
          (first | cases eo16 | (injection eo16 with ea_ en_ ec_; (first | subst ea_ | (injection ea_ with ea_; subst ea_)); subst ec_; clear en_))
          have GB16 := Aside0.mk gb16
          have GG16 := Aside0.mk HG16
          clear gb16 gl16 HG16
          obtain ⟨hx16_0, hf16_0⟩ := Kd.R_celln 0 HO_7.out (x21_1 : Int) p16 q16
          replace p16 := eq_true p16
          replace q16 := eq_true q16
          have HP17 := Kd.R_putg HO_7.out (x21_1 : Int) 1
          go_wp2_with (first | ((with_reducible refine gate_store (t := 2) (p := 32) rfl ?_); refine store_event (t := 2) (p := 32) (v := ?vo_w18) (w1 := (wr.setCell ⟨go16, (x21_1 : Int).toNat, none⟩ (.int .i64 1))) ?hg ?ho ?hn ?hr ?_; (case ho => rfl); (case hg => rfl); (case hn => rfl); (case hr => first | (go_simp; done) | (go_simp; rfl)); intro w18 hw; have hg : wr.grownBy w18 (some go16) := (by rw [hw]; exact HP17.2); have hp_ : Kd.R (Kd.int .i64) 2 w18 w.heap.size (fun k_ => (w.heap.size ≤ k_)) (.slice (some ⟨go16, 0, none⟩) x7_1.length co16) y379 := (by rw [hw, Ny379.out]; exact HP17.1); clear HP17; replace HO_0 := Aside0.mk (Kd.V_afterv (v := (.slice (some ⟨go16, 0, none⟩) x7_1.length co16)) (v1 := (.slice (some ⟨go16, 0, none⟩) x7_1.length co16)) (ok := (fun k_ => ((P0_ k_ ∨ P1_ k_) ∨ w.heap.size ≤ k_))) (by (with_reducible repeat (first | apply Kd.V_alloc | apply Kd.V_drewN | apply Kd.V_drew)); exact HO_0.out) hg (.inl rfl)); replace HO_1 := Aside0.mk (Kd.V_afterv (v := (.slice (some ⟨go16, 0, none⟩) x7_1.length co16)) (v1 := (.slice (some ⟨go16, 0, none⟩) x7_1.length co16)) (ok := (fun k_ => ((P0_ k_ ∨ P1_ k_) ∨ w.heap.size ≤ k_))) (by (with_reducible repeat (first | apply Kd.V_alloc | apply Kd.V_drewN | apply Kd.V_drew)); exact HO_1.out) hg (.inl rfl)); replace HO_7 := Aside0.mk (hp_); replace HB := Aside0.mk ((by rw [hw]; exact below_set (HB.out) GB16.out : Below w.heap.size w w18)); clear hg hw hp_))
          go_roundg k1
          case measure => have := HK1.out; omega
          case rel => exact ⟨(y379), (wrap64 (x21_1 + 1)), (by first | rfl | (simp; done) | (simp [*]; done)), H', ⟨by have := HK1.out; omega⟩, ⟨by (with_reducible repeat (first | apply Kd.V_alloc | apply Kd.V_drewN | apply Kd.V_drew)); exact HO_0.out⟩, ⟨by (with_reducible repeat (first | apply Kd.V_alloc | apply Kd.V_drewN | apply Kd.V_drew)); exact HO_1.out⟩, ⟨by (with_reducible repeat (first | apply Kd.R_alloc | apply Kd.R_drewN | apply Kd.R_drew)); exact HO_7.out⟩, ⟨by repeat (first | (with_reducible first | exact HB.out | apply below_alloc | apply pw_below_drewN | apply below_drew1) | exact HB.out)⟩⟩
         ·rw [if_neg c15] at H
          exact absurd H (by simp)
        ·rw [if_neg c14] at H
         exact absurd H (by simp)
       ·rw [if_neg c13] at H
        have c13b0 : decide (x21_1 < 2) = false := decide_eq_false c13
        clear c13
        by_cases c19 : 0 ≤ x21_1
        ·rw [if_pos c19] at H
         have c19b0 : decide (0 ≤ x21_1) = true := decide_eq_true c19
         clear c19
         by_cases c20 : x21_1 < (l0.length : Int)
         ·rw [if_pos c20] at H
          have c20b0 : decide (x21_1 < (l0.length : Int)) = true := decide_eq_true c20
          clear c20
          by_cases c21 : (rd l0 x21_1) > 0
          ·rw [if_pos c21] at H
           have c21b0 : decide (0 < (rd l0 x21_1)) = true := decide_eq_true c21
           clear c21
           by_cases c22 : x21_1 < (x7_1.length : Int)
           ·rw [if_pos c22] at H
            have c22b0 : decide (x21_1 < (x7_1.length : Int)) = true := decide_eq_true c22
            clear c22
            obtain ⟨y381, hy381⟩ : ∃ y_ : List Int, y_ = (x7_1.set (x21_1 : Int).toNat 2) := ⟨_, rfl⟩
            replace H : (impl_Classify.l0 k1 l0 l1 y381 (l0.length : Int) (wrap64 (x21_1 + 1))) = some (r1, r2) := by first | (rw [hy381]; with_reducible exact H) | (have H2_ := (Option.bind_some _ _).symm.trans H; rw [hy381]; with_reducible exact H2_) | (have H2_ := (Option.bind_some _ _).symm.trans H; with_reducible exact H2_) | with_reducible exact H | (rw [hy381]; exact H) | exact H
            have Ny381 := Aside0.mk hy381
            clear hy381
            have H' := Aside0.mk H
            clear H
            have p380 : 0 ≤ (x21_1 : Int) := of_decide_eq_true (by first | (with_reducible assumption) | assumption)
            have q380 : x21_1 < (l0.length : Int) := of_decide_eq_true (by first | (with_reducible assumption) | assumption)
            obtain ⟨ad380, e380, hx380_0⟩ := Kd.at_int (Kd.V_reads' HO_0.out).2.2 x21_1 p380 q380
            cases e380
            replace p380 := eq_true p380
            replace q380 := eq_true q380
            have p23 : 0 ≤ (x21_1 : Int) := of_decide_eq_true (by first | (with_reducible assumption) | assumption)
            have q23 : (x21_1 : Int) < ((x7_1.length : Int) : Int) := of_decide_eq_true (by first | (with_reducible assumption) | assumption)
            obtain ⟨go23, co23, eo23, gb23, gl23, cl23, HG23⟩ := Kd.R_form HO_7.out (by omega)
            (first | cases eo23 | (injection eo23 with ea_ en_ ec_; (first | subst ea_ | (injection ea_ with ea_; subst ea_)); subst ec_; clear en_))
            have GB23 := Aside0.mk gb23
            have GG23 := Aside0.mk HG23
            clear gb23 gl23 HG23
            obtain ⟨hx23_0, hf23_0⟩ := Kd.R_celln 0 HO_7.out (x21_1 : Int) p23 q23
            replace p23 := eq_true p23
            replace q23 := eq_true q23
            have HP24 := Kd.R_putg HO_7.out (x21_1 : Int) 2
            go_wp2_with (first | ((with_reducible refine gate_store (t := 2) (p := 41) rfl ?_); refine store_event (t := 2) (p := 41) (v := ?vo_w25) (w1 := (wr.setCell ⟨go23, (x21_1 : Int).toNat, none⟩ (.int .i64 2))) ?hg ?ho ?hn ?hr ?_; (case ho => rfl); (case hg => rfl); (case hn => rfl); (case hr => first | (go_simp; done) | (go_simp; rfl)); intro w25 hw; have hg : wr.grownBy w25 (some go23) := (by rw [hw]; exact HP24.2); have hp_ : Kd.R (Kd.int .i64) 2 w25 w.heap.size (fun k_ => (w.heap.size ≤ k_)) (.slice (some ⟨go23, 0, none⟩) x7_1.length co23) y381 := (by rw [hw, Ny381.out]; exact HP24.1); clear HP24; replace HO_0 := Aside0.mk (Kd.V_afterv (v := (.slice (some ⟨go23, 0, none⟩) x7_1.length co23)) (v1 := (.slice (some ⟨go23, 0, none⟩) x7_1.length co23)) (ok := (fun k_ => ((P0_ k_ ∨ P1_ k_) ∨ w.heap.size ≤ k_))) (by (with_reducible repeat (first | apply Kd.V_alloc | apply Kd.V_drewN | apply Kd.V_drew)); exact HO_0.out) hg (.inl rfl)); replace HO_1 := Aside0.mk (Kd.V_afterv (v := (.slice (some ⟨go23, 0, none⟩) x7_1.length co23)) (v1 := (.slice (some ⟨go23, 0, none⟩) x7_1.length co23)) (ok := (fun k_ => ((P0_ k_ ∨ P1_ k_) ∨ w.heap.size ≤ k_))) (by (with_reducible repeat (first | apply Kd.V_alloc | apply Kd.V_drewN | apply Kd.V_drew)); exact HO_1.out) hg (.inl rfl)); replace HO_7 := Aside0.mk (hp_); replace HB := Aside0.mk ((by rw [hw]; exact below_set (HB.out) GB23.out : Below w.heap.size w w25)); clear hg hw hp_))
            go_roundg k1
            case measure => have := HK1.out; omega
            case rel => exact ⟨(y381), (wrap64 (x21_1 + 1)), (by first | rfl | (simp; done) | (simp [*]; done)), H', ⟨by have := HK1.out; omega⟩, ⟨by (with_reducible repeat (first | apply Kd.V_alloc | apply Kd.V_drewN | apply Kd.V_drew)); exact HO_0.out⟩, ⟨by (with_reducible repeat (first | apply Kd.V_alloc | apply Kd.V_drewN | apply Kd.V_drew)); exact HO_1.out⟩, ⟨by (with_reducible repeat (first | apply Kd.R_alloc | apply Kd.R_drewN | apply Kd.R_drew)); exact HO_7.out⟩, ⟨by repeat (first | (with_reducible first | exact HB.out | apply below_alloc | apply pw_below_drewN | apply below_drew1) | exact HB.out)⟩⟩
           ·rw [if_neg c22] at H
            exact absurd H (by simp)
          ·rw [if_neg c21] at H
           have c21b0 : decide (0 < (rd l0 x21_1)) = false := decide_eq_false c21
           clear c21
           by_cases c26 : x21_1 < (l1.length : Int)
           ·rw [if_pos c26] at H
            have c26b0 : decide (x21_1 < (l1.length : Int)) = true := decide_eq_true c26
            clear c26
            by_cases c27 : (rd l1 x21_1) > 0
            ·rw [if_pos c27] at H
             have c27b0 : decide (0 < (rd l1 x21_1)) = true := decide_eq_true c27
             clear c27
             by_cases c28 : x21_1 < (x7_1.length : Int)
             ·rw [if_pos c28] at H
              have c28b0 : decide (x21_1 < (x7_1.length : Int)) = true := decide_eq_true c28
              clear c28
              obtain ⟨y383, hy383⟩ : ∃ y_ : List Int, y_ = (x7_1.set (x21_1 : Int).toNat 3) := ⟨_, rfl⟩
              replace H : (impl_Classify.l0 k1 l0 l1 y383 (l0.length : Int) (wrap64 (x21_1 + 1))) = some (r1, r2) := by first | (rw [hy383]; with_reducible exact H) | (have H2_ := (Option.bind_some _ _).symm.trans H; rw [hy383]; with_reducible exact H2_) | (have H2_ := (Option.bind_some _ _).symm.trans H; with_reducible exact H2_) | with_reducible exact H | (rw [hy383]; exact H) | exact H
              have Ny383 := Aside0.mk hy383
              clear hy383
              have H' := Aside0.mk H
              clear H
              have p380 : 0 ≤ (x21_1 : Int) := of_decide_eq_true (by first | (with_reducible assumption) | assumption)
              have q380 : x21_1 < (l0.length : Int) := of_decide_eq_true (by first | (with_reducible assumption) | assumption)
              obtain ⟨ad380, e380, hx380_0⟩ := Kd.at_int (Kd.V_reads' HO_0.out).2.2 x21_1 p380 q380
              cases e380
              replace p380 := eq_true p380
              replace q380 := eq_true q380
              have p382 : 0 ≤ (x21_1 : Int) := of_decide_eq_true (by first | (with_reducible assumption) | assumption)
              have q382 : x21_1 < (l1.length : Int) := of_decide_eq_true (by first | (with_reducible assumption) | assumption)
              obtain ⟨ad382, e382, hx382_0⟩ := Kd.at_int (Kd.V_reads' HO_1.out).2.2 x21_1 p382 q382
              cases e382
              replace p382 := eq_true p382
              replace q382 := eq_true q382
              have p29 : 0 ≤ (x21_1 : Int) := of_decide_eq_true (by first | (with_reducible assumption) | assumption)
              have q29 : (x21_1 : Int) < ((x7_1.length : Int) : Int) := of_decide_eq_true (by first | (with_reducible assumption) | assumption)
              obtain ⟨go29, co29, eo29, gb29, gl29, cl29, HG29⟩ := Kd.R_form HO_7.out (by omega)
              (first | cases eo29 | (injection eo29 with ea_ en_ ec_; (first | subst ea_ | (injection ea_ with ea_; subst ea_)); subst ec_; clear en_))
              have GB29 := Aside0.mk gb29
              have GG29 := Aside0.mk HG29
              clear gb29 gl29 HG29
              obtain ⟨hx29_0, hf29_0⟩ := Kd.R_celln 0 HO_7.out (x21_1 : Int) p29 q29
              replace p29 := eq_true p29
              replace q29 := eq_true q29
              have HP30 := Kd.R_putg HO_7.out (x21_1 : Int) 3
              go_wp2_with (first | ((with_reducible refine gate_store (t := 2) (p := 50) rfl ?_); refine store_event (t := 2) (p := 50) (v := ?vo_w31) (w1 := (wr.setCell ⟨go29, (x21_1 : Int).toNat, none⟩ (.int .i64 3))) ?hg ?ho ?hn ?hr ?_; (case ho => rfl); (case hg => rfl); (case hn => rfl); (case hr => first | (go_simp; done) | (go_simp; rfl)); intro w31 hw; have hg : wr.grownBy w31 (some go29) := (by rw [hw]; exact HP30.2); have hp_ : Kd.R (Kd.int .i64) 2 w31 w.heap.size (fun k_ => (w.heap.size ≤ k_)) (.slice (some ⟨go29, 0, none⟩) x7_1.length co29) y383 := (by rw [hw, Ny383.out]; exact HP30.1); clear HP30; replace HO_0 := Aside0.mk (Kd.V_afterv (v := (.slice (some ⟨go29, 0, none⟩) x7_1.length co29)) (v1 := (.slice (some ⟨go29, 0, none⟩) x7_1.length co29)) (ok := (fun k_ => ((P0_ k_ ∨ P1_ k_) ∨ w.heap.size ≤ k_))) (by (with_reducible repeat (first | apply Kd.V_alloc | apply Kd.V_drewN | apply Kd.V_drew)); exact HO_0.out) hg (.inl rfl)); replace HO_1 := Aside0.mk (Kd.V_afterv (v := (.slice (some ⟨go29, 0, none⟩) x7_1.length co29)) (v1 := (.slice (some ⟨go29, 0, none⟩) x7_1.length co29)) (ok := (fun k_ => ((P0_ k_ ∨ P1_ k_) ∨ w.heap.size ≤ k_))) (by (with_reducible repeat (first | apply Kd.V_alloc | apply Kd.V_drewN | apply Kd.V_drew)); exact HO_1.out) hg (.inl rfl)); replace HO_7 := Aside0.mk (hp_); replace HB := Aside0.mk ((by rw [hw]; exact below_set (HB.out) GB29.out : Below w.heap.size w w31)); clear hg hw hp_))
              go_roundg k1
              case measure => have := HK1.out; omega
              case rel => exact ⟨(y383), (wrap64 (x21_1 + 1)), (by first | rfl | (simp; done) | (simp [*]; done)), H', ⟨by have := HK1.out; omega⟩, ⟨by (with_reducible repeat (first | apply Kd.V_alloc | apply Kd.V_drewN | apply Kd.V_drew)); exact HO_0.out⟩, ⟨by (with_reducible repeat (first | apply Kd.V_alloc | apply Kd.V_drewN | apply Kd.V_drew)); exact HO_1.out⟩, ⟨by (with_reducible repeat (first | apply Kd.R_alloc | apply Kd.R_drewN | apply Kd.R_drew)); exact HO_7.out⟩, ⟨by repeat (first | (with_reducible first | exact HB.out | apply below_alloc | apply pw_below_drewN | apply below_drew1) | exact HB.out)⟩⟩
             ·rw [if_neg c28] at H
              exact absurd H (by simp)
            ·rw [if_neg c27] at H
             have c27b0 : decide (0 < (rd l1 x21_1)) = false := decide_eq_false c27
             clear c27
             by_cases c32 : x21_1 < (x7_1.length : Int)
             ·rw [if_pos c32] at H
              have c32b0 : decide (x21_1 < (x7_1.length : Int)) = true := decide_eq_true c32
              clear c32
              obtain ⟨y384, hy384⟩ : ∃ y_ : List Int, y_ = (x7_1.set (x21_1 : Int).toNat 4) := ⟨_, rfl⟩
              replace H : (impl_Classify.l0 k1 l0 l1 y384 (l0.length : Int) (wrap64 (x21_1 + 1))) = some (r1, r2) := by first | (rw [hy384]; with_reducible exact H) | (have H2_ := (Option.bind_some _ _).symm.trans H; rw [hy384]; with_reducible exact H2_) | (have H2_ := (Option.bind_some _ _).symm.trans H; with_reducible exact H2_) | with_reducible exact H | (rw [hy384]; exact H) | exact H
              have Ny384 := Aside0.mk hy384
              clear hy384
              have H' := Aside0.mk H
              clear H
              have p380 : 0 ≤ (x21_1 : Int) := of_decide_eq_true (by first | (with_reducible assumption) | assumption)
              have q380 : x21_1 < (l0.length : Int) := of_decide_eq_true (by first | (with_reducible assumption) | assumption)
              obtain ⟨ad380, e380, hx380_0⟩ := Kd.at_int (Kd.V_reads' HO_0.out).2.2 x21_1 p380 q380
              cases e380
              replace p380 := eq_true p380
              replace q380 := eq_true q380
              have p382 : 0 ≤ (x21_1 : Int) := of_decide_eq_true (by first | (with_reducible assumption) | assumption)
              have q382 : x21_1 < (l1.length : Int) := of_decide_eq_true (by first | (with_reducible assumption) | assumption)
              obtain ⟨ad382, e382, hx382_0⟩ := Kd.at_int (Kd.V_reads' HO_1.out).2.2 x21_1 p382 q382
              cases e382
              replace p382 := eq_true p382
              replace q382 := eq_true q382
              have p33 : 0 ≤ (x21_1 : Int) := of_decide_eq_true (by first | (with_reducible assumption) | assumption)
              have q33 : (x21_1 : Int) < ((x7_1.length : Int) : Int) := of_decide_eq_true (by first | (with_reducible assumption) | assumption)
              obtain ⟨go33, co33, eo33, gb33, gl33, cl33, HG33⟩ := Kd.R_form HO_7.out (by omega)
              (first | cases eo33 | (injection eo33 with ea_ en_ ec_; (first | subst ea_ | (injection ea_ with ea_; subst ea_)); subst ec_; clear en_))
              have GB33 := Aside0.mk gb33
              have GG33 := Aside0.mk HG33
              clear gb33 gl33 HG33
              obtain ⟨hx33_0, hf33_0⟩ := Kd.R_celln 0 HO_7.out (x21_1 : Int) p33 q33
              replace p33 := eq_true p33
              replace q33 := eq_true q33
              have HP34 := Kd.R_putg HO_7.out (x21_1 : Int) 4
              go_wp2_with (first | ((with_reducible refine gate_store (t := 2) (p := 26) rfl ?_); refine store_event (t := 2) (p := 26) (v := ?vo_w35) (w1 := (wr.setCell ⟨go33, (x21_1 : Int).toNat, none⟩ (.int .i64 4))) ?hg ?ho ?hn ?hr ?_; (case ho => rfl); (case hg => rfl); (case hn => rfl); (case hr => first | (go_simp; done) | (go_simp; rfl)); intro w35 hw; have hg : wr.grownBy w35 (some go33) := (by rw [hw]; exact HP34.2); have hp_ : Kd.R (Kd.int .i64) 2 w35 w.heap.size (fun k_ => (w.heap.size ≤ k_)) (.slice (some ⟨go33, 0, none⟩) x7_1.length co33) y384 := (by rw [hw, Ny384.out]; exact HP34.1); clear HP34; replace HO_0 := Aside0.mk (Kd.V_afterv (v := (.slice (some ⟨go33, 0, none⟩) x7_1.length co33)) (v1 := (.slice (some ⟨go33, 0, none⟩) x7_1.length co33)) (ok := (fun k_ => ((P0_ k_ ∨ P1_ k_) ∨ w.heap.size ≤ k_))) (by (with_reducible repeat (first | apply Kd.V_alloc | apply Kd.V_drewN | apply Kd.V_drew)); exact HO_0.out) hg (.inl rfl)); replace HO_1 := Aside0.mk (Kd.V_afterv (v := (.slice (some ⟨go33, 0, none⟩) x7_1.length co33)) (v1 := (.slice (some ⟨go33, 0, none⟩) x7_1.length co33)) (ok := (fun k_ => ((P0_ k_ ∨ P1_ k_) ∨ w.heap.size ≤ k_))) (by (with_reducible repeat (first | apply Kd.V_alloc | apply Kd.V_drewN | apply Kd.V_drew)); exact HO_1.out) hg (.inl rfl)); replace HO_7 := Aside0.mk (hp_); replace HB := Aside0.mk ((by rw [hw]; exact below_set (HB.out) GB33.out : Below w.heap.size w w35)); clear hg hw hp_))
              go_roundg k1
              case measure => have := HK1.out; omega
              case rel => exact ⟨(y384), (wrap64 (x21_1 + 1)), (by first | rfl | (simp; done) | (simp [*]; done)), H', ⟨by have := HK1.out; omega⟩, ⟨by (with_reducible repeat (first | apply Kd.V_alloc | apply Kd.V_drewN | apply Kd.V_drew)); exact HO_0.out⟩, ⟨by (with_reducible repeat (first | apply Kd.V_alloc | apply Kd.V_drewN | apply Kd.V_drew)); exact HO_1.out⟩, ⟨by (with_reducible repeat (first | apply Kd.R_alloc | apply Kd.R_drewN | apply Kd.R_drew)); exact HO_7.out⟩, ⟨by repeat (first | (with_reducible first | exact HB.out | apply below_alloc | apply pw_below_drewN | apply below_drew1) | exact HB.out)⟩⟩
             ·rw [if_neg c32] at H
              exact absurd H (by simp)
           ·rw [if_neg c26] at H
            exact absurd H (by simp)
         ·rw [if_neg c20] at H
          exact absurd H (by simp)
        ·rw [if_neg c19] at H
         exact absurd H (by simp)
      ·rw [if_neg c12] at H
       have c12b0 : decide (x21_1 < (l0.length : Int)) = false := decide_eq_false c12
       clear c12
       simp only [Option.some.injEq, Prod.mk.injEq] at H
       obtain ⟨rfl, rfl⟩ := H
       go_wp2
       go_ret2
       exact ⟨_, by first | rfl | (simp [errW_none, errW_some] <;> rfl) | (simp [*, errW_none, errW_some] <;> rfl), by (with_reducible repeat (first | apply Kd.R_alloc | apply Kd.R_drewN | apply Kd.R_drew)); exact HO_7.out, by repeat (first | (with_reducible first | exact HB.out | apply below_alloc | apply pw_below_drewN | apply below_drew1) | exact HB.out)⟩
   ·rw [if_neg c6] at H
    exact absurd H (by simp)
  ·rw [if_neg c5] at H
   exact absurd H (by simp)
 ·rw [if_neg c4] at H
  have c4b0 : (t375 == 0) = false := beq_eq_false_iff_ne.mpr c4
  have c4b1 : (t375 != 0) = true := bne_iff_ne.mpr c4
  simp only [Option.some.injEq, Prod.mk.injEq] at H
  obtain ⟨rfl, rfl⟩ := H
  go_enter Try.func50, Try.ntmps50
  go_wp2_with (first | ((with_reducible refine gate_dst (N := 11) rfl ?_); refine Kd.N_lit (Kd.slice 2 (Kd.int .i64)) _ 24 ?hg (N' := 11) ?hd (xs := ([l0, l1] : List (List Int))) (inner := [.slice A0 l0.length c0, .slice A1 l1.length c1]) (ok := (fun k_ => ((P0_ k_ ∨ P1_ k_) ∨ w.heap.size ≤ k_))) (okp := (fun k_ => ((P0_ k_ ∨ P1_ k_) ∨ w.heap.size ≤ k_))) ?hr ?hp (fun _ hk => hk) ((show ∀ k_, w.heap.size ≤ k_ → (fun k_ => ((P0_ k_ ∨ P1_ k_) ∨ w.heap.size ≤ k_)) k_ from fun k_ hk => (.inr (Nat.le_trans (below_size (Law.bg HB.out)) hk))) _ (Nat.le_refl _)) (Below.refl _ _) (Nat.le_refl _) (by simp) ?_; (case hd => rfl); (case hg => rfl); (case hr => first | (go_simp; done) | (go_simp; rfl)); (case hp => exact (Reps.one (show Kd.FK (Kd.slice 2 (Kd.int .i64)) _ _ l0 [.slice A0 l0.length c0] from (Kd.FK_slice_mk (Kd.V_reads' (Kd.V_mono (ok' := (fun k_ => ((P0_ k_ ∨ P1_ k_) ∨ w.heap.size ≤ k_))) (HO0.out) (fun k_ hk => hk))).2.1 (Kd.V_F (Kd.V_mono (ok' := (fun k_ => ((P0_ k_ ∨ P1_ k_) ∨ w.heap.size ≤ k_))) (HO0.out) (fun k_ hk => hk))))) (Reps.one (show Kd.FK (Kd.slice 2 (Kd.int .i64)) _ _ l1 [.slice A1 l1.length c1] from (Kd.FK_slice_mk (Kd.V_reads' (Kd.V_mono (ok' := (fun k_ => ((P0_ k_ ∨ P1_ k_) ∨ w.heap.size ≤ k_))) (HO1.out) (fun k_ hk => hk))).2.1 (Kd.V_F (Kd.V_mono (ok' := (fun k_ => ((P0_ k_ ∨ P1_ k_) ∨ w.heap.size ≤ k_))) (HO1.out) (fun k_ hk => hk))))) (Reps.none _ _)))); intro v373 w36 ho37 hb hg_ hnew_; clear hg_ hnew_; (first | rw [← Ny372.out] at ho37 | (simp only [Int.reduceToNat] at ho37; rw [← Ny372.out] at ho37)); have HO374 := Aside0.mk (Kd.N_lower ho37 (below_size (Law.bg HB.out))); replace HO0 := Aside0.mk (Kd.V_elder' (by (with_reducible repeat (first | apply Kd.V_alloc | apply Kd.V_drewN | apply Kd.V_drew)); exact HO0.out) (Kd.N_base ho37) hb); replace HO1 := Aside0.mk (Kd.V_elder' (by (with_reducible repeat (first | apply Kd.V_alloc | apply Kd.V_drewN | apply Kd.V_drew)); exact HO1.out) (Kd.N_base ho37) hb); replace HB := Law.bS HB hb; clear hb ho37; obtain ⟨Ao38, co38, eo38⟩ := Kd.N_slice HO374.out; subst eo38) | ((with_reducible refine gate_callee (f := 66) rfl ?_); refine goesL_ (some 12) rfl rfl Try.func66 (by kernel_rfl) rfl #[.slice Ao38 y372.length co38] rfl (by (try simp only [List.map_toArray, List.map_cons, List.map_nil]); first | done | rfl | (simp only [List.length_drop, List.length_take]; rfl)) ?_; (with_reducible refine (impl_badCounts.calls k _ _ y372 t375 _ ?side1 ?side2 A3.out).mono ?_); (case side1 => exact Law.cg ((Kd.N_reads' HO374.out).2.2)); (case side2 => exact (Kd.N_reads' HO374.out).2.1); rintro e w' ⟨rfl, ⟨nd, rfl⟩⟩; refine ⟨_, rfl, ?_⟩))
  go_ret2
  exact ⟨_, by first | rfl | (simp [errW_none, errW_some] <;> rfl) | (simp [*, errW_none, errW_some] <;> rfl), by first | exact Kd.R_nil _ _ _ _ _ | exact Kd.N_nil _ _ _ _ _ | exact Kd.V_nil _ _ _ _ _ | exact Kd.Q_nil _ _ _ _ _ | exact Kd.S_nil _ _ _ _ _, by repeat (first | (with_reducible first | exact HB.out | apply below_alloc | apply pw_below_drewN | apply below_drew1) | exact HB.out)⟩

/-! ### impl_Reserve: function 51 -/
def impl_Reserve.f (a0 : Int) : Option (Int) := if a0 < 8 then (some 0) else (if a0 > 512 then (some 0) else (some (wrap64 (Int.tdiv (wrap64 ((wrap64 (a0 - 2)) + 19)) 20))))
set_option maxHeartbeats 8000000 in
set_option maxRecDepth 100000 in
theorem impl_Reserve.calls (a0 : Int) (r : Int) (w : World) (h : impl_Reserve.f a0 = some r) :
  Calls Try.prog 51 #[.int .i64 a0] w fun e w' => e = .returned (.int .i64 r) ∧ Drawn0 w w' := by
 have H : (if a0 < 8 then (some 0) else (if a0 > 512 then (some 0) else (some (wrap64 (Int.tdiv (wrap64 ((wrap64 (a0 - 2)) + 19)) 20))))) = some r := h
 clear h
 by_cases c2 : a0 < 8
 ·rw [if_pos c2] at H
  have c2b0 : decide (a0 < 8) = true := decide_eq_true c2
  clear c2
  obtain rfl := Option.some.inj H
  go_enter Try.func51, Try.ntmps51
  go_wp2
  go_ret
  exact ⟨by first | rfl | (simp; done) | (simp [*]; done), by repeat (first | exact Drawn0.refl _ | apply Drawn0.step)⟩
 ·rw [if_neg c2] at H
  have c2b0 : decide (a0 < 8) = false := decide_eq_false c2
  clear c2
  by_cases c3 : a0 > 512
  ·rw [if_pos c3] at H
   have c3b0 : decide (512 < a0) = true := decide_eq_true c3
   clear c3
   obtain rfl := Option.some.inj H
   go_enter Try.func51, Try.ntmps51
   go_wp2
   go_ret
   exact ⟨by first | rfl | (simp; done) | (simp [*]; done), by repeat (first | exact Drawn0.refl _ | apply Drawn0.step)⟩
  ·rw [if_neg c3] at H
   have c3b0 : decide (512 < a0) = false := decide_eq_false c3
   clear c3
   obtain rfl := Option.some.inj H
   go_enter Try.func51, Try.ntmps51
   go_wp2
   go_ret
   exact ⟨by first | rfl | (simp; done) | (simp [*]; done), by repeat (first | exact Drawn0.refl _ | apply Drawn0.step)⟩

/-! ### impl_LowestFree: function 52 -/
-- given: loop.example/s01595/impl.LowestFree
section GivenLowestFree
attribute [local go_sem] Oper.semAt_some
/-- The lowest of the free blocks, or the code. -/
def impl_LowestFree.f (k : Nat) (l0 : List Int) (l1 : List Int) : Option (Int × Int) := (impl_badCounts.f k [l0, l1]).bind fun t => if t = 0 then (if l0.length ≤ l1.length ∧ l0.length ≤ 1048576 then (match Iter.frees l0 l1 with | [] => some (0, 7) | b :: _ => some (b, 0)) else none) else some (0, t)
theorem C_two {w : World} {e : Nat} {A0 A1 : Option Addr} {c0 c1 : Nat} {l0 l1 : List Int} (h0 : Kd.C (Kd.int .i64) w A0 l0.length l0) (hc0 : l0.length ≤ c0) (h1 : Kd.C (Kd.int .i64) w A1 l1.length l1) (hc1 : l1.length ≤ c1) (a : Addr)
    (x0 : w.cell? (a.add 0) = some (.slice A0 l0.length c0)) (x1 : w.cell? (a.add 1) = some (.slice A1 l1.length c1)) : Kd.C (Kd.slice e (Kd.int .i64)) w (some a) ([l0, l1] : List (List Int)).length [l0, l1] := by
  refine ⟨rfl, by simp, fun _ => ⟨a, rfl, fun j p hp => ?_⟩⟩
  match j, hp with
  | 0, hp =>
    obtain rfl : l0 = p := by simpa using hp
    refine ⟨[.slice A0 l0.length c0], rfl, ⟨A0, c0, rfl, hc0, h0⟩, fun i u hu => ?_⟩
    match i, hu with
    | 0, hu => obtain rfl : Value.slice A0 l0.length c0 = u := by simpa using hu
               simpa [Kd.slice] using x0
    | i + 1, hu => simp at hu
  | 1, hp =>
    obtain rfl : l1 = p := by simpa using hp
    refine ⟨[.slice A1 l1.length c1], rfl, ⟨A1, c1, rfl, hc1, h1⟩, fun i u hu => ?_⟩
    match i, hu with
    | 0, hu => obtain rfl : Value.slice A1 l1.length c1 = u := by simpa using hu
               simpa [Kd.slice] using x1
    | i + 1, hu => simp at hu
  | j + 2, hp => simp at hp
set_option maxHeartbeats 8000000 in
set_option maxRecDepth 100000 in
theorem impl_LowestFree.calls (k : Nat) (A0 : Option Addr) (c0 : Nat) (l0 : List Int) (A1 : Option Addr) (c1 : Nat) (l1 : List Int) (r1 : Int) (r2 : Int) (w : World) (hr0 : Kd.C (Kd.int .i64) w A0 l0.length l0) (hc0 : l0.length ≤ c0) (hr1 : Kd.C (Kd.int .i64) w A1 l1.length l1) (hc1 : l1.length ≤ c1) (h : impl_LowestFree.f k l0 l1 = some (r1, r2)) :
    Calls Try.prog 52 #[.slice A0 l0.length c0, .slice A1 l1.length c1] w fun e w' => e = .returned (.tuple #[.int .i64 r1, .int .i64 r2]) ∧ Below w.heap.size w w' := by
  refine callsIn_wide (n := 3) |>.1 ?_
  unfold impl_LowestFree.f at h
  obtain ⟨t, ht, h⟩ := Option.bind_eq_some_iff.1 h
  have HT := Lib.hid ht
  have H := Lib.hid h
  clear ht h
  refine callsIn_of_wp_marks Try.func52 rfl trivial ?_ rfl
  simp only [Try.ntmps52, List.size_toArray, List.length_cons, List.length_nil, Nat.reduceAdd, Nat.reduceSub, Array.replicate_succ, Array.replicate_zero, List.push_toArray, List.append_toArray, List.nil_append, List.cons_append]
  gi_wp2_with fail
  refine ⟨trivial, ?_⟩
  have hb3 : Below w.heap.size w (((w.alloc (.cells #[.int .i64 0] 2)).alloc (.cells #[.int .i64 0] 2)).alloc (.cells #[.slice A0 l0.length c0, .slice A1 l1.length c1] 24)) := (((Below.refl _ w).alloc (Nat.le_refl _) _).alloc (by simp) _).alloc (by simp; omega) _
  refine (callsIn_wide.2 (impl_badCounts.calls k _ _ [l0, l1] t _ (C_two (Kd.C_below hr0 hb3) hc0 (Kd.C_below hr1 hb3) hc1 ⟨w.heap.size + 1 + 1, 0, none⟩ (Iter.cell_at _ _ _ (by simp) 0 _ rfl) (Iter.cell_at _ _ _ (by simp) 1 _ rfl)) (by simp) HT.out)).mono ?_
  rintro e w' ⟨rfl, ⟨nd, rfl⟩⟩
  have q0 : ((((w.alloc (.cells #[.int .i64 0] 2)).alloc (.cells #[.int .i64 0] 2)).alloc (.cells #[.slice A0 l0.length c0, .slice A1 l1.length c1] 24)).drewN nd).cell? ⟨w.heap.size, 0, none⟩ = some (.int .i64 0) := by
    rw [World.cell?_drewN]
    exact Iter.cell_alloc_l _ (Iter.cell_alloc_l _ (Iter.cell_new_l w (.int .i64 0) 2).1)
  have q1 : ((((w.alloc (.cells #[.int .i64 0] 2)).alloc (.cells #[.int .i64 0] 2)).alloc (.cells #[.slice A0 l0.length c0, .slice A1 l1.length c1] 24)).drewN nd).cell? ⟨w.heap.size + 1, 0, none⟩ = some (.int .i64 0) := by
    rw [World.cell?_drewN]
    have := (Iter.cell_new_l (w.alloc (.cells #[.int .i64 0] 2)) (.int .i64 0) 2).1
    rw [World.size_alloc] at this
    exact Iter.cell_alloc_l _ this
  by_cases ht0 : t = 0
  · have hz : (t == 0) = true := beq_iff_eq.2 ht0
    have hz' : (t != 0) = false := by simp [ht0]
    have H1 : (if l0.length ≤ l1.length ∧ l0.length ≤ 1048576 then (match Iter.frees l0 l1 with | [] => some ((0 : Int), (7 : Int)) | b :: _ => some (b, 0)) else none) = some (r1, r2) := by rw [← H.out, if_pos ht0]
    clear H HT ht0
    have z0 : ((((w.alloc (.cells #[.int .i64 0] 2)).alloc (.cells #[.int .i64 0] 2)).alloc (.cells #[.slice A0 l0.length c0, .slice A1 l1.length c1] 24)).drewN nd).frozen? ⟨w.heap.size, 0, none⟩ = false := by
      rw [World.frozen?_drewN]
      have := Iter.cell_new_l w (.int .i64 0) 2
      exact Iter.frozen_alloc_l _ (Iter.cell_alloc_l _ this.1) (Iter.frozen_alloc_l _ this.1 this.2)
    have z1 : ((((w.alloc (.cells #[.int .i64 0] 2)).alloc (.cells #[.int .i64 0] 2)).alloc (.cells #[.slice A0 l0.length c0, .slice A1 l1.length c1] 24)).drewN nd).frozen? ⟨w.heap.size + 1, 0, none⟩ = false := by
      rw [World.frozen?_drewN]
      have := Iter.cell_new_l (w.alloc (.cells #[.int .i64 0] 2)) (.int .i64 0) 2
      rw [World.size_alloc] at this
      exact Iter.frozen_alloc_l _ this.1 this.2
    have hb4 : Below w.heap.size w ((((w.alloc (.cells #[.int .i64 0] 2)).alloc (.cells #[.int .i64 0] 2)).alloc (.cells #[.slice A0 l0.length c0, .slice A1 l1.length c1] 24)).drewN nd) := Iter.below_dr hb3 nd
    have hsz : w.heap.size + 1 < ((((w.alloc (.cells #[.int .i64 0] 2)).alloc (.cells #[.int .i64 0] 2)).alloc (.cells #[.slice A0 l0.length c0, .slice A1 l1.length c1] 24)).drewN nd).heap.size := by simp
    clear hb3
    generalize ((((w.alloc (.cells #[.int .i64 0] 2)).alloc (.cells #[.int .i64 0] 2)).alloc (.cells #[.slice A0 l0.length c0, .slice A1 l1.length c1] 24)).drewN nd) = W1 at *
    gi_wp2_with (refine ⟨trivial, ?_⟩; gi_at_call 95; refine (Iter.free_in Fence.wide 2 trivial rfl (.bool true) (.bool true) _ _ _ _ _ _ _).mono ?_; rintro e w' ⟨rfl, rfl⟩)
    have b0 := (Iter.cell_new_l W1 (.slice A0 l0.length c0) 24).1
    have b1 := (Iter.cell_new_l (W1.alloc (.cells #[.slice A0 l0.length c0] 24)) (.slice A1 l1.length c1) 24).1
    rw [World.size_alloc] at b1
    have hB5 : Below W1.heap.size W1 ((W1.alloc (.cells #[.slice A0 l0.length c0] 24)).alloc (.cells #[.slice A1 l1.length c1] 24)) := ((Below.refl _ W1).alloc (Nat.le_refl _) _).alloc (by simp) _
    have hB6 := hb4.trans (hB5.mono (by omega))
    obtain ⟨hlen, hsm⟩ : l0.length ≤ l1.length ∧ l0.length ≤ 1048576 := by
      by_cases hh : l0.length ≤ l1.length ∧ l0.length ≤ 1048576
      · exact hh
      · rw [if_neg hh] at H1; simp at H1
    rw [if_pos ⟨hlen, hsm⟩] at H1
    have HF := Lib.hid H1
    clear H1
    refine wpIn_rangeFunc_ownF rfl (by omega) (gf := 108) (lb := #[.pointer (some ⟨W1.heap.size, 0, none⟩), .pointer (some ⟨W1.heap.size + 1, 0, none⟩)]) rfl trivial (enters_of Try.func108 (by kernel_rfl) rfl)
      (Iter.free_stops Fence.wide _ trivial rfl (by omega) W1.heap.size (W1.heap.size + 1) w.heap.size A0 A1 c0 c1 l0 l1 hlen hsm _ (Iter.C_blocks hr0) (Iter.C_blocks hr1) (Iter.cell_alloc_l _ b0) b1 (Kd.C_below hr0 hB6) (Kd.C_below hr1 hB6))
      Iter.keep_t (Iter.keep_b (by simp; omega) (by simp; omega) (by simp)) (Below.refl _ _) (fun _ => rfl)
      (fun pre W => (pre = [] ∧ W.cell? ⟨w.heap.size, 0, none⟩ = some (.int .i64 0) ∧ W.cell? ⟨w.heap.size + 1, 0, none⟩ = some (.int .i64 0) ∧ W.frozen? ⟨w.heap.size, 0, none⟩ = false ∧ W.frozen? ⟨w.heap.size + 1, 0, none⟩ = false) ∧ Below w.heap.size w W)
      (fun c pre W => (c = .ret ∧ ∃ b, pre = [b] ∧ W.cell? ⟨w.heap.size, 0, none⟩ = some (.int .i64 b.1) ∧ W.cell? ⟨w.heap.size + 1, 0, none⟩ = some (.int .i64 0)) ∧ Below w.heap.size w W)
      (OwnFrom.and (Own.from (fun s A B row hs hg hr => ⟨hs.1, cell_kept hs.2.1 hg hr, cell_kept hs.2.2.1 hg hr, (frozen_kept hs.2.1 hg hr).trans hs.2.2.2.1, (frozen_kept hs.2.2.1 hg hr).trans hs.2.2.2.2⟩) _) (ownFrom_below (Nat.le_refl _) (by simp; omega)))
      (fun c => OwnFrom.and (Own.from (fun s A B row hs hg hr => ⟨hs.1, by obtain ⟨b, e, h1, h2⟩ := hs.2; exact ⟨b, e, cell_kept h1 hg hr, cell_kept h2 hg hr⟩⟩) _) (ownFrom_below (Nat.le_refl _) (by simp; omega)))
      ⟨⟨rfl, Iter.cell_alloc_l _ (Iter.cell_alloc_l _ q0), Iter.cell_alloc_l _ (Iter.cell_alloc_l _ q1), Iter.frozen_alloc_l _ (Iter.cell_alloc_l _ q0) (Iter.frozen_alloc_l _ q0 z0), Iter.frozen_alloc_l _ (Iter.cell_alloc_l _ q1) (Iter.frozen_alloc_l _ q1 z1)⟩, hB6⟩
      (fun x => { tmps := #[.slice A0 l0.length c0, .slice A1 l1.length c1, undef, undef, .pointer (some ⟨w.heap.size, 0, none⟩), .pointer (some ⟨w.heap.size + 1, 0, none⟩), .int .i64 t, .int .i64 x.1, .slice A0 l0.length c0, .slice A1 l1.length c1, .slice (some ⟨w.heap.size + 1 + 1, 0, none⟩) 2 2, .int .i64 t, .int .i64 t, .bool false, undef, .slice A0 l0.length c0, .slice A1 l1.length c1, .func (.func 108) #[] #[.pointer (some ⟨W1.heap.size, 0, none⟩), .pointer (some ⟨W1.heap.size + 1, 0, none⟩)], .int .i64 x.1, undef], defers := [] }) ?assign ?body ?done ?stop
    case assign =>
      intro l x W K hK
      gi_wp2
      exact hK
    case body =>
      rintro l pre x W ⟨⟨rfl, p0, p1, p2, p3⟩, hB⟩ _
      gi_wp2
      obtain ⟨y0, y1⟩ := Iter.set2 (X := W) (p := ⟨w.heap.size, 0, none⟩) (q := ⟨w.heap.size + 1, 0, none⟩) (by simp) p0 p1 (.int .i64 x.1) (.int .i64 0)
      exact ⟨(KeepsOthers.setCell _ _ _).trans (KeepsOthers.setCell _ _ _), ⟨rfl, x, rfl, y0, y1⟩, (hB.setCell (p := ⟨w.heap.size, 0, none⟩) (by simp) _).setCell (p := ⟨w.heap.size + 1, 0, none⟩) (by simp) _⟩
    case done =>
      rintro D ys W hD hys ⟨⟨hne, p0, p1, p2, p3⟩, hB⟩ hK
      have H2 := HF.out
      rw [← hys, hne] at H2
      simp only [Iter.vals, List.map_nil] at H2
      simp only [Option.some.injEq, Prod.mk.injEq] at H2
      obtain ⟨e1, e2⟩ := H2
      subst e1 e2
      clear HF hne hys
      gi_wp2
      have hK' := ((KeepsOthers.setCell W ⟨w.heap.size, 0, none⟩ (.int .i64 0)).trans (KeepsOthers.setCell _ ⟨w.heap.size + 1, 0, none⟩ (.int .i64 7))).same D _ hK rfl
      obtain ⟨y0, y1⟩ := Iter.set2 (X := W) (p := ⟨w.heap.size, 0, none⟩) (q := ⟨w.heap.size + 1, 0, none⟩) (by simp) p0 p1 (.int .i64 0) (.int .i64 7)
      refine ⟨by simp, .inl ⟨_, _, rfl, run_takeDeferred hK', ?_⟩⟩
      have k0 := cell_kept y0 (grownBy_putObj' _ D (.deferred none)) (fun r e => by cases e; exact ⟨_, hK', rfl⟩)
      have k1 := cell_kept y1 (grownBy_putObj' _ D (.deferred none)) (fun r e => by cases e; exact ⟨_, hK', rfl⟩)
      refine ⟨.tuple #[.int .i64 0, .int .i64 7], ?_, rfl, ((hB.setCell (p := ⟨w.heap.size, 0, none⟩) (by simp) _).setCell (p := ⟨w.heap.size + 1, 0, none⟩) (by simp) _).trans (belowK_b (w := w) (Nat.le_refl _) _ D _ _ (by simp at hD; omega) hK' rfl rfl)⟩
      simp [results, Try.f52, go_sem, k0, k1]
    case stop =>
      rintro D c pre W hD ⟨hpre, _⟩ ⟨⟨rfl, b, rfl, p0, p1⟩, hB⟩ hK
      obtain ⟨rest, hrest⟩ := hpre
      have H2 := HF.out
      rw [← hrest] at H2
      simp only [Iter.vals, List.map_cons, List.map_nil, List.singleton_append, Option.some.injEq, Prod.mk.injEq] at H2
      obtain ⟨e1, e2⟩ := H2
      subst e1 e2
      clear HF hrest
      gi_wp2
      refine ⟨by simp, .inl ⟨_, _, rfl, run_takeDeferred hK, ?_⟩⟩
      have k0 := cell_kept p0 (grownBy_putObj' _ D (.deferred none)) (fun r e => by cases e; exact ⟨_, hK, rfl⟩)
      have k1 := cell_kept p1 (grownBy_putObj' _ D (.deferred none)) (fun r e => by cases e; exact ⟨_, hK, rfl⟩)
      refine ⟨.tuple #[.int .i64 b.1, .int .i64 0], ?_, rfl, hB.trans (belowK_b (w := w) (Nat.le_refl _) W D _ _ (by simp at hD; omega) hK rfl rfl)⟩
      simp [results, Try.f52, go_sem, k0, k1]
  · have hz : (t == 0) = false := by simp [ht0]
    have hz' : (t != 0) = true := by simp [ht0]
    have H1 : some ((0 : Int), t) = some (r1, r2) := by rw [← H.out, if_neg ht0]
    have e1 : r1 = 0 := by simp at H1; exact H1.1.symm
    have e2 : r2 = t := by simp at H1; exact H1.2.symm
    subst e1 e2
    clear H HT H1 ht0
    gi_wp2
    refine ⟨.tuple #[.int .i64 0, .int .i64 r2], ?_, rfl, ?_⟩
    · obtain ⟨y0, y1⟩ := Iter.set2 (X := ((((w.alloc (.cells #[.int .i64 0] 2)).alloc (.cells #[.int .i64 0] 2)).alloc (.cells #[.slice A0 l0.length c0, .slice A1 l1.length c1] 24)).drewN nd)) (p := ⟨w.heap.size, 0, none⟩) (q := ⟨w.heap.size + 1, 0, none⟩) (by simp) q0 q1 (.int .i64 0) (.int .i64 r2)
      simp [results, Try.f52, go_sem, y0, y1]
    · exact ((Iter.below_dr hb3 nd).setCell (p := ⟨w.heap.size, 0, none⟩) (by simp) _).setCell (p := ⟨w.heap.size + 1, 0, none⟩) (by simp) _
end GivenLowestFree

/-! ### laws_lRuns: function 53 -/
def laws_lRuns.l0 : Nat → List (S89) → List (S89) → Int → Option (Bool)
 | 0, _, _, _ => none
 | k + 1, x0, x1, x5 => if x5 < (x0.length : Int) then (if 0 ≤ x5 then (if x5 < (x1.length : Int) then (if (!(((rd_T89 x0 x5).f0) == ((rd_T89 x1 x5).f0)) || (!(((rd_T89 x0 x5).f1) == ((rd_T89 x1 x5).f1)) || (!(((rd_T89 x0 x5).f2) == ((rd_T89 x1 x5).f2))))) = true then (some false) else (laws_lRuns.l0 k x0 x1 (wrap64 (x5 + 1)))) else (none)) else (none)) else (some true)
def laws_lRuns.f (k : Nat) (l0 : List (S89)) (l1 : List (S89)) : Option (Bool) := if (l0.length : Int) = (l1.length : Int) then (laws_lRuns.l0 k l0 l1 0) else (some false)
set_option maxHeartbeats 8000000 in
set_option maxRecDepth 100000 in
theorem laws_lRuns.calls (k : Nat) (A0 : Option Addr) (c0 : Nat) (l0 : List (S89)) (A1 : Option Addr) (c1 : Nat) (l1 : List (S89)) (r : Bool) (w : World) (hr0 : Kd.C k89 w A0 l0.length l0) (hc0 : l0.length ≤ c0) (hr1 : Kd.C k89 w A1 l1.length l1) (hc1 : l1.length ≤ c1) (h : laws_lRuns.f k l0 l1 = some r) :
  Calls Try.prog 53 #[.slice A0 l0.length c0, .slice A1 l1.length c1] w fun e w' => e = .returned (.bool r) ∧ Drawn0 w w' := by
 have hu89 := Try.underlying89
 have HR0 := Aside0.mk hr0
 have HC0 := Aside0.mk hc0
 clear hr0 hc0
 have HR1 := Aside0.mk hr1
 have HC1 := Aside0.mk hc1
 clear hr1 hc1
 have H : (if (l0.length : Int) = (l1.length : Int) then (laws_lRuns.l0 k l0 l1 0) else (some false)) = some r := h
 clear h
 by_cases c3 : (l0.length : Int) = (l1.length : Int)
 ·rw [if_pos c3] at H
  have c3b0 : ((l0.length : Int) == (l1.length : Int)) = true := beq_iff_eq.mpr c3
  have c3b1 : ((l0.length : Int) != (l1.length : Int)) = false := bne_eq_false_iff_eq.mpr c3
  have c3b2 : (l0.length == l1.length) = true := by first | simpa using c3 | (simp at c3 ⊢; omega)
  clear c3
  have H' := Aside0.mk H
  clear H
  go_enter Try.func53, Try.ntmps53
  go_wp2
  repeat (go_quiet (fail); try go_wp2)
  go_loopg [5] k (fun kq v5 w' => ∃ (x5_1 : Int), v5 = .int .i64 x5_1 ∧ Aside0 (laws_lRuns.l0 kq l0 l1 x5_1 = some r) ∧ Aside0 (kq ≤ k) ∧ Drawn0 w w')
  case atStart => exact ⟨(0), (by first | rfl | (simp; done) | (simp [*]; done)), H', ⟨Nat.le_refl _⟩, by repeat (first | exact Drawn0.refl _ | apply Drawn0.step)⟩
  case round =>
   clear H'
   try clear c1
   try clear p2
   try clear c3
   try clear c3b0
   try clear c3b1
   try clear c3b2
   obtain ⟨x5_1, rfl, HA, HK1, ⟨m1, rfl⟩⟩ := hrel
   cases gk with
   | zero => exact absurd HA.out (by simp [laws_lRuns.l0])
   | succ k1 =>
    have H := HA.out
    clear HA
    simp only [laws_lRuns.l0] at H
    by_cases c4 : x5_1 < (l0.length : Int)
    ·rw [if_pos c4] at H
     have c4b0 : decide (x5_1 < (l0.length : Int)) = true := decide_eq_true c4
     clear c4
     by_cases c5 : 0 ≤ x5_1
     ·rw [if_pos c5] at H
      have c5b0 : decide (0 ≤ x5_1) = true := decide_eq_true c5
      clear c5
      by_cases c6 : x5_1 < (l1.length : Int)
      ·rw [if_pos c6] at H
       have c6b0 : decide (x5_1 < (l1.length : Int)) = true := decide_eq_true c6
       clear c6
       by_cases c7 : (!(((rd_T89 l0 x5_1).f0) == ((rd_T89 l1 x5_1).f0)) || (!(((rd_T89 l0 x5_1).f1) == ((rd_T89 l1 x5_1).f1)) || (!(((rd_T89 l0 x5_1).f2) == ((rd_T89 l1 x5_1).f2))))) = true
       ·rw [if_pos c7] at H
        have c7b0 : (!(((rd_T89 l0 x5_1).f0) == ((rd_T89 l1 x5_1).f0)) || (!(((rd_T89 l0 x5_1).f1) == ((rd_T89 l1 x5_1).f1)) || (!(((rd_T89 l0 x5_1).f2) == ((rd_T89 l1 x5_1).f2))))) = true := c7
        clear c7
        obtain rfl := Option.some.inj H
        have p385 : 0 ≤ (x5_1 : Int) := of_decide_eq_true (by first | (with_reducible assumption) | assumption)
        have q385 : x5_1 < (l0.length : Int) := of_decide_eq_true (by first | (with_reducible assumption) | assumption)
        obtain ⟨ad385, e385, hx385_0, hx385_1, hx385_2⟩ := at_T89 HR0.out x5_1 p385 q385
        cases e385
        replace p385 := eq_true p385
        replace q385 := eq_true q385
        have p386 : 0 ≤ (x5_1 : Int) := of_decide_eq_true (by first | (with_reducible assumption) | assumption)
        have q386 : x5_1 < (l1.length : Int) := of_decide_eq_true (by first | (with_reducible assumption) | assumption)
        obtain ⟨ad386, e386, hx386_0, hx386_1, hx386_2⟩ := at_T89 HR1.out x5_1 p386 q386
        cases e386
        replace p386 := eq_true p386
        replace q386 := eq_true q386
        go_wp2
        repeat (go_quiet (fail); try go_wp2)
        go_ret
        exact ⟨by first | rfl | (simp; done) | (simp [*]; done), by repeat (first | exact Drawn0.refl _ | apply Drawn0.step)⟩
       ·rw [if_neg c7] at H
        have c7b0 : (!(((rd_T89 l0 x5_1).f0) == ((rd_T89 l1 x5_1).f0)) || (!(((rd_T89 l0 x5_1).f1) == ((rd_T89 l1 x5_1).f1)) || (!(((rd_T89 l0 x5_1).f2) == ((rd_T89 l1 x5_1).f2))))) = false := by simpa using c7
        clear c7
        have H' := Aside0.mk H
        clear H
        have p385 : 0 ≤ (x5_1 : Int) := of_decide_eq_true (by first | (with_reducible assumption) | assumption)
        have q385 : x5_1 < (l0.length : Int) := of_decide_eq_true (by first | (with_reducible assumption) | assumption)
        obtain ⟨ad385, e385, hx385_0, hx385_1, hx385_2⟩ := at_T89 HR0.out x5_1 p385 q385
        cases e385
        replace p385 := eq_true p385
        replace q385 := eq_true q385
        have p386 : 0 ≤ (x5_1 : Int) := of_decide_eq_true (by first | (with_reducible assumption) | assumption)
        have q386 : x5_1 < (l1.length : Int) := of_decide_eq_true (by first | (with_reducible assumption) | assumption)
        obtain ⟨ad386, e386, hx386_0, hx386_1, hx386_2⟩ := at_T89 HR1.out x5_1 p386 q386
        cases e386
        replace p386 := eq_true p386
        replace q386 := eq_true q386
        go_wp2
        repeat (go_quiet (fail); try go_wp2)
        go_roundg k1
        case measure => have := HK1.out; omega
        case rel => exact ⟨(wrap64 (x5_1 + 1)), (by first | rfl | (simp; done) | (simp [*]; done)), H', ⟨by have := HK1.out; omega⟩, by repeat (first | exact Drawn0.refl _ | apply Drawn0.step)⟩
      ·rw [if_neg c6] at H
       exact absurd H (by simp)
     ·rw [if_neg c5] at H
      exact absurd H (by simp)
    ·rw [if_neg c4] at H
     have c4b0 : decide (x5_1 < (l0.length : Int)) = false := decide_eq_false c4
     clear c4
     obtain rfl := Option.some.inj H
     go_wp2
     repeat (go_quiet (fail); try go_wp2)
     go_ret
     exact ⟨by first | rfl | (simp; done) | (simp [*]; done), by repeat (first | exact Drawn0.refl _ | apply Drawn0.step)⟩
 ·rw [if_neg c3] at H
  have c3b0 : ((l0.length : Int) == (l1.length : Int)) = false := beq_eq_false_iff_ne.mpr c3
  have c3b1 : ((l0.length : Int) != (l1.length : Int)) = true := bne_iff_ne.mpr c3
  have c3b2 : (l0.length == l1.length) = false := by first | simpa using c3 | (simp at c3 ⊢; omega)
  obtain rfl := Option.some.inj H
  go_enter Try.func53, Try.ntmps53
  go_wp2
  repeat (go_quiet (fail); try go_wp2)
  go_ret
  exact ⟨by first | rfl | (simp; done) | (simp [*]; done), by repeat (first | exact Drawn0.refl _ | apply Drawn0.step)⟩

end Go.Proofs.Ytbimmmmjdimebaa.PFnPlan
