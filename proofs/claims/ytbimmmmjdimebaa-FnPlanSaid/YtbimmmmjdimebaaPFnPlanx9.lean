-- This text was written by a program of this session (gprint.py, on a turned copy of the print tool).
import Derived.Test.YtbimmmmjdimebaaLaw
import Derived.Test.YtbimmmmjdimebaaPFnPlanx0
import Derived.Test.YtbimmmmjdimebaaPFnPlanx8
namespace Go.Proofs.Ytbimmmmjdimebaa.PFnPlan
open Go.RowKit Go.Proofs.YtbimmmmjdimebaaW.PrintWords Go.Proofs.YtbimmmmjdimebaaW.PrintLast Go.Proofs.YtbimmmmjdimebaaW.PrintMore
attribute [local go_sem] max2_int min2_int max_two min_two max_three min_three max_four min_four   -- for this text's walks alone
set_option linter.unusedVariables false
set_option linter.unusedSimpArgs false

/-! ### spec_l3DrawCounts: function 106 -/
def spec_l3DrawCounts.l0 : Nat → Int → List Int → Int → Int → Int → List Int → Int → Int → Option (List Int × Int × Int)
 | 0, _, _, _, _, _, _, _, _ => none
 | k + 1, x1, x5, x6, x7, x8, x1000, x1001, x1002 => if x8 < x1 then (if x6 = 0 then ((spec_l1Next.f x1000 x1001 x1002 3).bind fun bt226 => (if x6 = 4 then ((spec_l1Next.f x1000 bt226.2.1 bt226.2.2 40).bind fun bt229 => (if bt229.1 = 0 then (if x5.length < 17592186044416 then (spec_l3DrawCounts.l0 k x1 (x5 ++ [65535]) x6 65535 (wrap64 (x8 + 1)) x1000 bt229.2.1 bt229.2.2) else (none)) else (if x5.length < 17592186044416 then (spec_l3DrawCounts.l0 k x1 (x5 ++ [bt226.1]) x6 bt226.1 (wrap64 (x8 + 1)) x1000 bt229.2.1 bt229.2.2) else (none)))) else (if x5.length < 17592186044416 then (spec_l3DrawCounts.l0 k x1 (x5 ++ [bt226.1]) x6 bt226.1 (wrap64 (x8 + 1)) x1000 bt226.2.1 bt226.2.2) else (none)))) else (if x6 = 1 then (if x6 = 4 then ((spec_l1Next.f x1000 x1001 x1002 40).bind fun bt241 => (if bt241.1 = 0 then (if x5.length < 17592186044416 then (spec_l3DrawCounts.l0 k x1 (x5 ++ [65535]) x6 65535 (wrap64 (x8 + 1)) x1000 bt241.2.1 bt241.2.2) else (none)) else (if x5.length < 17592186044416 then (spec_l3DrawCounts.l0 k x1 (x5 ++ [wrap64 (1 + (Int.tmod x8 2))]) x6 (wrap64 (1 + (Int.tmod x8 2))) (wrap64 (x8 + 1)) x1000 bt241.2.1 bt241.2.2) else (none)))) else (if x5.length < 17592186044416 then (spec_l3DrawCounts.l0 k x1 (x5 ++ [wrap64 (1 + (Int.tmod x8 2))]) x6 (wrap64 (1 + (Int.tmod x8 2))) (wrap64 (x8 + 1)) x1000 x1001 x1002) else (none))) else (if x6 = 2 then (if x6 = 4 then ((spec_l1Next.f x1000 x1001 x1002 40).bind fun bt253 => (if bt253.1 = 0 then (if x5.length < 17592186044416 then (spec_l3DrawCounts.l0 k x1 (x5 ++ [65535]) x6 65535 (wrap64 (x8 + 1)) x1000 bt253.2.1 bt253.2.2) else (none)) else (if x5.length < 17592186044416 then (spec_l3DrawCounts.l0 k x1 (x5 ++ [Int.tmod (Int.tmod x8 3) 2]) x6 (Int.tmod (Int.tmod x8 3) 2) (wrap64 (x8 + 1)) x1000 bt253.2.1 bt253.2.2) else (none)))) else (if x5.length < 17592186044416 then (spec_l3DrawCounts.l0 k x1 (x5 ++ [Int.tmod (Int.tmod x8 3) 2]) x6 (Int.tmod (Int.tmod x8 3) 2) (wrap64 (x8 + 1)) x1000 x1001 x1002) else (none))) else ((spec_l1Next.f x1000 x1001 x1002 4).bind fun bt265 => (if bt265.1 = 0 then ((spec_l1Next.f x1000 bt265.2.1 bt265.2.2 3).bind fun bt268 => (if x6 = 4 then ((spec_l1Next.f x1000 bt268.2.1 bt268.2.2 40).bind fun bt271 => (if bt271.1 = 0 then (if x5.length < 17592186044416 then (spec_l3DrawCounts.l0 k x1 (x5 ++ [65535]) x6 65535 (wrap64 (x8 + 1)) x1000 bt271.2.1 bt271.2.2) else (none)) else (if x5.length < 17592186044416 then (spec_l3DrawCounts.l0 k x1 (x5 ++ [bt268.1]) x6 bt268.1 (wrap64 (x8 + 1)) x1000 bt271.2.1 bt271.2.2) else (none)))) else (if x5.length < 17592186044416 then (spec_l3DrawCounts.l0 k x1 (x5 ++ [bt268.1]) x6 bt268.1 (wrap64 (x8 + 1)) x1000 bt268.2.1 bt268.2.2) else (none)))) else (if x6 = 4 then ((spec_l1Next.f x1000 bt265.2.1 bt265.2.2 40).bind fun bt283 => (if bt283.1 = 0 then (if x5.length < 17592186044416 then (spec_l3DrawCounts.l0 k x1 (x5 ++ [65535]) x6 65535 (wrap64 (x8 + 1)) x1000 bt283.2.1 bt283.2.2) else (none)) else (if x5.length < 17592186044416 then (spec_l3DrawCounts.l0 k x1 (x5 ++ [x7]) x6 x7 (wrap64 (x8 + 1)) x1000 bt283.2.1 bt283.2.2) else (none)))) else (if x5.length < 17592186044416 then (spec_l3DrawCounts.l0 k x1 (x5 ++ [x7]) x6 x7 (wrap64 (x8 + 1)) x1000 bt265.2.1 bt265.2.2) else (none)))))))) else (some (x5, x1001, x1002))
def spec_l3DrawCounts.f (k : Nat) (s0_0 : List Int) (s0_1 : Int) (s0_2 : Int) (a1 : Int) : Option (List Int × Int × Int) := (spec_l1Next.f s0_0 s0_1 s0_2 5).bind fun bt223 => (spec_l3DrawCounts.l0 k a1 (([0, 0] : List Int)) bt223.1 0 2 s0_0 bt223.2.1 bt223.2.2)
set_option maxHeartbeats 8000000 in
set_option maxRecDepth 100000 in
theorem spec_l3DrawCounts.calls (k : Nat) (g : Nat) (s0_0 : List Int) (s0_1 : Int) (s0_2 : Int) (a1 : Int) (r1 : List Int) (r2 : Int) (r3 : Int) (w0 w : World) (hI : IsS111 w0 w g s0_0 s0_1 s0_2) (hB : Below w0.heap.size w0 w) (h : spec_l3DrawCounts.f k s0_0 s0_1 s0_2 a1 = some (r1, r2, r3)) :
  Calls Try.prog 106 #[.pointer (some ⟨g, 0, none⟩), .int .i64 a1] w fun e w' => ∃ v0_ : Value, e = .returned (v0_) ∧ Kd.R (Kd.int .i64) 2 w' w.heap.size (fun _ => True) v0_ r1 ∧ IsS111 w0 w' g s0_0 r2 r3 ∧ Below w0.heap.size w0 w' ∧ KeepBut w w' g none := by
 have HI0 := Aside0.mk hI
 have HK := Aside0.mk (KeepBut.refl w g none)
 have HL := Aside0.mk hB.size
 clear hI
 have HW0 := Aside0.mk hB.size
 have HB := Aside0.mk hB
 clear hB
 have H : ((spec_l1Next.f s0_0 s0_1 s0_2 5).bind fun bt223 => (spec_l3DrawCounts.l0 k a1 (([0, 0] : List Int)) bt223.1 0 2 s0_0 bt223.2.1 bt223.2.2)) = some (r1, r2, r3) := h
 clear h
 obtain ⟨y220, hy220⟩ : ∃ y_ : List Int, y_ = (([0, 0] : List Int)) := ⟨_, rfl⟩
 replace H : ((spec_l1Next.f s0_0 s0_1 s0_2 5).bind fun bt223 => (spec_l3DrawCounts.l0 k a1 y220 bt223.1 0 2 s0_0 bt223.2.1 bt223.2.2)) = some (r1, r2, r3) := by first | (rw [hy220]; with_reducible exact H) | (have H2_ := (Option.bind_some _ _).symm.trans H; rw [hy220]; with_reducible exact H2_) | (have H2_ := (Option.bind_some _ _).symm.trans H; with_reducible exact H2_) | with_reducible exact H | (rw [hy220]; exact H) | exact H
 have Ny220 := Aside0.mk hy220
 clear hy220
 replace H := Option.bind_eq_some_iff.mp H
 obtain ⟨⟨t223, t224, t225⟩, A30, H⟩ := H
 replace H : (spec_l3DrawCounts.l0 k a1 y220 t223 0 2 s0_0 t224 t225) = some (r1, r2, r3) := H
 have A3 := Aside0.mk A30
 clear A30
 have H' := Aside0.mk H
 clear H
 go_enter Try.func106, Try.ntmps106
 go_wp2_with (first | ((with_reducible refine gate_dst (N := 9) rfl ?_); refine Kd.R_lit (Kd.int .i64) _ 2 ?hg (N := 9) ?hd (xs := ([0, 0] : List Int)) (inner := [.int .i64 0, .int .i64 0]) (ok := fun _ => True) (okp := fun _ => True) ?hr ?hp (fun _ hk => hk) trivial (Below.refl _ _) (Nat.le_refl _) (by simp) ?_; (case hd => rfl); (case hg => rfl); (case hr => first | (go_simp; done) | (go_simp; rfl)); (case hp => exact (Reps.one (show Kd.M (Kd.int .i64) _ _ _ 0 [.int .i64 0] from rfl) (Reps.one (show Kd.M (Kd.int .i64) _ _ _ 0 [.int .i64 0] from rfl) (Reps.none _ _)))); intro v221 w4 ho5 hb hg_ hnew_; clear hg_ hnew_; (first | rw [← Ny220.out] at ho5 | (simp only [Int.reduceToNat] at ho5; rw [← Ny220.out] at ho5)); have HO222 := Aside0.mk (Kd.R_lower ho5 (keep_size (w := w) (g := g) (row := none) (Law.kg HK))); replace HK := Aside0.mk (KeepBut.trans (Law.kg HK) (KeepBut.of_below hb g none) (.inl rfl)); replace HB := Aside0.mk (below_step (Law.bi HB (IsS111.ge HI0.out)) hb); replace HI0 := Aside0.mk (IsS111.below (IsS111.ig HI0) hb); clear hb ho5) | ((with_reducible refine gate_callee (f := 91) rfl ?_); refine goesL_ (some 11) rfl rfl Try.func91 (by kernel_rfl) rfl #[.pointer (some ⟨g, 0, none⟩), .int .i64 5] rfl (by (try simp only [List.map_toArray, List.map_cons, List.map_nil]); first | done | rfl | (simp only [List.length_drop, List.length_take]; rfl)) ?_; (with_reducible refine (spec_l1Next.calls g s0_0 s0_1 s0_2 5 t223 t224 t225 w0 _ ?side1 ?side2 A3.out).mono ?_); (case side1 => exact IsS111.ig HI0); (case side2 => exact Law.bi HB (IsS111.ge HI0.out)); rintro e w6 ⟨rfl, hi, hb, hk⟩; refine ⟨_, rfl, ?_⟩; replace HO222 := Aside0.mk (Kd.R_mono (Kd.R_keep (IsS111.apart (show IsS111 w0 _ g s0_0 s0_1 s0_2 from by exact IsS111.ig HI0) (Law.rg HO222.out) (by decide)) hk (fun _ h => h.2)) (fun _ h => h.1)); replace HK := Aside0.mk (KeepBut.trans (Law.kg HK) hk (.inl rfl)); replace HB := Aside0.mk (hb); replace HI0 := Aside0.mk (hi); (try clear hb); (try clear hk); (try clear hi)))
 go_loopg [5, 7, 8] k (fun kq v5 v7 v8 w' => ∃ (x5_1 : List Int) (x7_1 : Int) (x8_1 : Int) (x1001_1 : Int) (x1002_1 : Int), v7 = .int .i64 x7_1 ∧ v8 = .int .i64 x8_1 ∧ Aside0 (spec_l3DrawCounts.l0 kq a1 x5_1 t223 x7_1 x8_1 s0_0 x1001_1 x1002_1 = some (r1, r2, r3)) ∧ Aside0 (kq ≤ k) ∧ Aside0 (Kd.R (Kd.int .i64) 2 w' w.heap.size (fun _ => True) v5 x5_1) ∧ Aside0 (IsS111 w0 w' g s0_0 x1001_1 x1002_1) ∧ Aside0 (KeepBut w w' g none) ∧ Aside0 (Below w0.heap.size w0 w'))
 case atStart => exact ⟨(y220), (0), (2), (t224), (t225), (by first | rfl | (simp; done) | (simp [*]; done)), (by first | rfl | (simp; done) | (simp [*]; done)), H', ⟨Nat.le_refl _⟩, ⟨by (with_reducible repeat (first | apply Kd.R_alloc | apply Kd.R_drewN | apply Kd.R_drew)); exact HO222.out⟩, ⟨by exact IsS111.ig HI0⟩, ⟨by exact Law.kg HK⟩, ⟨by exact Law.bi HB (IsS111.ge HI0.out)⟩⟩
 case round =>
  clear H'
  try clear c1
  try clear p2
  obtain ⟨x5_1, x7_1, x8_1, x1001_1, x1002_1, rfl, rfl, HA, HK1, HO_5, HI0, HK, HB⟩ := hrel
  cases gk with
  | zero => exact absurd HA.out (by simp [spec_l3DrawCounts.l0])
  | succ k1 =>
   have H := HA.out
   clear HA
   simp only [spec_l3DrawCounts.l0] at H
   by_cases c7 : x8_1 < a1
   ·rw [if_pos c7] at H
    have c7b0 : decide (x8_1 < a1) = true := decide_eq_true c7
    clear c7
    by_cases c8 : t223 = 0
    ·rw [if_pos c8] at H
     have c8b0 : (t223 == 0) = true := beq_iff_eq.mpr c8
     have c8b1 : (t223 != 0) = false := bne_eq_false_iff_eq.mpr c8
     clear c8
     replace H := Option.bind_eq_some_iff.mp H
     obtain ⟨⟨t226, t227, t228⟩, A90, H⟩ := H
     replace H : (if t223 = 4 then ((spec_l1Next.f s0_0 t227 t228 40).bind fun bt229 => (if bt229.1 = 0 then (if x5_1.length < 17592186044416 then (spec_l3DrawCounts.l0 k1 a1 (x5_1 ++ [65535]) t223 65535 (wrap64 (x8_1 + 1)) s0_0 bt229.2.1 bt229.2.2) else (none)) else (if x5_1.length < 17592186044416 then (spec_l3DrawCounts.l0 k1 a1 (x5_1 ++ [t226]) t223 t226 (wrap64 (x8_1 + 1)) s0_0 bt229.2.1 bt229.2.2) else (none)))) else (if x5_1.length < 17592186044416 then (spec_l3DrawCounts.l0 k1 a1 (x5_1 ++ [t226]) t223 t226 (wrap64 (x8_1 + 1)) s0_0 t227 t228) else (none))) = some (r1, r2, r3) := H
     have A9 := Aside0.mk A90
     clear A90
     by_cases c10 : t223 = 4
     ·rw [if_pos c10] at H
      have c10b0 : (t223 == 4) = true := beq_iff_eq.mpr c10
      have c10b1 : (t223 != 4) = false := bne_eq_false_iff_eq.mpr c10
      clear c10
      replace H := Option.bind_eq_some_iff.mp H
      obtain ⟨⟨t229, t230, t231⟩, A110, H⟩ := H
      replace H : (if t229 = 0 then (if x5_1.length < 17592186044416 then (spec_l3DrawCounts.l0 k1 a1 (x5_1 ++ [65535]) t223 65535 (wrap64 (x8_1 + 1)) s0_0 t230 t231) else (none)) else (if x5_1.length < 17592186044416 then (spec_l3DrawCounts.l0 k1 a1 (x5_1 ++ [t226]) t223 t226 (wrap64 (x8_1 + 1)) s0_0 t230 t231) else (none))) = some (r1, r2, r3) := H
      have A11 := Aside0.mk A110
      clear A110
      by_cases c12 : t229 = 0
      ·rw [if_pos c12] at H
       have c12b0 : (t229 == 0) = true := beq_iff_eq.mpr c12
       have c12b1 : (t229 != 0) = false := bne_eq_false_iff_eq.mpr c12
       clear c12
       by_cases c13 : x5_1.length < 17592186044416
       ·rw [if_pos c13] at H
        have LMc13 := Aside0.mk c13
        clear c13
        obtain ⟨y232, hy232⟩ : ∃ y_ : List Int, y_ = (x5_1 ++ [65535]) := ⟨_, rfl⟩
        replace H : (spec_l3DrawCounts.l0 k1 a1 y232 t223 65535 (wrap64 (x8_1 + 1)) s0_0 t230 t231) = some (r1, r2, r3) := by first | (rw [hy232]; with_reducible exact H) | (have H2_ := (Option.bind_some _ _).symm.trans H; rw [hy232]; with_reducible exact H2_) | (have H2_ := (Option.bind_some _ _).symm.trans H; with_reducible exact H2_) | with_reducible exact H | (rw [hy232]; exact H) | exact H
        have Ny232 := Aside0.mk hy232
        clear hy232
        have H' := Aside0.mk H
        clear H
        go_wp2_with (first | ((with_reducible refine gate_callee (f := 91) rfl ?_); refine goesL_ (some 20) rfl rfl Try.func91 (by kernel_rfl) rfl #[.pointer (some ⟨g, 0, none⟩), .int .i64 3] rfl (by (try simp only [List.map_toArray, List.map_cons, List.map_nil]); first | done | rfl | (simp only [List.length_drop, List.length_take]; rfl)) ?_; (with_reducible refine (spec_l1Next.calls g s0_0 x1001_1 x1002_1 3 t226 t227 t228 w0 _ ?side1 ?side2 A9.out).mono ?_); (case side1 => exact IsS111.ig HI0); (case side2 => exact Law.bi HB (IsS111.ge HI0.out)); rintro e w14 ⟨rfl, hi, hb, hk⟩; refine ⟨_, rfl, ?_⟩; replace HO_5 := Aside0.mk (Kd.R_mono (Kd.R_keep (IsS111.apart (show IsS111 w0 _ g s0_0 x1001_1 x1002_1 from by exact IsS111.ig HI0) (Law.rg HO_5.out) (by decide)) hk (fun _ h => h.2)) (fun _ h => h.1)); replace HK := Aside0.mk (KeepBut.trans (Law.kg HK) hk (.inl rfl)); replace HB := Aside0.mk (hb); replace HI0 := Aside0.mk (hi); (try clear hb); (try clear hk); (try clear hi)) | (go_at_call 91; (with_reducible refine (spec_l1Next.calls g s0_0 t227 t228 40 t229 t230 t231 w0 _ ?side1 ?side2 A11.out).mono ?_); (case side1 => exact IsS111.ig HI0); (case side2 => exact Law.bi HB (IsS111.ge HI0.out)); rintro e w15 ⟨rfl, hi, hb, hk⟩; replace HO_5 := Aside0.mk (Kd.R_mono (Kd.R_keep (IsS111.apart (show IsS111 w0 _ g s0_0 t227 t228 from by exact IsS111.ig HI0) (Law.rg HO_5.out) (by decide)) hk (fun _ h => h.2)) (fun _ h => h.1)); replace HK := Aside0.mk (KeepBut.trans (Law.kg HK) hk (.inl rfl)); replace HB := Aside0.mk (hb); replace HI0 := Aside0.mk (hi); (try clear hb); (try clear hk); (try clear hi)) | ((with_reducible refine gate_builtin (b := .append) (xs := #[.tmp 43, .tmp 45]) rfl ?_); at_builtin; refine Kd.R_append (Kd.int .i64) w.heap.size rfl (.tmp 43) (.tmp 45) 24 2 (.int .i64 0) 8 rfl Try.underlying24 info2 rfl (by decide) (by omega) u5 x5_1 65535 [.int .i64 65535] (fun _ => True) (fun _ => False) rfl rfl ?aP (fun _ hk => hk.elim) ?aF ?aO (Below.refl _ _) ?aS ?aL ?_; (case aP => exact rfl); (case aF => exact (fun _ _ => trivial)); (case aO => exact (Law.rg HO_5.out)); (case aS => exact (keep_size (w := w) (g := g) (row := none) (Law.kg HK))); (case aL => have := LMc13.out; omega); intro v233 w16 ho hb hg hat; rw [← Ny232.out] at ho; have HO234 := Aside0.mk (ho); replace HB := Aside0.mk (below_weaken (Law.bi HB (IsS111.ge HI0.out)) HL.out hb); replace HI0 := Aside0.mk (IsS111.grown (IsS111.ig HI0) hg (IsS111.own_ne HI0.out HO_5.out (by decide))); replace HK := Aside0.mk (KeepBut.trans (Law.kg HK) (KeepBut.of_grown hg g) (Kd.R_base2 HO_5.out)); clear HO_5; clear ho hb hg hat))
        go_roundg k1
        case measure => have := HK1.out; omega
        case rel => exact ⟨(y232), (65535), (wrap64 (x8_1 + 1)), (t230), (t231), (by first | rfl | (simp; done) | (simp [*]; done)), (by first | rfl | (simp; done) | (simp [*]; done)), H', ⟨by have := HK1.out; omega⟩, ⟨by (with_reducible repeat (first | apply Kd.R_alloc | apply Kd.R_drewN | apply Kd.R_drew)); exact HO234.out⟩, ⟨by exact IsS111.ig HI0⟩, ⟨by exact Law.kg HK⟩, ⟨by exact Law.bi HB (IsS111.ge HI0.out)⟩⟩
       ·rw [if_neg c13] at H
        exact absurd H (by simp)
      ·rw [if_neg c12] at H
       have c12b0 : (t229 == 0) = false := beq_eq_false_iff_ne.mpr c12
       have c12b1 : (t229 != 0) = true := bne_iff_ne.mpr c12
       by_cases c17 : x5_1.length < 17592186044416
       ·rw [if_pos c17] at H
        have LMc17 := Aside0.mk c17
        clear c17
        obtain ⟨y235, hy235⟩ : ∃ y_ : List Int, y_ = (x5_1 ++ [t226]) := ⟨_, rfl⟩
        replace H : (spec_l3DrawCounts.l0 k1 a1 y235 t223 t226 (wrap64 (x8_1 + 1)) s0_0 t230 t231) = some (r1, r2, r3) := by first | (rw [hy235]; with_reducible exact H) | (have H2_ := (Option.bind_some _ _).symm.trans H; rw [hy235]; with_reducible exact H2_) | (have H2_ := (Option.bind_some _ _).symm.trans H; with_reducible exact H2_) | with_reducible exact H | (rw [hy235]; exact H) | exact H
        have Ny235 := Aside0.mk hy235
        clear hy235
        have H' := Aside0.mk H
        clear H
        go_wp2_with (first | ((with_reducible refine gate_callee (f := 91) rfl ?_); refine goesL_ (some 20) rfl rfl Try.func91 (by kernel_rfl) rfl #[.pointer (some ⟨g, 0, none⟩), .int .i64 3] rfl (by (try simp only [List.map_toArray, List.map_cons, List.map_nil]); first | done | rfl | (simp only [List.length_drop, List.length_take]; rfl)) ?_; (with_reducible refine (spec_l1Next.calls g s0_0 x1001_1 x1002_1 3 t226 t227 t228 w0 _ ?side1 ?side2 A9.out).mono ?_); (case side1 => exact IsS111.ig HI0); (case side2 => exact Law.bi HB (IsS111.ge HI0.out)); rintro e w18 ⟨rfl, hi, hb, hk⟩; refine ⟨_, rfl, ?_⟩; replace HO_5 := Aside0.mk (Kd.R_mono (Kd.R_keep (IsS111.apart (show IsS111 w0 _ g s0_0 x1001_1 x1002_1 from by exact IsS111.ig HI0) (Law.rg HO_5.out) (by decide)) hk (fun _ h => h.2)) (fun _ h => h.1)); replace HK := Aside0.mk (KeepBut.trans (Law.kg HK) hk (.inl rfl)); replace HB := Aside0.mk (hb); replace HI0 := Aside0.mk (hi); (try clear hb); (try clear hk); (try clear hi)) | (go_at_call 91; (with_reducible refine (spec_l1Next.calls g s0_0 t227 t228 40 t229 t230 t231 w0 _ ?side1 ?side2 A11.out).mono ?_); (case side1 => exact IsS111.ig HI0); (case side2 => exact Law.bi HB (IsS111.ge HI0.out)); rintro e w19 ⟨rfl, hi, hb, hk⟩; replace HO_5 := Aside0.mk (Kd.R_mono (Kd.R_keep (IsS111.apart (show IsS111 w0 _ g s0_0 t227 t228 from by exact IsS111.ig HI0) (Law.rg HO_5.out) (by decide)) hk (fun _ h => h.2)) (fun _ h => h.1)); replace HK := Aside0.mk (KeepBut.trans (Law.kg HK) hk (.inl rfl)); replace HB := Aside0.mk (hb); replace HI0 := Aside0.mk (hi); (try clear hb); (try clear hk); (try clear hi)) | ((with_reducible refine gate_builtin (b := .append) (xs := #[.tmp 43, .tmp 45]) rfl ?_); at_builtin; refine Kd.R_append (Kd.int .i64) w.heap.size rfl (.tmp 43) (.tmp 45) 24 2 (.int .i64 0) 8 rfl Try.underlying24 info2 rfl (by decide) (by omega) u5 x5_1 t226 [.int .i64 t226] (fun _ => True) (fun _ => False) rfl rfl ?aP (fun _ hk => hk.elim) ?aF ?aO (Below.refl _ _) ?aS ?aL ?_; (case aP => exact rfl); (case aF => exact (fun _ _ => trivial)); (case aO => exact (Law.rg HO_5.out)); (case aS => exact (keep_size (w := w) (g := g) (row := none) (Law.kg HK))); (case aL => have := LMc17.out; omega); intro v236 w20 ho hb hg hat; rw [← Ny235.out] at ho; have HO237 := Aside0.mk (ho); replace HB := Aside0.mk (below_weaken (Law.bi HB (IsS111.ge HI0.out)) HL.out hb); replace HI0 := Aside0.mk (IsS111.grown (IsS111.ig HI0) hg (IsS111.own_ne HI0.out HO_5.out (by decide))); replace HK := Aside0.mk (KeepBut.trans (Law.kg HK) (KeepBut.of_grown hg g) (Kd.R_base2 HO_5.out)); clear HO_5; clear ho hb hg hat))
        go_roundg k1
        case measure => have := HK1.out; omega
        case rel => exact ⟨(y235), (t226), (wrap64 (x8_1 + 1)), (t230), (t231), (by first | rfl | (simp; done) | (simp [*]; done)), (by first | rfl | (simp; done) | (simp [*]; done)), H', ⟨by have := HK1.out; omega⟩, ⟨by (with_reducible repeat (first | apply Kd.R_alloc | apply Kd.R_drewN | apply Kd.R_drew)); exact HO237.out⟩, ⟨by exact IsS111.ig HI0⟩, ⟨by exact Law.kg HK⟩, ⟨by exact Law.bi HB (IsS111.ge HI0.out)⟩⟩
       ·rw [if_neg c17] at H
        exact absurd H (by simp)
     ·rw [if_neg c10] at H
      have c10b0 : (t223 == 4) = false := beq_eq_false_iff_ne.mpr c10
      have c10b1 : (t223 != 4) = true := bne_iff_ne.mpr c10
      by_cases c21 : x5_1.length < 17592186044416
      ·rw [if_pos c21] at H
       have LMc21 := Aside0.mk c21
       clear c21
       obtain ⟨y238, hy238⟩ : ∃ y_ : List Int, y_ = (x5_1 ++ [t226]) := ⟨_, rfl⟩
       replace H : (spec_l3DrawCounts.l0 k1 a1 y238 t223 t226 (wrap64 (x8_1 + 1)) s0_0 t227 t228) = some (r1, r2, r3) := by first | (rw [hy238]; with_reducible exact H) | (have H2_ := (Option.bind_some _ _).symm.trans H; rw [hy238]; with_reducible exact H2_) | (have H2_ := (Option.bind_some _ _).symm.trans H; with_reducible exact H2_) | with_reducible exact H | (rw [hy238]; exact H) | exact H
       have Ny238 := Aside0.mk hy238
       clear hy238
       have H' := Aside0.mk H
       clear H
       go_wp2_with (first | ((with_reducible refine gate_callee (f := 91) rfl ?_); refine goesL_ (some 20) rfl rfl Try.func91 (by kernel_rfl) rfl #[.pointer (some ⟨g, 0, none⟩), .int .i64 3] rfl (by (try simp only [List.map_toArray, List.map_cons, List.map_nil]); first | done | rfl | (simp only [List.length_drop, List.length_take]; rfl)) ?_; (with_reducible refine (spec_l1Next.calls g s0_0 x1001_1 x1002_1 3 t226 t227 t228 w0 _ ?side1 ?side2 A9.out).mono ?_); (case side1 => exact IsS111.ig HI0); (case side2 => exact Law.bi HB (IsS111.ge HI0.out)); rintro e w22 ⟨rfl, hi, hb, hk⟩; refine ⟨_, rfl, ?_⟩; replace HO_5 := Aside0.mk (Kd.R_mono (Kd.R_keep (IsS111.apart (show IsS111 w0 _ g s0_0 x1001_1 x1002_1 from by exact IsS111.ig HI0) (Law.rg HO_5.out) (by decide)) hk (fun _ h => h.2)) (fun _ h => h.1)); replace HK := Aside0.mk (KeepBut.trans (Law.kg HK) hk (.inl rfl)); replace HB := Aside0.mk (hb); replace HI0 := Aside0.mk (hi); (try clear hb); (try clear hk); (try clear hi)) | ((with_reducible refine gate_builtin (b := .append) (xs := #[.tmp 43, .tmp 45]) rfl ?_); at_builtin; refine Kd.R_append (Kd.int .i64) w.heap.size rfl (.tmp 43) (.tmp 45) 24 2 (.int .i64 0) 8 rfl Try.underlying24 info2 rfl (by decide) (by omega) u5 x5_1 t226 [.int .i64 t226] (fun _ => True) (fun _ => False) rfl rfl ?aP (fun _ hk => hk.elim) ?aF ?aO (Below.refl _ _) ?aS ?aL ?_; (case aP => exact rfl); (case aF => exact (fun _ _ => trivial)); (case aO => exact (Law.rg HO_5.out)); (case aS => exact (keep_size (w := w) (g := g) (row := none) (Law.kg HK))); (case aL => have := LMc21.out; omega); intro v239 w23 ho hb hg hat; rw [← Ny238.out] at ho; have HO240 := Aside0.mk (ho); replace HB := Aside0.mk (below_weaken (Law.bi HB (IsS111.ge HI0.out)) HL.out hb); replace HI0 := Aside0.mk (IsS111.grown (IsS111.ig HI0) hg (IsS111.own_ne HI0.out HO_5.out (by decide))); replace HK := Aside0.mk (KeepBut.trans (Law.kg HK) (KeepBut.of_grown hg g) (Kd.R_base2 HO_5.out)); clear HO_5; clear ho hb hg hat))
       go_roundg k1
       case measure => have := HK1.out; omega
       case rel => exact ⟨(y238), (t226), (wrap64 (x8_1 + 1)), (t227), (t228), (by first | rfl | (simp; done) | (simp [*]; done)), (by first | rfl | (simp; done) | (simp [*]; done)), H', ⟨by have := HK1.out; omega⟩, ⟨by (with_reducible repeat (first | apply Kd.R_alloc | apply Kd.R_drewN | apply Kd.R_drew)); exact HO240.out⟩, ⟨by exact IsS111.ig HI0⟩, ⟨by exact Law.kg HK⟩, ⟨by exact Law.bi HB (IsS111.ge HI0.out)⟩⟩
      ·rw [if_neg c21] at H
       exact absurd H (by simp)
    ·rw [if_neg c8] at H
     have c8b0 : (t223 == 0) = false := beq_eq_false_iff_ne.mpr c8
     have c8b1 : (t223 != 0) = true := bne_iff_ne.mpr c8
     by_cases c24 : t223 = 1
     ·rw [if_pos c24] at H
      have c24b0 : (t223 == 1) = true := beq_iff_eq.mpr c24
      have c24b1 : (t223 != 1) = false := bne_eq_false_iff_eq.mpr c24
      clear c24
      by_cases c25 : t223 = 4
      ·rw [if_pos c25] at H
       have c25b0 : (t223 == 4) = true := beq_iff_eq.mpr c25
       have c25b1 : (t223 != 4) = false := bne_eq_false_iff_eq.mpr c25
       clear c25
       replace H := Option.bind_eq_some_iff.mp H
       obtain ⟨⟨t241, t242, t243⟩, A260, H⟩ := H
       replace H : (if t241 = 0 then (if x5_1.length < 17592186044416 then (spec_l3DrawCounts.l0 k1 a1 (x5_1 ++ [65535]) t223 65535 (wrap64 (x8_1 + 1)) s0_0 t242 t243) else (none)) else (if x5_1.length < 17592186044416 then (spec_l3DrawCounts.l0 k1 a1 (x5_1 ++ [wrap64 (1 + (Int.tmod x8_1 2))]) t223 (wrap64 (1 + (Int.tmod x8_1 2))) (wrap64 (x8_1 + 1)) s0_0 t242 t243) else (none))) = some (r1, r2, r3) := H
       have A26 := Aside0.mk A260
       clear A260
       by_cases c27 : t241 = 0
       ·rw [if_pos c27] at H
        have c27b0 : (t241 == 0) = true := beq_iff_eq.mpr c27
        have c27b1 : (t241 != 0) = false := bne_eq_false_iff_eq.mpr c27
        clear c27
        by_cases c28 : x5_1.length < 17592186044416
        ·rw [if_pos c28] at H
         have LMc28 := Aside0.mk c28
         clear c28
         obtain ⟨y244, hy244⟩ : ∃ y_ : List Int, y_ = (x5_1 ++ [65535]) := ⟨_, rfl⟩
         replace H : (spec_l3DrawCounts.l0 k1 a1 y244 t223 65535 (wrap64 (x8_1 + 1)) s0_0 t242 t243) = some (r1, r2, r3) := by first | (rw [hy244]; with_reducible exact H) | (have H2_ := (Option.bind_some _ _).symm.trans H; rw [hy244]; with_reducible exact H2_) | (have H2_ := (Option.bind_some _ _).symm.trans H; with_reducible exact H2_) | with_reducible exact H | (rw [hy244]; exact H) | exact H
         have Ny244 := Aside0.mk hy244
         clear hy244
         have H' := Aside0.mk H
         clear H
         go_wp2_with (first | (go_at_call 91; (with_reducible refine (spec_l1Next.calls g s0_0 x1001_1 x1002_1 40 t241 t242 t243 w0 _ ?side1 ?side2 A26.out).mono ?_); (case side1 => exact IsS111.ig HI0); (case side2 => exact Law.bi HB (IsS111.ge HI0.out)); rintro e w29 ⟨rfl, hi, hb, hk⟩; replace HO_5 := Aside0.mk (Kd.R_mono (Kd.R_keep (IsS111.apart (show IsS111 w0 _ g s0_0 x1001_1 x1002_1 from by exact IsS111.ig HI0) (Law.rg HO_5.out) (by decide)) hk (fun _ h => h.2)) (fun _ h => h.1)); replace HK := Aside0.mk (KeepBut.trans (Law.kg HK) hk (.inl rfl)); replace HB := Aside0.mk (hb); replace HI0 := Aside0.mk (hi); (try clear hb); (try clear hk); (try clear hi)) | ((with_reducible refine gate_builtin (b := .append) (xs := #[.tmp 43, .tmp 45]) rfl ?_); at_builtin; refine Kd.R_append (Kd.int .i64) w.heap.size rfl (.tmp 43) (.tmp 45) 24 2 (.int .i64 0) 8 rfl Try.underlying24 info2 rfl (by decide) (by omega) u5 x5_1 65535 [.int .i64 65535] (fun _ => True) (fun _ => False) rfl rfl ?aP (fun _ hk => hk.elim) ?aF ?aO (Below.refl _ _) ?aS ?aL ?_; (case aP => exact rfl); (case aF => exact (fun _ _ => trivial)); (case aO => exact (Law.rg HO_5.out)); (case aS => exact (keep_size (w := w) (g := g) (row := none) (Law.kg HK))); (case aL => have := LMc28.out; omega); intro v245 w30 ho hb hg hat; rw [← Ny244.out] at ho; have HO246 := Aside0.mk (ho); replace HB := Aside0.mk (below_weaken (Law.bi HB (IsS111.ge HI0.out)) HL.out hb); replace HI0 := Aside0.mk (IsS111.grown (IsS111.ig HI0) hg (IsS111.own_ne HI0.out HO_5.out (by decide))); replace HK := Aside0.mk (KeepBut.trans (Law.kg HK) (KeepBut.of_grown hg g) (Kd.R_base2 HO_5.out)); clear HO_5; clear ho hb hg hat))
         go_roundg k1
         case measure => have := HK1.out; omega
         case rel => exact ⟨(y244), (65535), (wrap64 (x8_1 + 1)), (t242), (t243), (by first | rfl | (simp; done) | (simp [*]; done)), (by first | rfl | (simp; done) | (simp [*]; done)), H', ⟨by have := HK1.out; omega⟩, ⟨by (with_reducible repeat (first | apply Kd.R_alloc | apply Kd.R_drewN | apply Kd.R_drew)); exact HO246.out⟩, ⟨by exact IsS111.ig HI0⟩, ⟨by exact Law.kg HK⟩, ⟨by exact Law.bi HB (IsS111.ge HI0.out)⟩⟩
        ·rw [if_neg c28] at H
         exact absurd H (by simp)
       ·rw [if_neg c27] at H
        have c27b0 : (t241 == 0) = false := beq_eq_false_iff_ne.mpr c27
        have c27b1 : (t241 != 0) = true := bne_iff_ne.mpr c27
        by_cases c31 : x5_1.length < 17592186044416
        ·rw [if_pos c31] at H
         have LMc31 := Aside0.mk c31
         clear c31
         obtain ⟨y247, hy247⟩ : ∃ y_ : List Int, y_ = (x5_1 ++ [wrap64 (1 + (Int.tmod x8_1 2))]) := ⟨_, rfl⟩
         replace H : (spec_l3DrawCounts.l0 k1 a1 y247 t223 (wrap64 (1 + (Int.tmod x8_1 2))) (wrap64 (x8_1 + 1)) s0_0 t242 t243) = some (r1, r2, r3) := by first | (rw [hy247]; with_reducible exact H) | (have H2_ := (Option.bind_some _ _).symm.trans H; rw [hy247]; with_reducible exact H2_) | (have H2_ := (Option.bind_some _ _).symm.trans H; with_reducible exact H2_) | with_reducible exact H | (rw [hy247]; exact H) | exact H
         have Ny247 := Aside0.mk hy247
         clear hy247
         have H' := Aside0.mk H
         clear H
         go_wp2_with (first | (go_at_call 91; (with_reducible refine (spec_l1Next.calls g s0_0 x1001_1 x1002_1 40 t241 t242 t243 w0 _ ?side1 ?side2 A26.out).mono ?_); (case side1 => exact IsS111.ig HI0); (case side2 => exact Law.bi HB (IsS111.ge HI0.out)); rintro e w32 ⟨rfl, hi, hb, hk⟩; replace HO_5 := Aside0.mk (Kd.R_mono (Kd.R_keep (IsS111.apart (show IsS111 w0 _ g s0_0 x1001_1 x1002_1 from by exact IsS111.ig HI0) (Law.rg HO_5.out) (by decide)) hk (fun _ h => h.2)) (fun _ h => h.1)); replace HK := Aside0.mk (KeepBut.trans (Law.kg HK) hk (.inl rfl)); replace HB := Aside0.mk (hb); replace HI0 := Aside0.mk (hi); (try clear hb); (try clear hk); (try clear hi)) | ((with_reducible refine gate_builtin (b := .append) (xs := #[.tmp 43, .tmp 45]) rfl ?_); at_builtin; refine Kd.R_append (Kd.int .i64) w.heap.size rfl (.tmp 43) (.tmp 45) 24 2 (.int .i64 0) 8 rfl Try.underlying24 info2 rfl (by decide) (by omega) u5 x5_1 (wrap64 (1 + (Int.tmod x8_1 2))) [.int .i64 (wrap64 (1 + (Int.tmod x8_1 2)))] (fun _ => True) (fun _ => False) rfl rfl ?aP (fun _ hk => hk.elim) ?aF ?aO (Below.refl _ _) ?aS ?aL ?_; (case aP => exact rfl); (case aF => exact (fun _ _ => trivial)); (case aO => exact (Law.rg HO_5.out)); (case aS => exact (keep_size (w := w) (g := g) (row := none) (Law.kg HK))); (case aL => have := LMc31.out; omega); intro v248 w33 ho hb hg hat; rw [← Ny247.out] at ho; have HO249 := Aside0.mk (ho); replace HB := Aside0.mk (below_weaken (Law.bi HB (IsS111.ge HI0.out)) HL.out hb); replace HI0 := Aside0.mk (IsS111.grown (IsS111.ig HI0) hg (IsS111.own_ne HI0.out HO_5.out (by decide))); replace HK := Aside0.mk (KeepBut.trans (Law.kg HK) (KeepBut.of_grown hg g) (Kd.R_base2 HO_5.out)); clear HO_5; clear ho hb hg hat))
         go_roundg k1
         case measure => have := HK1.out; omega
         case rel => exact ⟨(y247), (wrap64 (1 + (Int.tmod x8_1 2))), (wrap64 (x8_1 + 1)), (t242), (t243), (by first | rfl | (simp; done) | (simp [*]; done)), (by first | rfl | (simp; done) | (simp [*]; done)), H', ⟨by have := HK1.out; omega⟩, ⟨by (with_reducible repeat (first | apply Kd.R_alloc | apply Kd.R_drewN | apply Kd.R_drew)); exact HO249.out⟩, ⟨by exact IsS111.ig HI0⟩, ⟨by exact Law.kg HK⟩, ⟨by exact Law.bi HB (IsS111.ge HI0.out)⟩⟩
        ·rw [if_neg c31] at H
         exact absurd H (by simp)
      ·rw [if_neg c25] at H
       have c25b0 : (t223 == 4) = false := beq_eq_false_iff_ne.mpr c25
       have c25b1 : (t223 != 4) = true := bne_iff_ne.mpr c25
       by_cases c34 : x5_1.length < 17592186044416
       ·rw [if_pos c34] at H
        have LMc34 := Aside0.mk c34
        clear c34
        obtain ⟨y250, hy250⟩ : ∃ y_ : List Int, y_ = (x5_1 ++ [wrap64 (1 + (Int.tmod x8_1 2))]) := ⟨_, rfl⟩
        replace H : (spec_l3DrawCounts.l0 k1 a1 y250 t223 (wrap64 (1 + (Int.tmod x8_1 2))) (wrap64 (x8_1 + 1)) s0_0 x1001_1 x1002_1) = some (r1, r2, r3) := by first | (rw [hy250]; with_reducible exact H) | (have H2_ := (Option.bind_some _ _).symm.trans H; rw [hy250]; with_reducible exact H2_) | (have H2_ := (Option.bind_some _ _).symm.trans H; with_reducible exact H2_) | with_reducible exact H | (rw [hy250]; exact H) | exact H
        have Ny250 := Aside0.mk hy250
        clear hy250
        have H' := Aside0.mk H
        clear H
        go_wp2_with (first | ((with_reducible refine gate_builtin (b := .append) (xs := #[.tmp 43, .tmp 45]) rfl ?_); at_builtin; refine Kd.R_append (Kd.int .i64) w.heap.size rfl (.tmp 43) (.tmp 45) 24 2 (.int .i64 0) 8 rfl Try.underlying24 info2 rfl (by decide) (by omega) u5 x5_1 (wrap64 (1 + (Int.tmod x8_1 2))) [.int .i64 (wrap64 (1 + (Int.tmod x8_1 2)))] (fun _ => True) (fun _ => False) rfl rfl ?aP (fun _ hk => hk.elim) ?aF ?aO (Below.refl _ _) ?aS ?aL ?_; (case aP => exact rfl); (case aF => exact (fun _ _ => trivial)); (case aO => exact (Law.rg HO_5.out)); (case aS => exact (keep_size (w := w) (g := g) (row := none) (Law.kg HK))); (case aL => have := LMc34.out; omega); intro v251 w35 ho hb hg hat; rw [← Ny250.out] at ho; have HO252 := Aside0.mk (ho); replace HB := Aside0.mk (below_weaken (Law.bi HB (IsS111.ge HI0.out)) HL.out hb); replace HI0 := Aside0.mk (IsS111.grown (IsS111.ig HI0) hg (IsS111.own_ne HI0.out HO_5.out (by decide))); replace HK := Aside0.mk (KeepBut.trans (Law.kg HK) (KeepBut.of_grown hg g) (Kd.R_base2 HO_5.out)); clear HO_5; clear ho hb hg hat))
        go_roundg k1
        case measure => have := HK1.out; omega
        case rel => exact ⟨(y250), (wrap64 (1 + (Int.tmod x8_1 2))), (wrap64 (x8_1 + 1)), (x1001_1), (x1002_1), (by first | rfl | (simp; done) | (simp [*]; done)), (by first | rfl | (simp; done) | (simp [*]; done)), H', ⟨by have := HK1.out; omega⟩, ⟨by (with_reducible repeat (first | apply Kd.R_alloc | apply Kd.R_drewN | apply Kd.R_drew)); exact HO252.out⟩, ⟨by exact IsS111.ig HI0⟩, ⟨by exact Law.kg HK⟩, ⟨by exact Law.bi HB (IsS111.ge HI0.out)⟩⟩
       ·rw [if_neg c34] at H
        exact absurd H (by simp)
     ·rw [if_neg c24] at H
      have c24b0 : (t223 == 1) = false := beq_eq_false_iff_ne.mpr c24
      have c24b1 : (t223 != 1) = true := bne_iff_ne.mpr c24
      by_cases c36 : t223 = 2
      ·rw [if_pos c36] at H
       have c36b0 : (t223 == 2) = true := beq_iff_eq.mpr c36
       have c36b1 : (t223 != 2) = false := bne_eq_false_iff_eq.mpr c36
       clear c36
       by_cases c37 : t223 = 4
       ·rw [if_pos c37] at H
        have c37b0 : (t223 == 4) = true := beq_iff_eq.mpr c37
        have c37b1 : (t223 != 4) = false := bne_eq_false_iff_eq.mpr c37
        clear c37
        replace H := Option.bind_eq_some_iff.mp H
        obtain ⟨⟨t253, t254, t255⟩, A380, H⟩ := H
        replace H : (if t253 = 0 then (if x5_1.length < 17592186044416 then (spec_l3DrawCounts.l0 k1 a1 (x5_1 ++ [65535]) t223 65535 (wrap64 (x8_1 + 1)) s0_0 t254 t255) else (none)) else (if x5_1.length < 17592186044416 then (spec_l3DrawCounts.l0 k1 a1 (x5_1 ++ [Int.tmod (Int.tmod x8_1 3) 2]) t223 (Int.tmod (Int.tmod x8_1 3) 2) (wrap64 (x8_1 + 1)) s0_0 t254 t255) else (none))) = some (r1, r2, r3) := H
        have A38 := Aside0.mk A380
        clear A380
        by_cases c39 : t253 = 0
        ·rw [if_pos c39] at H
         have c39b0 : (t253 == 0) = true := beq_iff_eq.mpr c39
         have c39b1 : (t253 != 0) = false := bne_eq_false_iff_eq.mpr c39
         clear c39
         by_cases c40 : x5_1.length < 17592186044416
         ·rw [if_pos c40] at H
          have LMc40 := Aside0.mk c40
          clear c40
          obtain ⟨y256, hy256⟩ : ∃ y_ : List Int, y_ = (x5_1 ++ [65535]) := ⟨_, rfl⟩
          replace H : (spec_l3DrawCounts.l0 k1 a1 y256 t223 65535 (wrap64 (x8_1 + 1)) s0_0 t254 t255) = some (r1, r2, r3) := by first | (rw [hy256]; with_reducible exact H) | (have H2_ := (Option.bind_some _ _).symm.trans H; rw [hy256]; with_reducible exact H2_) | (have H2_ := (Option.bind_some _ _).symm.trans H; with_reducible exact H2_) | with_reducible exact H | (rw [hy256]; exact H) | exact H
          have Ny256 := Aside0.mk hy256
          clear hy256
          have H' := Aside0.mk H
          clear H
          go_wp2_with (first | (go_at_call 91; (with_reducible refine (spec_l1Next.calls g s0_0 x1001_1 x1002_1 40 t253 t254 t255 w0 _ ?side1 ?side2 A38.out).mono ?_); (case side1 => exact IsS111.ig HI0); (case side2 => exact Law.bi HB (IsS111.ge HI0.out)); rintro e w41 ⟨rfl, hi, hb, hk⟩; replace HO_5 := Aside0.mk (Kd.R_mono (Kd.R_keep (IsS111.apart (show IsS111 w0 _ g s0_0 x1001_1 x1002_1 from by exact IsS111.ig HI0) (Law.rg HO_5.out) (by decide)) hk (fun _ h => h.2)) (fun _ h => h.1)); replace HK := Aside0.mk (KeepBut.trans (Law.kg HK) hk (.inl rfl)); replace HB := Aside0.mk (hb); replace HI0 := Aside0.mk (hi); (try clear hb); (try clear hk); (try clear hi)) | ((with_reducible refine gate_builtin (b := .append) (xs := #[.tmp 43, .tmp 45]) rfl ?_); at_builtin; refine Kd.R_append (Kd.int .i64) w.heap.size rfl (.tmp 43) (.tmp 45) 24 2 (.int .i64 0) 8 rfl Try.underlying24 info2 rfl (by decide) (by omega) u5 x5_1 65535 [.int .i64 65535] (fun _ => True) (fun _ => False) rfl rfl ?aP (fun _ hk => hk.elim) ?aF ?aO (Below.refl _ _) ?aS ?aL ?_; (case aP => exact rfl); (case aF => exact (fun _ _ => trivial)); (case aO => exact (Law.rg HO_5.out)); (case aS => exact (keep_size (w := w) (g := g) (row := none) (Law.kg HK))); (case aL => have := LMc40.out; omega); intro v257 w42 ho hb hg hat; rw [← Ny256.out] at ho; have HO258 := Aside0.mk (ho); replace HB := Aside0.mk (below_weaken (Law.bi HB (IsS111.ge HI0.out)) HL.out hb); replace HI0 := Aside0.mk (IsS111.grown (IsS111.ig HI0) hg (IsS111.own_ne HI0.out HO_5.out (by decide))); replace HK := Aside0.mk (KeepBut.trans (Law.kg HK) (KeepBut.of_grown hg g) (Kd.R_base2 HO_5.out)); clear HO_5; clear ho hb hg hat))
          go_roundg k1
          case measure => have := HK1.out; omega
          case rel => exact ⟨(y256), (65535), (wrap64 (x8_1 + 1)), (t254), (t255), (by first | rfl | (simp; done) | (simp [*]; done)), (by first | rfl | (simp; done) | (simp [*]; done)), H', ⟨by have := HK1.out; omega⟩, ⟨by (with_reducible repeat (first | apply Kd.R_alloc | apply Kd.R_drewN | apply Kd.R_drew)); exact HO258.out⟩, ⟨by exact IsS111.ig HI0⟩, ⟨by exact Law.kg HK⟩, ⟨by exact Law.bi HB (IsS111.ge HI0.out)⟩⟩
         ·rw [if_neg c40] at H
          exact absurd H (by simp)
        ·rw [if_neg c39] at H
         have c39b0 : (t253 == 0) = false := beq_eq_false_iff_ne.mpr c39
         have c39b1 : (t253 != 0) = true := bne_iff_ne.mpr c39
         by_cases c43 : x5_1.length < 17592186044416
         ·rw [if_pos c43] at H
          have LMc43 := Aside0.mk c43
          clear c43
          obtain ⟨y259, hy259⟩ : ∃ y_ : List Int, y_ = (x5_1 ++ [Int.tmod (Int.tmod x8_1 3) 2]) := ⟨_, rfl⟩
          replace H : (spec_l3DrawCounts.l0 k1 a1 y259 t223 (Int.tmod (Int.tmod x8_1 3) 2) (wrap64 (x8_1 + 1)) s0_0 t254 t255) = some (r1, r2, r3) := by first | (rw [hy259]; with_reducible exact H) | (have H2_ := (Option.bind_some _ _).symm.trans H; rw [hy259]; with_reducible exact H2_) | (have H2_ := (Option.bind_some _ _).symm.trans H; with_reducible exact H2_) | with_reducible exact H | (rw [hy259]; exact H) | exact H
          have Ny259 := Aside0.mk hy259
          clear hy259
          have H' := Aside0.mk H
          clear H
          go_wp2_with (first | (go_at_call 91; (with_reducible refine (spec_l1Next.calls g s0_0 x1001_1 x1002_1 40 t253 t254 t255 w0 _ ?side1 ?side2 A38.out).mono ?_); (case side1 => exact IsS111.ig HI0); (case side2 => exact Law.bi HB (IsS111.ge HI0.out)); rintro e w44 ⟨rfl, hi, hb, hk⟩; replace HO_5 := Aside0.mk (Kd.R_mono (Kd.R_keep (IsS111.apart (show IsS111 w0 _ g s0_0 x1001_1 x1002_1 from by exact IsS111.ig HI0) (Law.rg HO_5.out) (by decide)) hk (fun _ h => h.2)) (fun _ h => h.1)); replace HK := Aside0.mk (KeepBut.trans (Law.kg HK) hk (.inl rfl)); replace HB := Aside0.mk (hb); replace HI0 := Aside0.mk (hi); (try clear hb); (try clear hk); (try clear hi)) | ((with_reducible refine gate_builtin (b := .append) (xs := #[.tmp 43, .tmp 45]) rfl ?_); at_builtin; refine Kd.R_append (Kd.int .i64) w.heap.size rfl (.tmp 43) (.tmp 45) 24 2 (.int .i64 0) 8 rfl Try.underlying24 info2 rfl (by decide) (by omega) u5 x5_1 (Int.tmod (Int.tmod x8_1 3) 2) [.int .i64 (Int.tmod (Int.tmod x8_1 3) 2)] (fun _ => True) (fun _ => False) rfl rfl ?aP (fun _ hk => hk.elim) ?aF ?aO (Below.refl _ _) ?aS ?aL ?_; (case aP => exact rfl); (case aF => exact (fun _ _ => trivial)); (case aO => exact (Law.rg HO_5.out)); (case aS => exact (keep_size (w := w) (g := g) (row := none) (Law.kg HK))); (case aL => have := LMc43.out; omega); intro v260 w45 ho hb hg hat; rw [← Ny259.out] at ho; have HO261 := Aside0.mk (ho); replace HB := Aside0.mk (below_weaken (Law.bi HB (IsS111.ge HI0.out)) HL.out hb); replace HI0 := Aside0.mk (IsS111.grown (IsS111.ig HI0) hg (IsS111.own_ne HI0.out HO_5.out (by decide))); replace HK := Aside0.mk (KeepBut.trans (Law.kg HK) (KeepBut.of_grown hg g) (Kd.R_base2 HO_5.out)); clear HO_5; clear ho hb hg hat))
          go_roundg k1
          case measure => have := HK1.out; omega
          case rel => exact ⟨(y259), (Int.tmod (Int.tmod x8_1 3) 2), (wrap64 (x8_1 + 1)), (t254), (t255), (by first | rfl | (simp; done) | (simp [*]; done)), (by first | rfl | (simp; done) | (simp [*]; done)), H', ⟨by have := HK1.out; omega⟩, ⟨by (with_reducible repeat (first | apply Kd.R_alloc | apply Kd.R_drewN | apply Kd.R_drew)); exact HO261.out⟩, ⟨by exact IsS111.ig HI0⟩, ⟨by exact Law.kg HK⟩, ⟨by exact Law.bi HB (IsS111.ge HI0.out)⟩⟩
         ·rw [if_neg c43] at H
          exact absurd H (by simp)
       ·rw [if_neg c37] at H
        have c37b0 : (t223 == 4) = false := beq_eq_false_iff_ne.mpr c37
        have c37b1 : (t223 != 4) = true := bne_iff_ne.mpr c37
        by_cases c46 : x5_1.length < 17592186044416
        ·rw [if_pos c46] at H
         have LMc46 := Aside0.mk c46
         clear c46
         obtain ⟨y262, hy262⟩ : ∃ y_ : List Int, y_ = (x5_1 ++ [Int.tmod (Int.tmod x8_1 3) 2]) := ⟨_, rfl⟩
         replace H : (spec_l3DrawCounts.l0 k1 a1 y262 t223 (Int.tmod (Int.tmod x8_1 3) 2) (wrap64 (x8_1 + 1)) s0_0 x1001_1 x1002_1) = some (r1, r2, r3) := by first | (rw [hy262]; with_reducible exact H) | (have H2_ := (Option.bind_some _ _).symm.trans H; rw [hy262]; with_reducible exact H2_) | (have H2_ := (Option.bind_some _ _).symm.trans H; with_reducible exact H2_) | with_reducible exact H | (rw [hy262]; exact H) | exact H
         have Ny262 := Aside0.mk hy262
         clear hy262
         have H' := Aside0.mk H
         clear H
         go_wp2_with (first | ((with_reducible refine gate_builtin (b := .append) (xs := #[.tmp 43, .tmp 45]) rfl ?_); at_builtin; refine Kd.R_append (Kd.int .i64) w.heap.size rfl (.tmp 43) (.tmp 45) 24 2 (.int .i64 0) 8 rfl Try.underlying24 info2 rfl (by decide) (by omega) u5 x5_1 (Int.tmod (Int.tmod x8_1 3) 2) [.int .i64 (Int.tmod (Int.tmod x8_1 3) 2)] (fun _ => True) (fun _ => False) rfl rfl ?aP (fun _ hk => hk.elim) ?aF ?aO (Below.refl _ _) ?aS ?aL ?_; (case aP => exact rfl); (case aF => exact (fun _ _ => trivial)); (case aO => exact (Law.rg HO_5.out)); (case aS => exact (keep_size (w := w) (g := g) (row := none) (Law.kg HK))); (case aL => have := LMc46.out; omega); intro v263 w47 ho hb hg hat; rw [← Ny262.out] at ho; have HO264 := Aside0.mk (ho); replace HB := Aside0.mk (below_weaken (Law.bi HB (IsS111.ge HI0.out)) HL.out hb); replace HI0 := Aside0.mk (IsS111.grown (IsS111.ig HI0) hg (IsS111.own_ne HI0.out HO_5.out (by decide))); replace HK := Aside0.mk (KeepBut.trans (Law.kg HK) (KeepBut.of_grown hg g) (Kd.R_base2 HO_5.out)); clear HO_5; clear ho hb hg hat))
         go_roundg k1
         case measure => have := HK1.out; omega
         case rel => exact ⟨(y262), (Int.tmod (Int.tmod x8_1 3) 2), (wrap64 (x8_1 + 1)), (x1001_1), (x1002_1), (by first | rfl | (simp; done) | (simp [*]; done)), (by first | rfl | (simp; done) | (simp [*]; done)), H', ⟨by have := HK1.out; omega⟩, ⟨by (with_reducible repeat (first | apply Kd.R_alloc | apply Kd.R_drewN | apply Kd.R_drew)); exact HO264.out⟩, ⟨by exact IsS111.ig HI0⟩, ⟨by exact Law.kg HK⟩, ⟨by exact Law.bi HB (IsS111.ge HI0.out)⟩⟩
        ·rw [if_neg c46] at H
         exact absurd H (by simp)
      ·rw [if_neg c36] at H
       have c36b0 : (t223 == 2) = false := beq_eq_false_iff_ne.mpr c36
       have c36b1 : (t223 != 2) = true := bne_iff_ne.mpr c36
       replace H := Option.bind_eq_some_iff.mp H
       obtain ⟨⟨t265, t266, t267⟩, A480, H⟩ := H
       replace H : (if t265 = 0 then ((spec_l1Next.f s0_0 t266 t267 3).bind fun bt268 => (if t223 = 4 then ((spec_l1Next.f s0_0 bt268.2.1 bt268.2.2 40).bind fun bt271 => (if bt271.1 = 0 then (if x5_1.length < 17592186044416 then (spec_l3DrawCounts.l0 k1 a1 (x5_1 ++ [65535]) t223 65535 (wrap64 (x8_1 + 1)) s0_0 bt271.2.1 bt271.2.2) else (none)) else (if x5_1.length < 17592186044416 then (spec_l3DrawCounts.l0 k1 a1 (x5_1 ++ [bt268.1]) t223 bt268.1 (wrap64 (x8_1 + 1)) s0_0 bt271.2.1 bt271.2.2) else (none)))) else (if x5_1.length < 17592186044416 then (spec_l3DrawCounts.l0 k1 a1 (x5_1 ++ [bt268.1]) t223 bt268.1 (wrap64 (x8_1 + 1)) s0_0 bt268.2.1 bt268.2.2) else (none)))) else (if t223 = 4 then ((spec_l1Next.f s0_0 t266 t267 40).bind fun bt283 => (if bt283.1 = 0 then (if x5_1.length < 17592186044416 then (spec_l3DrawCounts.l0 k1 a1 (x5_1 ++ [65535]) t223 65535 (wrap64 (x8_1 + 1)) s0_0 bt283.2.1 bt283.2.2) else (none)) else (if x5_1.length < 17592186044416 then (spec_l3DrawCounts.l0 k1 a1 (x5_1 ++ [x7_1]) t223 x7_1 (wrap64 (x8_1 + 1)) s0_0 bt283.2.1 bt283.2.2) else (none)))) else (if x5_1.length < 17592186044416 then (spec_l3DrawCounts.l0 k1 a1 (x5_1 ++ [x7_1]) t223 x7_1 (wrap64 (x8_1 + 1)) s0_0 t266 t267) else (none)))) = some (r1, r2, r3) := H
       have A48 := Aside0.mk A480
       clear A480
       by_cases c49 : t265 = 0
       ·rw [if_pos c49] at H
        have c49b0 : (t265 == 0) = true := beq_iff_eq.mpr c49
        have c49b1 : (t265 != 0) = false := bne_eq_false_iff_eq.mpr c49
        clear c49
        replace H := Option.bind_eq_some_iff.mp H
        obtain ⟨⟨t268, t269, t270⟩, A500, H⟩ := H
        replace H : (if t223 = 4 then ((spec_l1Next.f s0_0 t269 t270 40).bind fun bt271 => (if bt271.1 = 0 then (if x5_1.length < 17592186044416 then (spec_l3DrawCounts.l0 k1 a1 (x5_1 ++ [65535]) t223 65535 (wrap64 (x8_1 + 1)) s0_0 bt271.2.1 bt271.2.2) else (none)) else (if x5_1.length < 17592186044416 then (spec_l3DrawCounts.l0 k1 a1 (x5_1 ++ [t268]) t223 t268 (wrap64 (x8_1 + 1)) s0_0 bt271.2.1 bt271.2.2) else (none)))) else (if x5_1.length < 17592186044416 then (spec_l3DrawCounts.l0 k1 a1 (x5_1 ++ [t268]) t223 t268 (wrap64 (x8_1 + 1)) s0_0 t269 t270) else (none))) = some (r1, r2, r3) := H
        have A50 := Aside0.mk A500
        clear A500
        by_cases c51 : t223 = 4
        ·rw [if_pos c51] at H
         have c51b0 : (t223 == 4) = true := beq_iff_eq.mpr c51
         have c51b1 : (t223 != 4) = false := bne_eq_false_iff_eq.mpr c51
         clear c51
         replace H := Option.bind_eq_some_iff.mp H
         obtain ⟨⟨t271, t272, t273⟩, A520, H⟩ := H
         replace H : (if t271 = 0 then (if x5_1.length < 17592186044416 then (spec_l3DrawCounts.l0 k1 a1 (x5_1 ++ [65535]) t223 65535 (wrap64 (x8_1 + 1)) s0_0 t272 t273) else (none)) else (if x5_1.length < 17592186044416 then (spec_l3DrawCounts.l0 k1 a1 (x5_1 ++ [t268]) t223 t268 (wrap64 (x8_1 + 1)) s0_0 t272 t273) else (none))) = some (r1, r2, r3) := H
         have A52 := Aside0.mk A520
         clear A520
         by_cases c53 : t271 = 0
         ·rw [if_pos c53] at H
          have c53b0 : (t271 == 0) = true := beq_iff_eq.mpr c53
          have c53b1 : (t271 != 0) = false := bne_eq_false_iff_eq.mpr c53
          clear c53
          by_cases c54 : x5_1.length < 17592186044416
          ·rw [if_pos c54] at H
           have LMc54 := Aside0.mk c54
           clear c54
           obtain ⟨y274, hy274⟩ : ∃ y_ : List Int, y_ = (x5_1 ++ [65535]) := ⟨_, rfl⟩
           replace H : (spec_l3DrawCounts.l0 k1 a1 y274 t223 65535 (wrap64 (x8_1 + 1)) s0_0 t272 t273) = some (r1, r2, r3) := by first | (rw [hy274]; with_reducible exact H) | (have H2_ := (Option.bind_some _ _).symm.trans H; rw [hy274]; with_reducible exact H2_) | (have H2_ := (Option.bind_some _ _).symm.trans H; with_reducible exact H2_) | with_reducible exact H | (rw [hy274]; exact H) | exact H
           have Ny274 := Aside0.mk hy274
           clear hy274
           have H' := Aside0.mk H
           clear H
           go_wp2_with (first | ((with_reducible refine gate_callee (f := 91) rfl ?_); refine goesL_ (some 32) rfl rfl Try.func91 (by kernel_rfl) rfl #[.pointer (some ⟨g, 0, none⟩), .int .i64 4] rfl (by (try simp only [List.map_toArray, List.map_cons, List.map_nil]); first | done | rfl | (simp only [List.length_drop, List.length_take]; rfl)) ?_; (with_reducible refine (spec_l1Next.calls g s0_0 x1001_1 x1002_1 4 t265 t266 t267 w0 _ ?side1 ?side2 A48.out).mono ?_); (case side1 => exact IsS111.ig HI0); (case side2 => exact Law.bi HB (IsS111.ge HI0.out)); rintro e w55 ⟨rfl, hi, hb, hk⟩; refine ⟨_, rfl, ?_⟩; replace HO_5 := Aside0.mk (Kd.R_mono (Kd.R_keep (IsS111.apart (show IsS111 w0 _ g s0_0 x1001_1 x1002_1 from by exact IsS111.ig HI0) (Law.rg HO_5.out) (by decide)) hk (fun _ h => h.2)) (fun _ h => h.1)); replace HK := Aside0.mk (KeepBut.trans (Law.kg HK) hk (.inl rfl)); replace HB := Aside0.mk (hb); replace HI0 := Aside0.mk (hi); (try clear hb); (try clear hk); (try clear hi)) | ((with_reducible refine gate_callee (f := 91) rfl ?_); refine goesL_ (some 35) rfl rfl Try.func91 (by kernel_rfl) rfl #[.pointer (some ⟨g, 0, none⟩), .int .i64 3] rfl (by (try simp only [List.map_toArray, List.map_cons, List.map_nil]); first | done | rfl | (simp only [List.length_drop, List.length_take]; rfl)) ?_; (with_reducible refine (spec_l1Next.calls g s0_0 t266 t267 3 t268 t269 t270 w0 _ ?side1 ?side2 A50.out).mono ?_); (case side1 => exact IsS111.ig HI0); (case side2 => exact Law.bi HB (IsS111.ge HI0.out)); rintro e w56 ⟨rfl, hi, hb, hk⟩; refine ⟨_, rfl, ?_⟩; replace HO_5 := Aside0.mk (Kd.R_mono (Kd.R_keep (IsS111.apart (show IsS111 w0 _ g s0_0 t266 t267 from by exact IsS111.ig HI0) (Law.rg HO_5.out) (by decide)) hk (fun _ h => h.2)) (fun _ h => h.1)); replace HK := Aside0.mk (KeepBut.trans (Law.kg HK) hk (.inl rfl)); replace HB := Aside0.mk (hb); replace HI0 := Aside0.mk (hi); (try clear hb); (try clear hk); (try clear hi)) | (go_at_call 91; (with_reducible refine (spec_l1Next.calls g s0_0 t269 t270 40 t271 t272 t273 w0 _ ?side1 ?side2 A52.out).mono ?_); (case side1 => exact IsS111.ig HI0); (case side2 => exact Law.bi HB (IsS111.ge HI0.out)); rintro e w57 ⟨rfl, hi, hb, hk⟩; replace HO_5 := Aside0.mk (Kd.R_mono (Kd.R_keep (IsS111.apart (show IsS111 w0 _ g s0_0 t269 t270 from by exact IsS111.ig HI0) (Law.rg HO_5.out) (by decide)) hk (fun _ h => h.2)) (fun _ h => h.1)); replace HK := Aside0.mk (KeepBut.trans (Law.kg HK) hk (.inl rfl)); replace HB := Aside0.mk (hb); replace HI0 := Aside0.mk (hi); (try clear hb); (try clear hk); (try clear hi)) | ((with_reducible refine gate_builtin (b := .append) (xs := #[.tmp 43, .tmp 45]) rfl ?_); at_builtin; refine Kd.R_append (Kd.int .i64) w.heap.size rfl (.tmp 43) (.tmp 45) 24 2 (.int .i64 0) 8 rfl Try.underlying24 info2 rfl (by decide) (by omega) u5 x5_1 65535 [.int .i64 65535] (fun _ => True) (fun _ => False) rfl rfl ?aP (fun _ hk => hk.elim) ?aF ?aO (Below.refl _ _) ?aS ?aL ?_; (case aP => exact rfl); (case aF => exact (fun _ _ => trivial)); (case aO => exact (Law.rg HO_5.out)); (case aS => exact (keep_size (w := w) (g := g) (row := none) (Law.kg HK))); (case aL => have := LMc54.out; omega); intro v275 w58 ho hb hg hat; rw [← Ny274.out] at ho; have HO276 := Aside0.mk (ho); replace HB := Aside0.mk (below_weaken (Law.bi HB (IsS111.ge HI0.out)) HL.out hb); replace HI0 := Aside0.mk (IsS111.grown (IsS111.ig HI0) hg (IsS111.own_ne HI0.out HO_5.out (by decide))); replace HK := Aside0.mk (KeepBut.trans (Law.kg HK) (KeepBut.of_grown hg g) (Kd.R_base2 HO_5.out)); clear HO_5; clear ho hb hg hat))
           go_roundg k1
           case measure => have := HK1.out; omega
           case rel => exact ⟨(y274), (65535), (wrap64 (x8_1 + 1)), (t272), (t273), (by first | rfl | (simp; done) | (simp [*]; done)), (by first | rfl | (simp; done) | (simp [*]; done)), H', ⟨by have := HK1.out; omega⟩, ⟨by (with_reducible repeat (first | apply Kd.R_alloc | apply Kd.R_drewN | apply Kd.R_drew)); exact HO276.out⟩, ⟨by exact IsS111.ig HI0⟩, ⟨by exact Law.kg HK⟩, ⟨by exact Law.bi HB (IsS111.ge HI0.out)⟩⟩
          ·rw [if_neg c54] at H
           exact absurd H (by simp)
         ·rw [if_neg c53] at H
          have c53b0 : (t271 == 0) = false := beq_eq_false_iff_ne.mpr c53
          have c53b1 : (t271 != 0) = true := bne_iff_ne.mpr c53
          by_cases c59 : x5_1.length < 17592186044416
          ·rw [if_pos c59] at H
           have LMc59 := Aside0.mk c59
           clear c59
           obtain ⟨y277, hy277⟩ : ∃ y_ : List Int, y_ = (x5_1 ++ [t268]) := ⟨_, rfl⟩
           replace H : (spec_l3DrawCounts.l0 k1 a1 y277 t223 t268 (wrap64 (x8_1 + 1)) s0_0 t272 t273) = some (r1, r2, r3) := by first | (rw [hy277]; with_reducible exact H) | (have H2_ := (Option.bind_some _ _).symm.trans H; rw [hy277]; with_reducible exact H2_) | (have H2_ := (Option.bind_some _ _).symm.trans H; with_reducible exact H2_) | with_reducible exact H | (rw [hy277]; exact H) | exact H
           have Ny277 := Aside0.mk hy277
           clear hy277
           have H' := Aside0.mk H
           clear H
           go_wp2_with (first | ((with_reducible refine gate_callee (f := 91) rfl ?_); refine goesL_ (some 32) rfl rfl Try.func91 (by kernel_rfl) rfl #[.pointer (some ⟨g, 0, none⟩), .int .i64 4] rfl (by (try simp only [List.map_toArray, List.map_cons, List.map_nil]); first | done | rfl | (simp only [List.length_drop, List.length_take]; rfl)) ?_; (with_reducible refine (spec_l1Next.calls g s0_0 x1001_1 x1002_1 4 t265 t266 t267 w0 _ ?side1 ?side2 A48.out).mono ?_); (case side1 => exact IsS111.ig HI0); (case side2 => exact Law.bi HB (IsS111.ge HI0.out)); rintro e w60 ⟨rfl, hi, hb, hk⟩; refine ⟨_, rfl, ?_⟩; replace HO_5 := Aside0.mk (Kd.R_mono (Kd.R_keep (IsS111.apart (show IsS111 w0 _ g s0_0 x1001_1 x1002_1 from by exact IsS111.ig HI0) (Law.rg HO_5.out) (by decide)) hk (fun _ h => h.2)) (fun _ h => h.1)); replace HK := Aside0.mk (KeepBut.trans (Law.kg HK) hk (.inl rfl)); replace HB := Aside0.mk (hb); replace HI0 := Aside0.mk (hi); (try clear hb); (try clear hk); (try clear hi)) | ((with_reducible refine gate_callee (f := 91) rfl ?_); refine goesL_ (some 35) rfl rfl Try.func91 (by kernel_rfl) rfl #[.pointer (some ⟨g, 0, none⟩), .int .i64 3] rfl (by (try simp only [List.map_toArray, List.map_cons, List.map_nil]); first | done | rfl | (simp only [List.length_drop, List.length_take]; rfl)) ?_; (with_reducible refine (spec_l1Next.calls g s0_0 t266 t267 3 t268 t269 t270 w0 _ ?side1 ?side2 A50.out).mono ?_); (case side1 => exact IsS111.ig HI0); (case side2 => exact Law.bi HB (IsS111.ge HI0.out)); rintro e w61 ⟨rfl, hi, hb, hk⟩; refine ⟨_, rfl, ?_⟩; replace HO_5 := Aside0.mk (Kd.R_mono (Kd.R_keep (IsS111.apart (show IsS111 w0 _ g s0_0 t266 t267 from by exact IsS111.ig HI0) (Law.rg HO_5.out) (by decide)) hk (fun _ h => h.2)) (fun _ h => h.1)); replace HK := Aside0.mk (KeepBut.trans (Law.kg HK) hk (.inl rfl)); replace HB := Aside0.mk (hb); replace HI0 := Aside0.mk (hi); (try clear hb); (try clear hk); (try clear hi)) | (go_at_call 91; (with_reducible refine (spec_l1Next.calls g s0_0 t269 t270 40 t271 t272 t273 w0 _ ?side1 ?side2 A52.out).mono ?_); (case side1 => exact IsS111.ig HI0); (case side2 => exact Law.bi HB (IsS111.ge HI0.out)); rintro e w62 ⟨rfl, hi, hb, hk⟩; replace HO_5 := Aside0.mk (Kd.R_mono (Kd.R_keep (IsS111.apart (show IsS111 w0 _ g s0_0 t269 t270 from by exact IsS111.ig HI0) (Law.rg HO_5.out) (by decide)) hk (fun _ h => h.2)) (fun _ h => h.1)); replace HK := Aside0.mk (KeepBut.trans (Law.kg HK) hk (.inl rfl)); replace HB := Aside0.mk (hb); replace HI0 := Aside0.mk (hi); (try clear hb); (try clear hk); (try clear hi)) | ((with_reducible refine gate_builtin (b := .append) (xs := #[.tmp 43, .tmp 45]) rfl ?_); at_builtin; refine Kd.R_append (Kd.int .i64) w.heap.size rfl (.tmp 43) (.tmp 45) 24 2 (.int .i64 0) 8 rfl Try.underlying24 info2 rfl (by decide) (by omega) u5 x5_1 t268 [.int .i64 t268] (fun _ => True) (fun _ => False) rfl rfl ?aP (fun _ hk => hk.elim) ?aF ?aO (Below.refl _ _) ?aS ?aL ?_; (case aP => exact rfl); (case aF => exact (fun _ _ => trivial)); (case aO => exact (Law.rg HO_5.out)); (case aS => exact (keep_size (w := w) (g := g) (row := none) (Law.kg HK))); (case aL => have := LMc59.out; omega); intro v278 w63 ho hb hg hat; rw [← Ny277.out] at ho; have HO279 := Aside0.mk (ho); replace HB := Aside0.mk (below_weaken (Law.bi HB (IsS111.ge HI0.out)) HL.out hb); replace HI0 := Aside0.mk (IsS111.grown (IsS111.ig HI0) hg (IsS111.own_ne HI0.out HO_5.out (by decide))); replace HK := Aside0.mk (KeepBut.trans (Law.kg HK) (KeepBut.of_grown hg g) (Kd.R_base2 HO_5.out)); clear HO_5; clear ho hb hg hat))
           go_roundg k1
           case measure => have := HK1.out; omega
           case rel => exact ⟨(y277), (t268), (wrap64 (x8_1 + 1)), (t272), (t273), (by first | rfl | (simp; done) | (simp [*]; done)), (by first | rfl | (simp; done) | (simp [*]; done)), H', ⟨by have := HK1.out; omega⟩, ⟨by (with_reducible repeat (first | apply Kd.R_alloc | apply Kd.R_drewN | apply Kd.R_drew)); exact HO279.out⟩, ⟨by exact IsS111.ig HI0⟩, ⟨by exact Law.kg HK⟩, ⟨by exact Law.bi HB (IsS111.ge HI0.out)⟩⟩
          ·rw [if_neg c59] at H
           exact absurd H (by simp)
        ·rw [if_neg c51] at H
         have c51b0 : (t223 == 4) = false := beq_eq_false_iff_ne.mpr c51
         have c51b1 : (t223 != 4) = true := bne_iff_ne.mpr c51
         by_cases c64 : x5_1.length < 17592186044416
         ·rw [if_pos c64] at H
          have LMc64 := Aside0.mk c64
          clear c64
          obtain ⟨y280, hy280⟩ : ∃ y_ : List Int, y_ = (x5_1 ++ [t268]) := ⟨_, rfl⟩
          replace H : (spec_l3DrawCounts.l0 k1 a1 y280 t223 t268 (wrap64 (x8_1 + 1)) s0_0 t269 t270) = some (r1, r2, r3) := by first | (rw [hy280]; with_reducible exact H) | (have H2_ := (Option.bind_some _ _).symm.trans H; rw [hy280]; with_reducible exact H2_) | (have H2_ := (Option.bind_some _ _).symm.trans H; with_reducible exact H2_) | with_reducible exact H | (rw [hy280]; exact H) | exact H
          have Ny280 := Aside0.mk hy280
          clear hy280
          have H' := Aside0.mk H
          clear H
          go_wp2_with (first | ((with_reducible refine gate_callee (f := 91) rfl ?_); refine goesL_ (some 32) rfl rfl Try.func91 (by kernel_rfl) rfl #[.pointer (some ⟨g, 0, none⟩), .int .i64 4] rfl (by (try simp only [List.map_toArray, List.map_cons, List.map_nil]); first | done | rfl | (simp only [List.length_drop, List.length_take]; rfl)) ?_; (with_reducible refine (spec_l1Next.calls g s0_0 x1001_1 x1002_1 4 t265 t266 t267 w0 _ ?side1 ?side2 A48.out).mono ?_); (case side1 => exact IsS111.ig HI0); (case side2 => exact Law.bi HB (IsS111.ge HI0.out)); rintro e w65 ⟨rfl, hi, hb, hk⟩; refine ⟨_, rfl, ?_⟩; replace HO_5 := Aside0.mk (Kd.R_mono (Kd.R_keep (IsS111.apart (show IsS111 w0 _ g s0_0 x1001_1 x1002_1 from by exact IsS111.ig HI0) (Law.rg HO_5.out) (by decide)) hk (fun _ h => h.2)) (fun _ h => h.1)); replace HK := Aside0.mk (KeepBut.trans (Law.kg HK) hk (.inl rfl)); replace HB := Aside0.mk (hb); replace HI0 := Aside0.mk (hi); (try clear hb); (try clear hk); (try clear hi)) | ((with_reducible refine gate_callee (f := 91) rfl ?_); refine goesL_ (some 35) rfl rfl Try.func91 (by kernel_rfl) rfl #[.pointer (some ⟨g, 0, none⟩), .int .i64 3] rfl (by (try simp only [List.map_toArray, List.map_cons, List.map_nil]); first | done | rfl | (simp only [List.length_drop, List.length_take]; rfl)) ?_; (with_reducible refine (spec_l1Next.calls g s0_0 t266 t267 3 t268 t269 t270 w0 _ ?side1 ?side2 A50.out).mono ?_); (case side1 => exact IsS111.ig HI0); (case side2 => exact Law.bi HB (IsS111.ge HI0.out)); rintro e w66 ⟨rfl, hi, hb, hk⟩; refine ⟨_, rfl, ?_⟩; replace HO_5 := Aside0.mk (Kd.R_mono (Kd.R_keep (IsS111.apart (show IsS111 w0 _ g s0_0 t266 t267 from by exact IsS111.ig HI0) (Law.rg HO_5.out) (by decide)) hk (fun _ h => h.2)) (fun _ h => h.1)); replace HK := Aside0.mk (KeepBut.trans (Law.kg HK) hk (.inl rfl)); replace HB := Aside0.mk (hb); replace HI0 := Aside0.mk (hi); (try clear hb); (try clear hk); (try clear hi)) | ((with_reducible refine gate_builtin (b := .append) (xs := #[.tmp 43, .tmp 45]) rfl ?_); at_builtin; refine Kd.R_append (Kd.int .i64) w.heap.size rfl (.tmp 43) (.tmp 45) 24 2 (.int .i64 0) 8 rfl Try.underlying24 info2 rfl (by decide) (by omega) u5 x5_1 t268 [.int .i64 t268] (fun _ => True) (fun _ => False) rfl rfl ?aP (fun _ hk => hk.elim) ?aF ?aO (Below.refl _ _) ?aS ?aL ?_; (case aP => exact rfl); (case aF => exact (fun _ _ => trivial)); (case aO => exact (Law.rg HO_5.out)); (case aS => exact (keep_size (w := w) (g := g) (row := none) (Law.kg HK))); (case aL => have := LMc64.out; omega); intro v281 w67 ho hb hg hat; rw [← Ny280.out] at ho; have HO282 := Aside0.mk (ho); replace HB := Aside0.mk (below_weaken (Law.bi HB (IsS111.ge HI0.out)) HL.out hb); replace HI0 := Aside0.mk (IsS111.grown (IsS111.ig HI0) hg (IsS111.own_ne HI0.out HO_5.out (by decide))); replace HK := Aside0.mk (KeepBut.trans (Law.kg HK) (KeepBut.of_grown hg g) (Kd.R_base2 HO_5.out)); clear HO_5; clear ho hb hg hat))
          go_roundg k1
          case measure => have := HK1.out; omega
          case rel => exact ⟨(y280), (t268), (wrap64 (x8_1 + 1)), (t269), (t270), (by first | rfl | (simp; done) | (simp [*]; done)), (by first | rfl | (simp; done) | (simp [*]; done)), H', ⟨by have := HK1.out; omega⟩, ⟨by (with_reducible repeat (first | apply Kd.R_alloc | apply Kd.R_drewN | apply Kd.R_drew)); exact HO282.out⟩, ⟨by exact IsS111.ig HI0⟩, ⟨by exact Law.kg HK⟩, ⟨by exact Law.bi HB (IsS111.ge HI0.out)⟩⟩
         ·rw [if_neg c64] at H
          exact absurd H (by simp)
       ·rw [if_neg c49] at H
        have c49b0 : (t265 == 0) = false := beq_eq_false_iff_ne.mpr c49
        have c49b1 : (t265 != 0) = true := bne_iff_ne.mpr c49
        by_cases c68 : t223 = 4
        ·rw [if_pos c68] at H
         have c68b0 : (t223 == 4) = true := beq_iff_eq.mpr c68
         have c68b1 : (t223 != 4) = false := bne_eq_false_iff_eq.mpr c68
         clear c68
         replace H := Option.bind_eq_some_iff.mp H
         obtain ⟨⟨t283, t284, t285⟩, A690, H⟩ := H
         replace H : (if t283 = 0 then (if x5_1.length < 17592186044416 then (spec_l3DrawCounts.l0 k1 a1 (x5_1 ++ [65535]) t223 65535 (wrap64 (x8_1 + 1)) s0_0 t284 t285) else (none)) else (if x5_1.length < 17592186044416 then (spec_l3DrawCounts.l0 k1 a1 (x5_1 ++ [x7_1]) t223 x7_1 (wrap64 (x8_1 + 1)) s0_0 t284 t285) else (none))) = some (r1, r2, r3) := H
         have A69 := Aside0.mk A690
         clear A690
         by_cases c70 : t283 = 0
         ·rw [if_pos c70] at H
          have c70b0 : (t283 == 0) = true := beq_iff_eq.mpr c70
          have c70b1 : (t283 != 0) = false := bne_eq_false_iff_eq.mpr c70
          clear c70
          by_cases c71 : x5_1.length < 17592186044416
          ·rw [if_pos c71] at H
           have LMc71 := Aside0.mk c71
           clear c71
           obtain ⟨y286, hy286⟩ : ∃ y_ : List Int, y_ = (x5_1 ++ [65535]) := ⟨_, rfl⟩
           replace H : (spec_l3DrawCounts.l0 k1 a1 y286 t223 65535 (wrap64 (x8_1 + 1)) s0_0 t284 t285) = some (r1, r2, r3) := by first | (rw [hy286]; with_reducible exact H) | (have H2_ := (Option.bind_some _ _).symm.trans H; rw [hy286]; with_reducible exact H2_) | (have H2_ := (Option.bind_some _ _).symm.trans H; with_reducible exact H2_) | with_reducible exact H | (rw [hy286]; exact H) | exact H
           have Ny286 := Aside0.mk hy286
           clear hy286
           have H' := Aside0.mk H
           clear H
           go_wp2_with (first | ((with_reducible refine gate_callee (f := 91) rfl ?_); refine goesL_ (some 32) rfl rfl Try.func91 (by kernel_rfl) rfl #[.pointer (some ⟨g, 0, none⟩), .int .i64 4] rfl (by (try simp only [List.map_toArray, List.map_cons, List.map_nil]); first | done | rfl | (simp only [List.length_drop, List.length_take]; rfl)) ?_; (with_reducible refine (spec_l1Next.calls g s0_0 x1001_1 x1002_1 4 t265 t266 t267 w0 _ ?side1 ?side2 A48.out).mono ?_); (case side1 => exact IsS111.ig HI0); (case side2 => exact Law.bi HB (IsS111.ge HI0.out)); rintro e w72 ⟨rfl, hi, hb, hk⟩; refine ⟨_, rfl, ?_⟩; replace HO_5 := Aside0.mk (Kd.R_mono (Kd.R_keep (IsS111.apart (show IsS111 w0 _ g s0_0 x1001_1 x1002_1 from by exact IsS111.ig HI0) (Law.rg HO_5.out) (by decide)) hk (fun _ h => h.2)) (fun _ h => h.1)); replace HK := Aside0.mk (KeepBut.trans (Law.kg HK) hk (.inl rfl)); replace HB := Aside0.mk (hb); replace HI0 := Aside0.mk (hi); (try clear hb); (try clear hk); (try clear hi)) | (go_at_call 91; (with_reducible refine (spec_l1Next.calls g s0_0 t266 t267 40 t283 t284 t285 w0 _ ?side1 ?side2 A69.out).mono ?_); (case side1 => exact IsS111.ig HI0); (case side2 => exact Law.bi HB (IsS111.ge HI0.out)); rintro e w73 ⟨rfl, hi, hb, hk⟩; replace HO_5 := Aside0.mk (Kd.R_mono (Kd.R_keep (IsS111.apart (show IsS111 w0 _ g s0_0 t266 t267 from by exact IsS111.ig HI0) (Law.rg HO_5.out) (by decide)) hk (fun _ h => h.2)) (fun _ h => h.1)); replace HK := Aside0.mk (KeepBut.trans (Law.kg HK) hk (.inl rfl)); replace HB := Aside0.mk (hb); replace HI0 := Aside0.mk (hi); (try clear hb); (try clear hk); (try clear hi)) | ((with_reducible refine gate_builtin (b := .append) (xs := #[.tmp 43, .tmp 45]) rfl ?_); at_builtin; refine Kd.R_append (Kd.int .i64) w.heap.size rfl (.tmp 43) (.tmp 45) 24 2 (.int .i64 0) 8 rfl Try.underlying24 info2 rfl (by decide) (by omega) u5 x5_1 65535 [.int .i64 65535] (fun _ => True) (fun _ => False) rfl rfl ?aP (fun _ hk => hk.elim) ?aF ?aO (Below.refl _ _) ?aS ?aL ?_; (case aP => exact rfl); (case aF => exact (fun _ _ => trivial)); (case aO => exact (Law.rg HO_5.out)); (case aS => exact (keep_size (w := w) (g := g) (row := none) (Law.kg HK))); (case aL => have := LMc71.out; omega); intro v287 w74 ho hb hg hat; rw [← Ny286.out] at ho; have HO288 := Aside0.mk (ho); replace HB := Aside0.mk (below_weaken (Law.bi HB (IsS111.ge HI0.out)) HL.out hb); replace HI0 := Aside0.mk (IsS111.grown (IsS111.ig HI0) hg (IsS111.own_ne HI0.out HO_5.out (by decide))); replace HK := Aside0.mk (KeepBut.trans (Law.kg HK) (KeepBut.of_grown hg g) (Kd.R_base2 HO_5.out)); clear HO_5; clear ho hb hg hat))
           go_roundg k1
           case measure => have := HK1.out; omega
           case rel => exact ⟨(y286), (65535), (wrap64 (x8_1 + 1)), (t284), (t285), (by first | rfl | (simp; done) | (simp [*]; done)), (by first | rfl | (simp; done) | (simp [*]; done)), H', ⟨by have := HK1.out; omega⟩, ⟨by (with_reducible repeat (first | apply Kd.R_alloc | apply Kd.R_drewN | apply Kd.R_drew)); exact HO288.out⟩, ⟨by exact IsS111.ig HI0⟩, ⟨by exact Law.kg HK⟩, ⟨by exact Law.bi HB (IsS111.ge HI0.out)⟩⟩
          ·rw [if_neg c71] at H
           exact absurd H (by simp)
         ·rw [if_neg c70] at H
          have c70b0 : (t283 == 0) = false := beq_eq_false_iff_ne.mpr c70
          have c70b1 : (t283 != 0) = true := bne_iff_ne.mpr c70
          by_cases c75 : x5_1.length < 17592186044416
          ·rw [if_pos c75] at H
           have LMc75 := Aside0.mk c75
           clear c75
           obtain ⟨y289, hy289⟩ : ∃ y_ : List Int, y_ = (x5_1 ++ [x7_1]) := ⟨_, rfl⟩
           replace H : (spec_l3DrawCounts.l0 k1 a1 y289 t223 x7_1 (wrap64 (x8_1 + 1)) s0_0 t284 t285) = some (r1, r2, r3) := by first | (rw [hy289]; with_reducible exact H) | (have H2_ := (Option.bind_some _ _).symm.trans H; rw [hy289]; with_reducible exact H2_) | (have H2_ := (Option.bind_some _ _).symm.trans H; with_reducible exact H2_) | with_reducible exact H | (rw [hy289]; exact H) | exact H
           have Ny289 := Aside0.mk hy289
           clear hy289
           have H' := Aside0.mk H
           clear H
           go_wp2_with (first | ((with_reducible refine gate_callee (f := 91) rfl ?_); refine goesL_ (some 32) rfl rfl Try.func91 (by kernel_rfl) rfl #[.pointer (some ⟨g, 0, none⟩), .int .i64 4] rfl (by (try simp only [List.map_toArray, List.map_cons, List.map_nil]); first | done | rfl | (simp only [List.length_drop, List.length_take]; rfl)) ?_; (with_reducible refine (spec_l1Next.calls g s0_0 x1001_1 x1002_1 4 t265 t266 t267 w0 _ ?side1 ?side2 A48.out).mono ?_); (case side1 => exact IsS111.ig HI0); (case side2 => exact Law.bi HB (IsS111.ge HI0.out)); rintro e w76 ⟨rfl, hi, hb, hk⟩; refine ⟨_, rfl, ?_⟩; replace HO_5 := Aside0.mk (Kd.R_mono (Kd.R_keep (IsS111.apart (show IsS111 w0 _ g s0_0 x1001_1 x1002_1 from by exact IsS111.ig HI0) (Law.rg HO_5.out) (by decide)) hk (fun _ h => h.2)) (fun _ h => h.1)); replace HK := Aside0.mk (KeepBut.trans (Law.kg HK) hk (.inl rfl)); replace HB := Aside0.mk (hb); replace HI0 := Aside0.mk (hi); (try clear hb); (try clear hk); (try clear hi)) | (go_at_call 91; (with_reducible refine (spec_l1Next.calls g s0_0 t266 t267 40 t283 t284 t285 w0 _ ?side1 ?side2 A69.out).mono ?_); (case side1 => exact IsS111.ig HI0); (case side2 => exact Law.bi HB (IsS111.ge HI0.out)); rintro e w77 ⟨rfl, hi, hb, hk⟩; replace HO_5 := Aside0.mk (Kd.R_mono (Kd.R_keep (IsS111.apart (show IsS111 w0 _ g s0_0 t266 t267 from by exact IsS111.ig HI0) (Law.rg HO_5.out) (by decide)) hk (fun _ h => h.2)) (fun _ h => h.1)); replace HK := Aside0.mk (KeepBut.trans (Law.kg HK) hk (.inl rfl)); replace HB := Aside0.mk (hb); replace HI0 := Aside0.mk (hi); (try clear hb); (try clear hk); (try clear hi)) | ((with_reducible refine gate_builtin (b := .append) (xs := #[.tmp 43, .tmp 45]) rfl ?_); at_builtin; refine Kd.R_append (Kd.int .i64) w.heap.size rfl (.tmp 43) (.tmp 45) 24 2 (.int .i64 0) 8 rfl Try.underlying24 info2 rfl (by decide) (by omega) u5 x5_1 x7_1 [.int .i64 x7_1] (fun _ => True) (fun _ => False) rfl rfl ?aP (fun _ hk => hk.elim) ?aF ?aO (Below.refl _ _) ?aS ?aL ?_; (case aP => exact rfl); (case aF => exact (fun _ _ => trivial)); (case aO => exact (Law.rg HO_5.out)); (case aS => exact (keep_size (w := w) (g := g) (row := none) (Law.kg HK))); (case aL => have := LMc75.out; omega); intro v290 w78 ho hb hg hat; rw [← Ny289.out] at ho; have HO291 := Aside0.mk (ho); replace HB := Aside0.mk (below_weaken (Law.bi HB (IsS111.ge HI0.out)) HL.out hb); replace HI0 := Aside0.mk (IsS111.grown (IsS111.ig HI0) hg (IsS111.own_ne HI0.out HO_5.out (by decide))); replace HK := Aside0.mk (KeepBut.trans (Law.kg HK) (KeepBut.of_grown hg g) (Kd.R_base2 HO_5.out)); clear HO_5; clear ho hb hg hat))
           go_roundg k1
           case measure => have := HK1.out; omega
           case rel => exact ⟨(y289), (x7_1), (wrap64 (x8_1 + 1)), (t284), (t285), (by first | rfl | (simp; done) | (simp [*]; done)), (by first | rfl | (simp; done) | (simp [*]; done)), H', ⟨by have := HK1.out; omega⟩, ⟨by (with_reducible repeat (first | apply Kd.R_alloc | apply Kd.R_drewN | apply Kd.R_drew)); exact HO291.out⟩, ⟨by exact IsS111.ig HI0⟩, ⟨by exact Law.kg HK⟩, ⟨by exact Law.bi HB (IsS111.ge HI0.out)⟩⟩
          ·rw [if_neg c75] at H
           exact absurd H (by simp)
        ·rw [if_neg c68] at H
         have c68b0 : (t223 == 4) = false := beq_eq_false_iff_ne.mpr c68
         have c68b1 : (t223 != 4) = true := bne_iff_ne.mpr c68
         by_cases c79 : x5_1.length < 17592186044416
         ·rw [if_pos c79] at H
          have LMc79 := Aside0.mk c79
          clear c79
          obtain ⟨y292, hy292⟩ : ∃ y_ : List Int, y_ = (x5_1 ++ [x7_1]) := ⟨_, rfl⟩
          replace H : (spec_l3DrawCounts.l0 k1 a1 y292 t223 x7_1 (wrap64 (x8_1 + 1)) s0_0 t266 t267) = some (r1, r2, r3) := by first | (rw [hy292]; with_reducible exact H) | (have H2_ := (Option.bind_some _ _).symm.trans H; rw [hy292]; with_reducible exact H2_) | (have H2_ := (Option.bind_some _ _).symm.trans H; with_reducible exact H2_) | with_reducible exact H | (rw [hy292]; exact H) | exact H
          have Ny292 := Aside0.mk hy292
          clear hy292
          have H' := Aside0.mk H
          clear H
          go_wp2_with (first | ((with_reducible refine gate_callee (f := 91) rfl ?_); refine goesL_ (some 32) rfl rfl Try.func91 (by kernel_rfl) rfl #[.pointer (some ⟨g, 0, none⟩), .int .i64 4] rfl (by (try simp only [List.map_toArray, List.map_cons, List.map_nil]); first | done | rfl | (simp only [List.length_drop, List.length_take]; rfl)) ?_; (with_reducible refine (spec_l1Next.calls g s0_0 x1001_1 x1002_1 4 t265 t266 t267 w0 _ ?side1 ?side2 A48.out).mono ?_); (case side1 => exact IsS111.ig HI0); (case side2 => exact Law.bi HB (IsS111.ge HI0.out)); rintro e w80 ⟨rfl, hi, hb, hk⟩; refine ⟨_, rfl, ?_⟩; replace HO_5 := Aside0.mk (Kd.R_mono (Kd.R_keep (IsS111.apart (show IsS111 w0 _ g s0_0 x1001_1 x1002_1 from by exact IsS111.ig HI0) (Law.rg HO_5.out) (by decide)) hk (fun _ h => h.2)) (fun _ h => h.1)); replace HK := Aside0.mk (KeepBut.trans (Law.kg HK) hk (.inl rfl)); replace HB := Aside0.mk (hb); replace HI0 := Aside0.mk (hi); (try clear hb); (try clear hk); (try clear hi)) | ((with_reducible refine gate_builtin (b := .append) (xs := #[.tmp 43, .tmp 45]) rfl ?_); at_builtin; refine Kd.R_append (Kd.int .i64) w.heap.size rfl (.tmp 43) (.tmp 45) 24 2 (.int .i64 0) 8 rfl Try.underlying24 info2 rfl (by decide) (by omega) u5 x5_1 x7_1 [.int .i64 x7_1] (fun _ => True) (fun _ => False) rfl rfl ?aP (fun _ hk => hk.elim) ?aF ?aO (Below.refl _ _) ?aS ?aL ?_; (case aP => exact rfl); (case aF => exact (fun _ _ => trivial)); (case aO => exact (Law.rg HO_5.out)); (case aS => exact (keep_size (w := w) (g := g) (row := none) (Law.kg HK))); (case aL => have := LMc79.out; omega); intro v293 w81 ho hb hg hat; rw [← Ny292.out] at ho; have HO294 := Aside0.mk (ho); replace HB := Aside0.mk (below_weaken (Law.bi HB (IsS111.ge HI0.out)) HL.out hb); replace HI0 := Aside0.mk (IsS111.grown (IsS111.ig HI0) hg (IsS111.own_ne HI0.out HO_5.out (by decide))); replace HK := Aside0.mk (KeepBut.trans (Law.kg HK) (KeepBut.of_grown hg g) (Kd.R_base2 HO_5.out)); clear HO_5; clear ho hb hg hat))
          go_roundg k1
          case measure => have := HK1.out; omega
          case rel => exact ⟨(y292), (x7_1), (wrap64 (x8_1 + 1)), (t266), (t267), (by first | rfl | (simp; done) | (simp [*]; done)), (by first | rfl | (simp; done) | (simp [*]; done)), H', ⟨by have := HK1.out; omega⟩, ⟨by (with_reducible repeat (first | apply Kd.R_alloc | apply Kd.R_drewN | apply Kd.R_drew)); exact HO294.out⟩, ⟨by exact IsS111.ig HI0⟩, ⟨by exact Law.kg HK⟩, ⟨by exact Law.bi HB (IsS111.ge HI0.out)⟩⟩
         ·rw [if_neg c79] at H
          exact absurd H (by simp)
   ·rw [if_neg c7] at H
    have c7b0 : decide (x8_1 < a1) = false := decide_eq_false c7
    clear c7
    simp only [Option.some.injEq, Prod.mk.injEq] at H
    obtain ⟨rfl, rfl, rfl⟩ := H
    go_wp2
    go_ret
    exact ⟨_, by first | rfl | (simp [errW_none, errW_some] <;> rfl) | (simp [*, errW_none, errW_some] <;> rfl), by (with_reducible repeat (first | apply Kd.R_alloc | apply Kd.R_drewN | apply Kd.R_drew)); exact HO_5.out, by exact IsS111.ig HI0, by exact Law.bi HB (IsS111.ge HI0.out), by exact Law.kg HK⟩

/-! ### spec_l3SpoilCounts: function 107 -/
def spec_l3SpoilCounts.l0 : Nat → List Int → List Int → Int → Int → Option (List Int × Int × Int)
 | 0, _, _, _, _ => none
 | k + 1, x1, x1000, x1001, x1002 => if (x1.length : Int) ≤ 512 then (if x1.length < 17592186044416 then (spec_l3SpoilCounts.l0 k (x1 ++ [1]) x1000 x1001 x1002) else (none)) else (some (x1, x1001, x1002))
def spec_l3SpoilCounts.f (k : Nat) (s0_0 : List Int) (s0_1 : Int) (s0_2 : Int) (l1 : List Int) : Option (List Int × Int × Int) := (spec_l1Next.f s0_0 s0_1 s0_2 6).bind fun bt295 => ((spec_l1Next.f s0_0 bt295.2.1 bt295.2.2 (l1.length : Int)).bind fun bt298 => (if bt295.1 = 0 then (if 7 ≤ (l1.length : Int) then (some ((l1.take (7 : Int).toNat), bt298.2.1, bt298.2.2)) else (none)) else (if bt295.1 = 1 then (if 0 ≤ bt298.1 then (if bt298.1 < (l1.length : Int) then (some ((l1.set (bt298.1 : Int).toNat (-1)), bt298.2.1, bt298.2.2)) else (none)) else (none)) else (if bt295.1 = 2 then (if 0 ≤ bt298.1 then (if bt298.1 < (l1.length : Int) then (some ((l1.set (bt298.1 : Int).toNat 65536), bt298.2.1, bt298.2.2)) else (none)) else (none)) else (if bt295.1 = 3 then (if 1 < (l1.length : Int) then (some ((l1.set (1 : Int).toNat 1), bt298.2.1, bt298.2.2)) else (none)) else (if bt295.1 = 4 then (if l1.length < 17592186044416 then (some ((l1 ++ [1]), bt298.2.1, bt298.2.2)) else (none)) else (spec_l3SpoilCounts.l0 k l1 s0_0 bt298.2.1 bt298.2.2)))))))
set_option maxHeartbeats 8000000 in
set_option maxRecDepth 100000 in
theorem spec_l3SpoilCounts.calls (k : Nat) (g : Nat) (s0_0 : List Int) (s0_1 : Int) (s0_2 : Int) (P1_ : Nat → Prop) (u9000_ : Value) (l1 : List Int) (r1 : List Int) (r2 : Int) (r3 : Int) (w0 w : World) (hI : IsS111 w0 w g s0_0 s0_1 s0_2) (hB : Below w0.heap.size w0 w) (ho1 : Kd.R (Kd.int .i64) 2 w w0.heap.size P1_ u9000_ l1) (h : spec_l3SpoilCounts.f k s0_0 s0_1 s0_2 l1 = some (r1, r2, r3)) :
  Calls Try.prog 107 #[.pointer (some ⟨g, 0, none⟩), u9000_] w fun e w' => ∃ v0_ : Value, e = .returned (v0_) ∧ Kd.R (Kd.int .i64) 2 w' w0.heap.size (fun k_ => (P1_ k_ ∨ w.heap.size ≤ k_)) v0_ r1 ∧ IsS111 w0 w' g s0_0 r2 r3 ∧ Below w0.heap.size w0 w' ∧ Kept w w' (fun k_ => (P1_ k_) ∨ k_ = g) := by
 have HO1 := Aside0.mk (show Kd.R (Kd.int .i64) 2 w w0.heap.size (fun k_ => (P1_ k_ ∨ w.heap.size ≤ k_)) u9000_ l1 from Kd.R_mono ho1 (fun k_ hk => (.inl hk)))
 have HI0 := Aside0.mk hI
 have HL := Aside0.mk hB.size
 clear hI
 have HK := Aside0.mk (Kept.refl w (fun k_ => (P1_ k_) ∨ k_ = g))
 have HW0 := Aside0.mk hB.size
 have HB := Aside0.mk hB
 clear hB
 have H : ((spec_l1Next.f s0_0 s0_1 s0_2 6).bind fun bt295 => ((spec_l1Next.f s0_0 bt295.2.1 bt295.2.2 (l1.length : Int)).bind fun bt298 => (if bt295.1 = 0 then (if 7 ≤ (l1.length : Int) then (some ((l1.take (7 : Int).toNat), bt298.2.1, bt298.2.2)) else (none)) else (if bt295.1 = 1 then (if 0 ≤ bt298.1 then (if bt298.1 < (l1.length : Int) then (some ((l1.set (bt298.1 : Int).toNat (-1)), bt298.2.1, bt298.2.2)) else (none)) else (none)) else (if bt295.1 = 2 then (if 0 ≤ bt298.1 then (if bt298.1 < (l1.length : Int) then (some ((l1.set (bt298.1 : Int).toNat 65536), bt298.2.1, bt298.2.2)) else (none)) else (none)) else (if bt295.1 = 3 then (if 1 < (l1.length : Int) then (some ((l1.set (1 : Int).toNat 1), bt298.2.1, bt298.2.2)) else (none)) else (if bt295.1 = 4 then (if l1.length < 17592186044416 then (some ((l1 ++ [1]), bt298.2.1, bt298.2.2)) else (none)) else (spec_l3SpoilCounts.l0 k l1 s0_0 bt298.2.1 bt298.2.2)))))))) = some (r1, r2, r3) := h
 clear h
 replace H := Option.bind_eq_some_iff.mp H
 obtain ⟨⟨t295, t296, t297⟩, A30, H⟩ := H
 replace H : ((spec_l1Next.f s0_0 t296 t297 (l1.length : Int)).bind fun bt298 => (if t295 = 0 then (if 7 ≤ (l1.length : Int) then (some ((l1.take (7 : Int).toNat), bt298.2.1, bt298.2.2)) else (none)) else (if t295 = 1 then (if 0 ≤ bt298.1 then (if bt298.1 < (l1.length : Int) then (some ((l1.set (bt298.1 : Int).toNat (-1)), bt298.2.1, bt298.2.2)) else (none)) else (none)) else (if t295 = 2 then (if 0 ≤ bt298.1 then (if bt298.1 < (l1.length : Int) then (some ((l1.set (bt298.1 : Int).toNat 65536), bt298.2.1, bt298.2.2)) else (none)) else (none)) else (if t295 = 3 then (if 1 < (l1.length : Int) then (some ((l1.set (1 : Int).toNat 1), bt298.2.1, bt298.2.2)) else (none)) else (if t295 = 4 then (if l1.length < 17592186044416 then (some ((l1 ++ [1]), bt298.2.1, bt298.2.2)) else (none)) else (spec_l3SpoilCounts.l0 k l1 s0_0 bt298.2.1 bt298.2.2))))))) = some (r1, r2, r3) := H
 have A3 := Aside0.mk A30
 clear A30
 replace H := Option.bind_eq_some_iff.mp H
 obtain ⟨⟨t298, t299, t300⟩, A40, H⟩ := H
 replace H : (if t295 = 0 then (if 7 ≤ (l1.length : Int) then (some ((l1.take (7 : Int).toNat), t299, t300)) else (none)) else (if t295 = 1 then (if 0 ≤ t298 then (if t298 < (l1.length : Int) then (some ((l1.set (t298 : Int).toNat (-1)), t299, t300)) else (none)) else (none)) else (if t295 = 2 then (if 0 ≤ t298 then (if t298 < (l1.length : Int) then (some ((l1.set (t298 : Int).toNat 65536), t299, t300)) else (none)) else (none)) else (if t295 = 3 then (if 1 < (l1.length : Int) then (some ((l1.set (1 : Int).toNat 1), t299, t300)) else (none)) else (if t295 = 4 then (if l1.length < 17592186044416 then (some ((l1 ++ [1]), t299, t300)) else (none)) else (spec_l3SpoilCounts.l0 k l1 s0_0 t299 t300)))))) = some (r1, r2, r3) := H
 have A4 := Aside0.mk A40
 clear A40
 by_cases c5 : t295 = 0
 ·rw [if_pos c5] at H
  have c5b0 : (t295 == 0) = true := beq_iff_eq.mpr c5
  have c5b1 : (t295 != 0) = false := bne_eq_false_iff_eq.mpr c5
  clear c5
  by_cases c6 : 7 ≤ (l1.length : Int)
  ·rw [if_pos c6] at H
   have c6b0 := eq_true c6
   have c6b1 : decide (7 ≤ (l1.length : Int)) = true := decide_eq_true c6
   clear c6
   obtain ⟨y301, hy301⟩ : ∃ y_ : List Int, y_ = (l1.take (7 : Int).toNat) := ⟨_, rfl⟩
   replace H : (some (y301, t299, t300)) = some (r1, r2, r3) := by first | (rw [hy301]; with_reducible exact H) | (have H2_ := (Option.bind_some _ _).symm.trans H; rw [hy301]; with_reducible exact H2_) | (have H2_ := (Option.bind_some _ _).symm.trans H; with_reducible exact H2_) | with_reducible exact H | (rw [hy301]; exact H) | exact H
   have Ny301 := Aside0.mk hy301
   clear hy301
   simp only [Option.some.injEq, Prod.mk.injEq] at H
   obtain ⟨rfl, rfl, rfl⟩ := H
   go_enter Try.func107, Try.ntmps107
   go_wp2_with (first | ((with_reducible refine gate_callee (f := 91) rfl ?_); refine goesL_ (some 8) rfl rfl Try.func91 (by kernel_rfl) rfl #[.pointer (some ⟨g, 0, none⟩), .int .i64 6] rfl (by (try simp only [List.map_toArray, List.map_cons, List.map_nil]); first | done | rfl | (simp only [List.length_drop, List.length_take]; rfl)) ?_; (with_reducible refine (spec_l1Next.calls g s0_0 s0_1 s0_2 6 t295 t296 t297 w0 _ ?side1 ?side2 A3.out).mono ?_); (case side1 => exact IsS111.ig HI0); (case side2 => exact Law.bi HB (IsS111.ge HI0.out)); rintro e w7 ⟨rfl, hi, hb, hk⟩; refine ⟨_, rfl, ?_⟩; replace HO1 := Aside0.mk (Kd.R_mono (Kd.R_keep (IsS111.apart (show IsS111 w0 _ g s0_0 s0_1 s0_2 from by exact IsS111.ig HI0) (Law.rg HO1.out) (by decide)) hk (fun _ h => h.2)) (fun _ h => h.1)); replace HK := Aside0.mk (Kept.of_keep (S := (fun k_ => (P1_ k_) ∨ k_ = g)) (by repeat (first | (with_reducible first | exact HK.out | apply Kept.alloc | apply Kept.drewN | apply Kept.drew | refine Kept.setCell ?_ (.inl (.inr rfl)) _) | exact HK.out)) hk (.inl (.inr rfl))); replace HB := Aside0.mk (hb); replace HI0 := Aside0.mk (hi); (try clear hb); (try clear hk); (try clear hi); obtain ⟨Ao8, co8, eo8⟩ := Kd.R_slice HO1.out; subst eo8) | ((with_reducible refine gate_callee (f := 91) rfl ?_); refine goesL_ (some 12) rfl rfl Try.func91 (by kernel_rfl) rfl #[.pointer (some ⟨g, 0, none⟩), .int .i64 (l1.length : Int)] rfl (by (try simp only [List.map_toArray, List.map_cons, List.map_nil]); first | done | rfl | (simp only [List.length_drop, List.length_take]; rfl)) ?_; (with_reducible refine (spec_l1Next.calls g s0_0 t296 t297 (l1.length : Int) t298 t299 t300 w0 _ ?side1 ?side2 A4.out).mono ?_); (case side1 => exact IsS111.ig HI0); (case side2 => exact Law.bi HB (IsS111.ge HI0.out)); rintro e w9 ⟨rfl, hi, hb, hk⟩; refine ⟨_, rfl, ?_⟩; replace HO1 := Aside0.mk (Kd.R_mono (Kd.R_keep (IsS111.apart (show IsS111 w0 _ g s0_0 t296 t297 from by exact IsS111.ig HI0) (Law.rg HO1.out) (by decide)) hk (fun _ h => h.2)) (fun _ h => h.1)); replace HK := Aside0.mk (Kept.of_keep (S := (fun k_ => (P1_ k_) ∨ k_ = g)) (by repeat (first | (with_reducible first | exact HK.out | apply Kept.alloc | apply Kept.drewN | apply Kept.drew | refine Kept.setCell ?_ (.inl (.inr rfl)) _) | exact HK.out)) hk (.inl (.inr rfl))); replace HB := Aside0.mk (hb); replace HI0 := Aside0.mk (hi); (try clear hb); (try clear hk); (try clear hi); have q10 : (7 : Int) ≤ ((l1.length : Int) : Int) := of_decide_eq_true (by first | (with_reducible assumption) | assumption); obtain ⟨i010, hi010, _, hsz10, _⟩ := info_parts info2; have hcut10 := cut_to (P := Try.prog) 24 2 .i64 Try.underlying24 hi010 Ao8 l1.length co8 7 (by omega) q10 (Kd.R_reads' HO1.out).2.1; have hr10 := Kd.R_take (m := (7 : Int).toNat) HO1.out (by omega); have hy10 : y301.length = (7 : Int).toNat := (by rw [Ny301.out, List.length_take]; omega); rw [← Ny301.out] at hr10; rw [← hy10] at hr10 hcut10; clear hy10 hi010 hsz10 HO1; have HO303 := Aside0.mk hr10; clear hr10; replace q10 := eq_true q10))
   go_ret
   exact ⟨_, by first | rfl | (simp [errW_none, errW_some] <;> rfl) | (simp [*, errW_none, errW_some] <;> rfl), by (with_reducible repeat (first | apply Kd.R_alloc | apply Kd.R_drewN | apply Kd.R_drew)); exact HO303.out, by exact IsS111.ig HI0, by exact Law.bi HB (IsS111.ge HI0.out), by repeat (first | (with_reducible first | exact HK.out | apply Kept.alloc | apply Kept.drewN | apply Kept.drew | refine Kept.setCell ?_ (.inl (.inr rfl)) _) | exact HK.out)⟩
  ·rw [if_neg c6] at H
   exact absurd H (by simp)
 ·rw [if_neg c5] at H
  have c5b0 : (t295 == 0) = false := beq_eq_false_iff_ne.mpr c5
  have c5b1 : (t295 != 0) = true := bne_iff_ne.mpr c5
  by_cases c11 : t295 = 1
  ·rw [if_pos c11] at H
   have c11b0 : (t295 == 1) = true := beq_iff_eq.mpr c11
   have c11b1 : (t295 != 1) = false := bne_eq_false_iff_eq.mpr c11
   clear c11
   by_cases c12 : 0 ≤ t298
   ·rw [if_pos c12] at H
    have c12b0 : decide (0 ≤ t298) = true := decide_eq_true c12
    clear c12
    by_cases c13 : t298 < (l1.length : Int)
    ·rw [if_pos c13] at H
     have c13b0 : decide (t298 < (l1.length : Int)) = true := decide_eq_true c13
     clear c13
     obtain ⟨y304, hy304⟩ : ∃ y_ : List Int, y_ = (l1.set (t298 : Int).toNat (-1)) := ⟨_, rfl⟩
     replace H : (some (y304, t299, t300)) = some (r1, r2, r3) := by first | (rw [hy304]; with_reducible exact H) | (have H2_ := (Option.bind_some _ _).symm.trans H; rw [hy304]; with_reducible exact H2_) | (have H2_ := (Option.bind_some _ _).symm.trans H; with_reducible exact H2_) | with_reducible exact H | (rw [hy304]; exact H) | exact H
     have Ny304 := Aside0.mk hy304
     clear hy304
     simp only [Option.some.injEq, Prod.mk.injEq] at H
     obtain ⟨rfl, rfl, rfl⟩ := H
     go_enter Try.func107, Try.ntmps107
     go_wp2_with (first | ((with_reducible refine gate_callee (f := 91) rfl ?_); refine goesL_ (some 8) rfl rfl Try.func91 (by kernel_rfl) rfl #[.pointer (some ⟨g, 0, none⟩), .int .i64 6] rfl (by (try simp only [List.map_toArray, List.map_cons, List.map_nil]); first | done | rfl | (simp only [List.length_drop, List.length_take]; rfl)) ?_; (with_reducible refine (spec_l1Next.calls g s0_0 s0_1 s0_2 6 t295 t296 t297 w0 _ ?side1 ?side2 A3.out).mono ?_); (case side1 => exact IsS111.ig HI0); (case side2 => exact Law.bi HB (IsS111.ge HI0.out)); rintro e w15 ⟨rfl, hi, hb, hk⟩; refine ⟨_, rfl, ?_⟩; replace HO1 := Aside0.mk (Kd.R_mono (Kd.R_keep (IsS111.apart (show IsS111 w0 _ g s0_0 s0_1 s0_2 from by exact IsS111.ig HI0) (Law.rg HO1.out) (by decide)) hk (fun _ h => h.2)) (fun _ h => h.1)); replace HK := Aside0.mk (Kept.of_keep (S := (fun k_ => (P1_ k_) ∨ k_ = g)) (by repeat (first | (with_reducible first | exact HK.out | apply Kept.alloc | apply Kept.drewN | apply Kept.drew | refine Kept.setCell ?_ (.inl (.inr rfl)) _) | exact HK.out)) hk (.inl (.inr rfl))); replace HB := Aside0.mk (hb); replace HI0 := Aside0.mk (hi); (try clear hb); (try clear hk); (try clear hi); obtain ⟨Ao16, co16, eo16⟩ := Kd.R_slice HO1.out; subst eo16) | ((with_reducible refine gate_callee (f := 91) rfl ?_); refine goesL_ (some 12) rfl rfl Try.func91 (by kernel_rfl) rfl #[.pointer (some ⟨g, 0, none⟩), .int .i64 (l1.length : Int)] rfl (by (try simp only [List.map_toArray, List.map_cons, List.map_nil]); first | done | rfl | (simp only [List.length_drop, List.length_take]; rfl)) ?_; (with_reducible refine (spec_l1Next.calls g s0_0 t296 t297 (l1.length : Int) t298 t299 t300 w0 _ ?side1 ?side2 A4.out).mono ?_); (case side1 => exact IsS111.ig HI0); (case side2 => exact Law.bi HB (IsS111.ge HI0.out)); rintro e w17 ⟨rfl, hi, hb, hk⟩; refine ⟨_, rfl, ?_⟩; replace HO1 := Aside0.mk (Kd.R_mono (Kd.R_keep (IsS111.apart (show IsS111 w0 _ g s0_0 t296 t297 from by exact IsS111.ig HI0) (Law.rg HO1.out) (by decide)) hk (fun _ h => h.2)) (fun _ h => h.1)); replace HK := Aside0.mk (Kept.of_keep (S := (fun k_ => (P1_ k_) ∨ k_ = g)) (by repeat (first | (with_reducible first | exact HK.out | apply Kept.alloc | apply Kept.drewN | apply Kept.drew | refine Kept.setCell ?_ (.inl (.inr rfl)) _) | exact HK.out)) hk (.inl (.inr rfl))); replace HB := Aside0.mk (hb); replace HI0 := Aside0.mk (hi); (try clear hb); (try clear hk); (try clear hi); have p14 : 0 ≤ (t298 : Int) := of_decide_eq_true (by first | (with_reducible assumption) | assumption); have q14 : (t298 : Int) < ((l1.length : Int) : Int) := of_decide_eq_true (by first | (with_reducible assumption) | assumption); obtain ⟨go14, co14, eo14, gb14, gl14, cl14, HG14⟩ := Kd.R_form HO1.out (by omega); (first | cases eo14 | (injection eo14 with ea_ en_ ec_; (first | subst ea_ | (injection ea_ with ea_; subst ea_)); subst ec_; clear en_)); have GB14 := Aside0.mk gb14; have GG14 := Aside0.mk HG14; clear gb14 gl14 HG14; have HMgo14 := Aside0.mk (show (P1_ go14 ∨ w.heap.size ≤ go14) from (HO1.out.1 _ rfl)); obtain ⟨hx14_0, hf14_0⟩ := Kd.R_celln 0 HO1.out (t298 : Int) p14 q14; replace p14 := eq_true p14; replace q14 := eq_true q14; obtain ⟨hy18_, hz18_⟩ := Kd.R_celln 0 HO1.out (t298 : Int) (of_decide_eq_true (by first | (with_reducible assumption) | assumption)) (of_decide_eq_true (by first | (with_reducible assumption) | assumption)); have HP18 := Kd.R_putg HO1.out (t298 : Int) (-1)) | ((with_reducible refine gate_store (t := 2) (p := 21) rfl ?_); refine store_event (t := 2) (p := 21) (v := ?vo_w19) (w1 := (w17.setCell ⟨go14, (t298 : Int).toNat, none⟩ (.int .i64 (-1)))) ?hg ?ho ?hn ?hr ?_; (case ho => rfl); (case hg => rfl); (case hn => rfl); (case hr => first | (go_simp; done) | (go_simp; rfl)); intro w19 hw; have hg : w17.grownBy w19 (some go14) := (by rw [hw]; exact HP18.2); have hp_ : Kd.R (Kd.int .i64) 2 w19 w0.heap.size (fun k_ => (P1_ k_ ∨ w.heap.size ≤ k_)) (.slice (some ⟨go14, 0, none⟩) l1.length co16) y304 := (by rw [hw, Ny304.out]; exact HP18.1); clear HP18; replace HI0 := Aside0.mk (IsS111.grown (IsS111.ig HI0) hg (IsS111.own_ne HI0.out HO1.out (by decide))); replace HB := Aside0.mk ((by rw [hw]; exact below_set (HB.out) GB14.out : Below w0.heap.size w0 w19)); replace HK := Aside0.mk (Kept.of_grown (S := (fun k_ => (P1_ k_) ∨ k_ = g)) hg (by repeat (first | (with_reducible first | exact HK.out | apply Kept.alloc | apply Kept.drewN | apply Kept.drew | refine Kept.setCell ?_ (.inl (.inr rfl)) _) | exact HK.out)) (fun k_ e_ => Or.imp_left Or.inl ((HO1.out.1 k_ e_)))); replace HO1 := Aside0.mk (hp_); clear hg hw hp_))
     go_ret
     exact ⟨_, by first | rfl | (simp [errW_none, errW_some] <;> rfl) | (simp [*, errW_none, errW_some] <;> rfl), by (with_reducible repeat (first | apply Kd.R_alloc | apply Kd.R_drewN | apply Kd.R_drew)); exact HO1.out, by exact IsS111.ig HI0, by exact Law.bi HB (IsS111.ge HI0.out), by repeat (first | (with_reducible first | exact HK.out | apply Kept.alloc | apply Kept.drewN | apply Kept.drew | refine Kept.setCell ?_ (.inl (.inr rfl)) _) | exact HK.out)⟩
    ·rw [if_neg c13] at H
     exact absurd H (by simp)
   ·rw [if_neg c12] at H
    exact absurd H (by simp)
  ·rw [if_neg c11] at H
   have c11b0 : (t295 == 1) = false := beq_eq_false_iff_ne.mpr c11
   have c11b1 : (t295 != 1) = true := bne_iff_ne.mpr c11
   by_cases c20 : t295 = 2
   ·rw [if_pos c20] at H
    have c20b0 : (t295 == 2) = true := beq_iff_eq.mpr c20
    have c20b1 : (t295 != 2) = false := bne_eq_false_iff_eq.mpr c20
    clear c20
    by_cases c21 : 0 ≤ t298
    ·rw [if_pos c21] at H
     have c21b0 : decide (0 ≤ t298) = true := decide_eq_true c21
     clear c21
     by_cases c22 : t298 < (l1.length : Int)
     ·rw [if_pos c22] at H
      have c22b0 : decide (t298 < (l1.length : Int)) = true := decide_eq_true c22
      clear c22
      obtain ⟨y305, hy305⟩ : ∃ y_ : List Int, y_ = (l1.set (t298 : Int).toNat 65536) := ⟨_, rfl⟩
      replace H : (some (y305, t299, t300)) = some (r1, r2, r3) := by first | (rw [hy305]; with_reducible exact H) | (have H2_ := (Option.bind_some _ _).symm.trans H; rw [hy305]; with_reducible exact H2_) | (have H2_ := (Option.bind_some _ _).symm.trans H; with_reducible exact H2_) | with_reducible exact H | (rw [hy305]; exact H) | exact H
      have Ny305 := Aside0.mk hy305
      clear hy305
      simp only [Option.some.injEq, Prod.mk.injEq] at H
      obtain ⟨rfl, rfl, rfl⟩ := H
      go_enter Try.func107, Try.ntmps107
      go_wp2_with (first | ((with_reducible refine gate_callee (f := 91) rfl ?_); refine goesL_ (some 8) rfl rfl Try.func91 (by kernel_rfl) rfl #[.pointer (some ⟨g, 0, none⟩), .int .i64 6] rfl (by (try simp only [List.map_toArray, List.map_cons, List.map_nil]); first | done | rfl | (simp only [List.length_drop, List.length_take]; rfl)) ?_; (with_reducible refine (spec_l1Next.calls g s0_0 s0_1 s0_2 6 t295 t296 t297 w0 _ ?side1 ?side2 A3.out).mono ?_); (case side1 => exact IsS111.ig HI0); (case side2 => exact Law.bi HB (IsS111.ge HI0.out)); rintro e w24 ⟨rfl, hi, hb, hk⟩; refine ⟨_, rfl, ?_⟩; replace HO1 := Aside0.mk (Kd.R_mono (Kd.R_keep (IsS111.apart (show IsS111 w0 _ g s0_0 s0_1 s0_2 from by exact IsS111.ig HI0) (Law.rg HO1.out) (by decide)) hk (fun _ h => h.2)) (fun _ h => h.1)); replace HK := Aside0.mk (Kept.of_keep (S := (fun k_ => (P1_ k_) ∨ k_ = g)) (by repeat (first | (with_reducible first | exact HK.out | apply Kept.alloc | apply Kept.drewN | apply Kept.drew | refine Kept.setCell ?_ (.inl (.inr rfl)) _) | exact HK.out)) hk (.inl (.inr rfl))); replace HB := Aside0.mk (hb); replace HI0 := Aside0.mk (hi); (try clear hb); (try clear hk); (try clear hi); obtain ⟨Ao25, co25, eo25⟩ := Kd.R_slice HO1.out; subst eo25) | ((with_reducible refine gate_callee (f := 91) rfl ?_); refine goesL_ (some 12) rfl rfl Try.func91 (by kernel_rfl) rfl #[.pointer (some ⟨g, 0, none⟩), .int .i64 (l1.length : Int)] rfl (by (try simp only [List.map_toArray, List.map_cons, List.map_nil]); first | done | rfl | (simp only [List.length_drop, List.length_take]; rfl)) ?_; (with_reducible refine (spec_l1Next.calls g s0_0 t296 t297 (l1.length : Int) t298 t299 t300 w0 _ ?side1 ?side2 A4.out).mono ?_); (case side1 => exact IsS111.ig HI0); (case side2 => exact Law.bi HB (IsS111.ge HI0.out)); rintro e w26 ⟨rfl, hi, hb, hk⟩; refine ⟨_, rfl, ?_⟩; replace HO1 := Aside0.mk (Kd.R_mono (Kd.R_keep (IsS111.apart (show IsS111 w0 _ g s0_0 t296 t297 from by exact IsS111.ig HI0) (Law.rg HO1.out) (by decide)) hk (fun _ h => h.2)) (fun _ h => h.1)); replace HK := Aside0.mk (Kept.of_keep (S := (fun k_ => (P1_ k_) ∨ k_ = g)) (by repeat (first | (with_reducible first | exact HK.out | apply Kept.alloc | apply Kept.drewN | apply Kept.drew | refine Kept.setCell ?_ (.inl (.inr rfl)) _) | exact HK.out)) hk (.inl (.inr rfl))); replace HB := Aside0.mk (hb); replace HI0 := Aside0.mk (hi); (try clear hb); (try clear hk); (try clear hi); have p23 : 0 ≤ (t298 : Int) := of_decide_eq_true (by first | (with_reducible assumption) | assumption); have q23 : (t298 : Int) < ((l1.length : Int) : Int) := of_decide_eq_true (by first | (with_reducible assumption) | assumption); obtain ⟨go23, co23, eo23, gb23, gl23, cl23, HG23⟩ := Kd.R_form HO1.out (by omega); (first | cases eo23 | (injection eo23 with ea_ en_ ec_; (first | subst ea_ | (injection ea_ with ea_; subst ea_)); subst ec_; clear en_)); have GB23 := Aside0.mk gb23; have GG23 := Aside0.mk HG23; clear gb23 gl23 HG23; have HMgo23 := Aside0.mk (show (P1_ go23 ∨ w.heap.size ≤ go23) from (HO1.out.1 _ rfl)); obtain ⟨hx23_0, hf23_0⟩ := Kd.R_celln 0 HO1.out (t298 : Int) p23 q23; replace p23 := eq_true p23; replace q23 := eq_true q23; obtain ⟨hy27_, hz27_⟩ := Kd.R_celln 0 HO1.out (t298 : Int) (of_decide_eq_true (by first | (with_reducible assumption) | assumption)) (of_decide_eq_true (by first | (with_reducible assumption) | assumption)); have HP27 := Kd.R_putg HO1.out (t298 : Int) 65536) | ((with_reducible refine gate_store (t := 2) (p := 26) rfl ?_); refine store_event (t := 2) (p := 26) (v := ?vo_w28) (w1 := (w26.setCell ⟨go23, (t298 : Int).toNat, none⟩ (.int .i64 65536))) ?hg ?ho ?hn ?hr ?_; (case ho => rfl); (case hg => rfl); (case hn => rfl); (case hr => first | (go_simp; done) | (go_simp; rfl)); intro w28 hw; have hg : w26.grownBy w28 (some go23) := (by rw [hw]; exact HP27.2); have hp_ : Kd.R (Kd.int .i64) 2 w28 w0.heap.size (fun k_ => (P1_ k_ ∨ w.heap.size ≤ k_)) (.slice (some ⟨go23, 0, none⟩) l1.length co25) y305 := (by rw [hw, Ny305.out]; exact HP27.1); clear HP27; replace HI0 := Aside0.mk (IsS111.grown (IsS111.ig HI0) hg (IsS111.own_ne HI0.out HO1.out (by decide))); replace HB := Aside0.mk ((by rw [hw]; exact below_set (HB.out) GB23.out : Below w0.heap.size w0 w28)); replace HK := Aside0.mk (Kept.of_grown (S := (fun k_ => (P1_ k_) ∨ k_ = g)) hg (by repeat (first | (with_reducible first | exact HK.out | apply Kept.alloc | apply Kept.drewN | apply Kept.drew | refine Kept.setCell ?_ (.inl (.inr rfl)) _) | exact HK.out)) (fun k_ e_ => Or.imp_left Or.inl ((HO1.out.1 k_ e_)))); replace HO1 := Aside0.mk (hp_); clear hg hw hp_))
      go_ret
      exact ⟨_, by first | rfl | (simp [errW_none, errW_some] <;> rfl) | (simp [*, errW_none, errW_some] <;> rfl), by (with_reducible repeat (first | apply Kd.R_alloc | apply Kd.R_drewN | apply Kd.R_drew)); exact HO1.out, by exact IsS111.ig HI0, by exact Law.bi HB (IsS111.ge HI0.out), by repeat (first | (with_reducible first | exact HK.out | apply Kept.alloc | apply Kept.drewN | apply Kept.drew | refine Kept.setCell ?_ (.inl (.inr rfl)) _) | exact HK.out)⟩
     ·rw [if_neg c22] at H
      exact absurd H (by simp)
    ·rw [if_neg c21] at H
     exact absurd H (by simp)
   ·rw [if_neg c20] at H
    have c20b0 : (t295 == 2) = false := beq_eq_false_iff_ne.mpr c20
    have c20b1 : (t295 != 2) = true := bne_iff_ne.mpr c20
    by_cases c29 : t295 = 3
    ·rw [if_pos c29] at H
     have c29b0 : (t295 == 3) = true := beq_iff_eq.mpr c29
     have c29b1 : (t295 != 3) = false := bne_eq_false_iff_eq.mpr c29
     clear c29
     by_cases c30 : 1 < (l1.length : Int)
     ·rw [if_pos c30] at H
      have c30b0 : decide (1 < (l1.length : Int)) = true := decide_eq_true c30
      have c30b1 : decide (1 < l1.length) = true := decide_eq_true (by omega)
      clear c30
      obtain ⟨y306, hy306⟩ : ∃ y_ : List Int, y_ = (l1.set (1 : Int).toNat 1) := ⟨_, rfl⟩
      replace H : (some (y306, t299, t300)) = some (r1, r2, r3) := by first | (rw [hy306]; with_reducible exact H) | (have H2_ := (Option.bind_some _ _).symm.trans H; rw [hy306]; with_reducible exact H2_) | (have H2_ := (Option.bind_some _ _).symm.trans H; with_reducible exact H2_) | with_reducible exact H | (rw [hy306]; exact H) | exact H
      have Ny306 := Aside0.mk hy306
      clear hy306
      simp only [Option.some.injEq, Prod.mk.injEq] at H
      obtain ⟨rfl, rfl, rfl⟩ := H
      go_enter Try.func107, Try.ntmps107
      go_wp2_with (first | ((with_reducible refine gate_callee (f := 91) rfl ?_); refine goesL_ (some 8) rfl rfl Try.func91 (by kernel_rfl) rfl #[.pointer (some ⟨g, 0, none⟩), .int .i64 6] rfl (by (try simp only [List.map_toArray, List.map_cons, List.map_nil]); first | done | rfl | (simp only [List.length_drop, List.length_take]; rfl)) ?_; (with_reducible refine (spec_l1Next.calls g s0_0 s0_1 s0_2 6 t295 t296 t297 w0 _ ?side1 ?side2 A3.out).mono ?_); (case side1 => exact IsS111.ig HI0); (case side2 => exact Law.bi HB (IsS111.ge HI0.out)); rintro e w32 ⟨rfl, hi, hb, hk⟩; refine ⟨_, rfl, ?_⟩; replace HO1 := Aside0.mk (Kd.R_mono (Kd.R_keep (IsS111.apart (show IsS111 w0 _ g s0_0 s0_1 s0_2 from by exact IsS111.ig HI0) (Law.rg HO1.out) (by decide)) hk (fun _ h => h.2)) (fun _ h => h.1)); replace HK := Aside0.mk (Kept.of_keep (S := (fun k_ => (P1_ k_) ∨ k_ = g)) (by repeat (first | (with_reducible first | exact HK.out | apply Kept.alloc | apply Kept.drewN | apply Kept.drew | refine Kept.setCell ?_ (.inl (.inr rfl)) _) | exact HK.out)) hk (.inl (.inr rfl))); replace HB := Aside0.mk (hb); replace HI0 := Aside0.mk (hi); (try clear hb); (try clear hk); (try clear hi); obtain ⟨Ao33, co33, eo33⟩ := Kd.R_slice HO1.out; subst eo33) | ((with_reducible refine gate_callee (f := 91) rfl ?_); refine goesL_ (some 12) rfl rfl Try.func91 (by kernel_rfl) rfl #[.pointer (some ⟨g, 0, none⟩), .int .i64 (l1.length : Int)] rfl (by (try simp only [List.map_toArray, List.map_cons, List.map_nil]); first | done | rfl | (simp only [List.length_drop, List.length_take]; rfl)) ?_; (with_reducible refine (spec_l1Next.calls g s0_0 t296 t297 (l1.length : Int) t298 t299 t300 w0 _ ?side1 ?side2 A4.out).mono ?_); (case side1 => exact IsS111.ig HI0); (case side2 => exact Law.bi HB (IsS111.ge HI0.out)); rintro e w34 ⟨rfl, hi, hb, hk⟩; refine ⟨_, rfl, ?_⟩; replace HO1 := Aside0.mk (Kd.R_mono (Kd.R_keep (IsS111.apart (show IsS111 w0 _ g s0_0 t296 t297 from by exact IsS111.ig HI0) (Law.rg HO1.out) (by decide)) hk (fun _ h => h.2)) (fun _ h => h.1)); replace HK := Aside0.mk (Kept.of_keep (S := (fun k_ => (P1_ k_) ∨ k_ = g)) (by repeat (first | (with_reducible first | exact HK.out | apply Kept.alloc | apply Kept.drewN | apply Kept.drew | refine Kept.setCell ?_ (.inl (.inr rfl)) _) | exact HK.out)) hk (.inl (.inr rfl))); replace HB := Aside0.mk (hb); replace HI0 := Aside0.mk (hi); (try clear hb); (try clear hk); (try clear hi); have p31 : 0 ≤ (1 : Int) := (by omega); have q31 : (1 : Int) < ((l1.length : Int) : Int) := of_decide_eq_true (by first | (with_reducible assumption) | assumption); have qi31 : (1 < l1.length) = True := eq_true (by omega); obtain ⟨go31, co31, eo31, gb31, gl31, cl31, HG31⟩ := Kd.R_form HO1.out (by omega); (first | cases eo31 | (injection eo31 with ea_ en_ ec_; (first | subst ea_ | (injection ea_ with ea_; subst ea_)); subst ec_; clear en_)); have GB31 := Aside0.mk gb31; have GG31 := Aside0.mk HG31; clear gb31 gl31 HG31; have HMgo31 := Aside0.mk (show (P1_ go31 ∨ w.heap.size ≤ go31) from (HO1.out.1 _ rfl)); obtain ⟨hx31_0, hf31_0⟩ := Kd.R_celln 0 HO1.out (1 : Int) p31 q31; (try rw [show ((1 : Int)).toNat = 1 from rfl] at hx31_0); (try simp only [Nat.reduceMul, Nat.zero_mul, Nat.zero_add, Nat.reduceAdd] at hx31_0); (try rw [show ((1 : Int)).toNat = 1 from rfl] at hf31_0); (try simp only [Nat.reduceMul, Nat.zero_mul, Nat.zero_add, Nat.reduceAdd] at hf31_0); replace p31 := eq_true p31; replace q31 := eq_true q31; obtain ⟨hy35_, hz35_⟩ := Kd.R_celln 0 HO1.out (1 : Int) (by omega) (of_decide_eq_true (by first | (with_reducible assumption) | assumption)); (try simp only [Int.reduceToNat, Int.toNat_zero, Int.toNat_ofNat, Nat.reduceMul, Nat.zero_mul, Nat.zero_add] at hy35_ hz35_); (try rw [show ((1 : Int)).toNat = 1 from rfl] at hy35_); (try rw [show ((1 : Int)).toNat = 1 from rfl] at hz35_); have HP35 := Kd.R_putg HO1.out (1 : Int) 1) | ((with_reducible refine gate_store (t := 2) (p := 30) rfl ?_); refine store_event (t := 2) (p := 30) (v := ?vo_w36) (w1 := (w34.setCell ⟨go31, (1 : Int).toNat, none⟩ (.int .i64 1))) ?hg ?ho ?hn ?hr ?_; (case ho => rfl); (case hg => rfl); (case hn => rfl); (case hr => first | (go_simp; done) | (go_simp; rfl)); intro w36 hw; have hg : w34.grownBy w36 (some go31) := (by rw [hw]; exact HP35.2); have hp_ : Kd.R (Kd.int .i64) 2 w36 w0.heap.size (fun k_ => (P1_ k_ ∨ w.heap.size ≤ k_)) (.slice (some ⟨go31, 0, none⟩) l1.length co33) y306 := (by rw [hw, Ny306.out]; exact HP35.1); clear HP35; replace HI0 := Aside0.mk (IsS111.grown (IsS111.ig HI0) hg (IsS111.own_ne HI0.out HO1.out (by decide))); replace HB := Aside0.mk ((by rw [hw]; exact below_set (HB.out) GB31.out : Below w0.heap.size w0 w36)); replace HK := Aside0.mk (Kept.of_grown (S := (fun k_ => (P1_ k_) ∨ k_ = g)) hg (by repeat (first | (with_reducible first | exact HK.out | apply Kept.alloc | apply Kept.drewN | apply Kept.drew | refine Kept.setCell ?_ (.inl (.inr rfl)) _) | exact HK.out)) (fun k_ e_ => Or.imp_left Or.inl ((HO1.out.1 k_ e_)))); replace HO1 := Aside0.mk (hp_); clear hg hw hp_))
      go_ret
      exact ⟨_, by first | rfl | (simp [errW_none, errW_some] <;> rfl) | (simp [*, errW_none, errW_some] <;> rfl), by (with_reducible repeat (first | apply Kd.R_alloc | apply Kd.R_drewN | apply Kd.R_drew)); exact HO1.out, by exact IsS111.ig HI0, by exact Law.bi HB (IsS111.ge HI0.out), by repeat (first | (with_reducible first | exact HK.out | apply Kept.alloc | apply Kept.drewN | apply Kept.drew | refine Kept.setCell ?_ (.inl (.inr rfl)) _) | exact HK.out)⟩
     ·rw [if_neg c30] at H
      exact absurd H (by simp)
    ·rw [if_neg c29] at H
     have c29b0 : (t295 == 3) = false := beq_eq_false_iff_ne.mpr c29
     have c29b1 : (t295 != 3) = true := bne_iff_ne.mpr c29
     by_cases c37 : t295 = 4
     ·rw [if_pos c37] at H
      have c37b0 : (t295 == 4) = true := beq_iff_eq.mpr c37
      have c37b1 : (t295 != 4) = false := bne_eq_false_iff_eq.mpr c37
      clear c37
      by_cases c38 : l1.length < 17592186044416
      ·rw [if_pos c38] at H
       have LMc38 := Aside0.mk c38
       clear c38
       obtain ⟨y307, hy307⟩ : ∃ y_ : List Int, y_ = (l1 ++ [1]) := ⟨_, rfl⟩
       replace H : (some (y307, t299, t300)) = some (r1, r2, r3) := by first | (rw [hy307]; with_reducible exact H) | (have H2_ := (Option.bind_some _ _).symm.trans H; rw [hy307]; with_reducible exact H2_) | (have H2_ := (Option.bind_some _ _).symm.trans H; with_reducible exact H2_) | with_reducible exact H | (rw [hy307]; exact H) | exact H
       have Ny307 := Aside0.mk hy307
       clear hy307
       simp only [Option.some.injEq, Prod.mk.injEq] at H
       obtain ⟨rfl, rfl, rfl⟩ := H
       go_enter Try.func107, Try.ntmps107
       go_wp2_with (first | ((with_reducible refine gate_callee (f := 91) rfl ?_); refine goesL_ (some 8) rfl rfl Try.func91 (by kernel_rfl) rfl #[.pointer (some ⟨g, 0, none⟩), .int .i64 6] rfl (by (try simp only [List.map_toArray, List.map_cons, List.map_nil]); first | done | rfl | (simp only [List.length_drop, List.length_take]; rfl)) ?_; (with_reducible refine (spec_l1Next.calls g s0_0 s0_1 s0_2 6 t295 t296 t297 w0 _ ?side1 ?side2 A3.out).mono ?_); (case side1 => exact IsS111.ig HI0); (case side2 => exact Law.bi HB (IsS111.ge HI0.out)); rintro e w39 ⟨rfl, hi, hb, hk⟩; refine ⟨_, rfl, ?_⟩; replace HO1 := Aside0.mk (Kd.R_mono (Kd.R_keep (IsS111.apart (show IsS111 w0 _ g s0_0 s0_1 s0_2 from by exact IsS111.ig HI0) (Law.rg HO1.out) (by decide)) hk (fun _ h => h.2)) (fun _ h => h.1)); replace HK := Aside0.mk (Kept.of_keep (S := (fun k_ => (P1_ k_) ∨ k_ = g)) (by repeat (first | (with_reducible first | exact HK.out | apply Kept.alloc | apply Kept.drewN | apply Kept.drew | refine Kept.setCell ?_ (.inl (.inr rfl)) _) | exact HK.out)) hk (.inl (.inr rfl))); replace HB := Aside0.mk (hb); replace HI0 := Aside0.mk (hi); (try clear hb); (try clear hk); (try clear hi); obtain ⟨Ao40, co40, eo40⟩ := Kd.R_slice HO1.out; subst eo40) | ((with_reducible refine gate_callee (f := 91) rfl ?_); refine goesL_ (some 12) rfl rfl Try.func91 (by kernel_rfl) rfl #[.pointer (some ⟨g, 0, none⟩), .int .i64 (l1.length : Int)] rfl (by (try simp only [List.map_toArray, List.map_cons, List.map_nil]); first | done | rfl | (simp only [List.length_drop, List.length_take]; rfl)) ?_; (with_reducible refine (spec_l1Next.calls g s0_0 t296 t297 (l1.length : Int) t298 t299 t300 w0 _ ?side1 ?side2 A4.out).mono ?_); (case side1 => exact IsS111.ig HI0); (case side2 => exact Law.bi HB (IsS111.ge HI0.out)); rintro e w41 ⟨rfl, hi, hb, hk⟩; refine ⟨_, rfl, ?_⟩; replace HO1 := Aside0.mk (Kd.R_mono (Kd.R_keep (IsS111.apart (show IsS111 w0 _ g s0_0 t296 t297 from by exact IsS111.ig HI0) (Law.rg HO1.out) (by decide)) hk (fun _ h => h.2)) (fun _ h => h.1)); replace HK := Aside0.mk (Kept.of_keep (S := (fun k_ => (P1_ k_) ∨ k_ = g)) (by repeat (first | (with_reducible first | exact HK.out | apply Kept.alloc | apply Kept.drewN | apply Kept.drew | refine Kept.setCell ?_ (.inl (.inr rfl)) _) | exact HK.out)) hk (.inl (.inr rfl))); replace HB := Aside0.mk (hb); replace HI0 := Aside0.mk (hi); (try clear hb); (try clear hk); (try clear hi)) | ((with_reducible refine gate_builtin (b := .append) (xs := #[.tmp 33, .tmp 34]) rfl ?_); at_builtin; refine Kd.R_append (Kd.int .i64) (w0 := w0) w0.heap.size rfl (.tmp 33) (.tmp 34) 24 2 (.int .i64 0) 8 rfl Try.underlying24 info2 rfl (by decide) (by omega) (.slice Ao40 l1.length co40) l1 1 [.int .i64 1] (fun k_ => (P1_ k_ ∨ w.heap.size ≤ k_)) (fun _ => False) rfl rfl ?aP (fun _ hk => hk.elim) ?aF ?aO ?aB ?aS ?aL ?_; (case aP => exact rfl); (case aB => exact (Law.bi HB (IsS111.ge HI0.out))); (case aF => exact (fun k_ hk => (.inr (Nat.le_trans (by first | exact HK.out.1 | exact (show Kept w _ (fun k_ => (P1_ k_) ∨ k_ = g) from by repeat (first | (with_reducible first | exact HK.out | apply Kept.alloc | apply Kept.drewN | apply Kept.drew | refine Kept.setCell ?_ (.inl (.inr rfl)) _) | exact HK.out)).1) hk)))); (case aO => exact (Law.rg HO1.out)); (case aS => exact (below_size (Law.bi HB (IsS111.ge HI0.out)))); (case aL => have := LMc38.out; omega); intro v308 w42 ho hb hg hat; rw [← Ny307.out] at ho; have HO309 := Aside0.mk (ho); replace HI0 := Aside0.mk (IsS111.grown (IsS111.ig HI0) hg (IsS111.own_ne HI0.out HO1.out (by decide))); replace HB := Aside0.mk (hb); replace HK := Aside0.mk (Kept.of_grown (S := (fun k_ => (P1_ k_) ∨ k_ = g)) hg (by repeat (first | (with_reducible first | exact HK.out | apply Kept.alloc | apply Kept.drewN | apply Kept.drew | refine Kept.setCell ?_ (.inl (.inr rfl)) _) | exact HK.out)) (fun k_ e_ => Or.imp_left Or.inl ((HO1.out.1 k_ e_)))); clear HO1; clear ho hb hg hat))
       go_ret
       exact ⟨_, by first | rfl | (simp [errW_none, errW_some] <;> rfl) | (simp [*, errW_none, errW_some] <;> rfl), by (with_reducible repeat (first | apply Kd.R_alloc | apply Kd.R_drewN | apply Kd.R_drew)); exact HO309.out, by exact IsS111.ig HI0, by exact Law.bi HB (IsS111.ge HI0.out), by repeat (first | (with_reducible first | exact HK.out | apply Kept.alloc | apply Kept.drewN | apply Kept.drew | refine Kept.setCell ?_ (.inl (.inr rfl)) _) | exact HK.out)⟩
      ·rw [if_neg c38] at H
       exact absurd H (by simp)
     ·rw [if_neg c37] at H
      have c37b0 : (t295 == 4) = false := beq_eq_false_iff_ne.mpr c37
      have c37b1 : (t295 != 4) = true := bne_iff_ne.mpr c37
      have H' := Aside0.mk H
      clear H
      go_enter Try.func107, Try.ntmps107
      go_wp2_with (first | ((with_reducible refine gate_callee (f := 91) rfl ?_); refine goesL_ (some 8) rfl rfl Try.func91 (by kernel_rfl) rfl #[.pointer (some ⟨g, 0, none⟩), .int .i64 6] rfl (by (try simp only [List.map_toArray, List.map_cons, List.map_nil]); first | done | rfl | (simp only [List.length_drop, List.length_take]; rfl)) ?_; (with_reducible refine (spec_l1Next.calls g s0_0 s0_1 s0_2 6 t295 t296 t297 w0 _ ?side1 ?side2 A3.out).mono ?_); (case side1 => exact IsS111.ig HI0); (case side2 => exact Law.bi HB (IsS111.ge HI0.out)); rintro e w43 ⟨rfl, hi, hb, hk⟩; refine ⟨_, rfl, ?_⟩; replace HO1 := Aside0.mk (Kd.R_mono (Kd.R_keep (IsS111.apart (show IsS111 w0 _ g s0_0 s0_1 s0_2 from by exact IsS111.ig HI0) (Law.rg HO1.out) (by decide)) hk (fun _ h => h.2)) (fun _ h => h.1)); replace HK := Aside0.mk (Kept.of_keep (S := (fun k_ => (P1_ k_) ∨ k_ = g)) (by repeat (first | (with_reducible first | exact HK.out | apply Kept.alloc | apply Kept.drewN | apply Kept.drew | refine Kept.setCell ?_ (.inl (.inr rfl)) _) | exact HK.out)) hk (.inl (.inr rfl))); replace HB := Aside0.mk (hb); replace HI0 := Aside0.mk (hi); (try clear hb); (try clear hk); (try clear hi); obtain ⟨Ao44, co44, eo44⟩ := Kd.R_slice HO1.out; subst eo44) | ((with_reducible refine gate_callee (f := 91) rfl ?_); refine goesL_ (some 12) rfl rfl Try.func91 (by kernel_rfl) rfl #[.pointer (some ⟨g, 0, none⟩), .int .i64 (l1.length : Int)] rfl (by (try simp only [List.map_toArray, List.map_cons, List.map_nil]); first | done | rfl | (simp only [List.length_drop, List.length_take]; rfl)) ?_; (with_reducible refine (spec_l1Next.calls g s0_0 t296 t297 (l1.length : Int) t298 t299 t300 w0 _ ?side1 ?side2 A4.out).mono ?_); (case side1 => exact IsS111.ig HI0); (case side2 => exact Law.bi HB (IsS111.ge HI0.out)); rintro e w45 ⟨rfl, hi, hb, hk⟩; refine ⟨_, rfl, ?_⟩; replace HO1 := Aside0.mk (Kd.R_mono (Kd.R_keep (IsS111.apart (show IsS111 w0 _ g s0_0 t296 t297 from by exact IsS111.ig HI0) (Law.rg HO1.out) (by decide)) hk (fun _ h => h.2)) (fun _ h => h.1)); replace HK := Aside0.mk (Kept.of_keep (S := (fun k_ => (P1_ k_) ∨ k_ = g)) (by repeat (first | (with_reducible first | exact HK.out | apply Kept.alloc | apply Kept.drewN | apply Kept.drew | refine Kept.setCell ?_ (.inl (.inr rfl)) _) | exact HK.out)) hk (.inl (.inr rfl))); replace HB := Aside0.mk (hb); replace HI0 := Aside0.mk (hi); (try clear hb); (try clear hk); (try clear hi)))
      go_loopg [1] k (fun kq v1 w' => ∃ (x1_1 : List Int), Aside0 (spec_l3SpoilCounts.l0 kq x1_1 s0_0 t299 t300 = some (r1, r2, r3)) ∧ Aside0 (kq ≤ k) ∧ Aside0 (Kd.R (Kd.int .i64) 2 w' w0.heap.size (fun k_ => (P1_ k_ ∨ w.heap.size ≤ k_)) v1 x1_1) ∧ Aside0 (IsS111 w0 w' g s0_0 t299 t300) ∧ Aside0 (Kept w w' (fun k_ => (P1_ k_) ∨ k_ = g)) ∧ Aside0 (Below w0.heap.size w0 w'))
      case atStart => exact ⟨(l1), H', ⟨Nat.le_refl _⟩, ⟨by (with_reducible repeat (first | apply Kd.R_alloc | apply Kd.R_drewN | apply Kd.R_drew)); exact HO1.out⟩, ⟨by exact IsS111.ig HI0⟩, ⟨by repeat (first | (with_reducible first | exact HK.out | apply Kept.alloc | apply Kept.drewN | apply Kept.drew | refine Kept.setCell ?_ (.inl (.inr rfl)) _) | exact HK.out)⟩, ⟨by exact Law.bi HB (IsS111.ge HI0.out)⟩⟩
      case round =>
       clear H'
       try clear c1
       try clear p1
       try clear q1
       try clear hx1
       try clear c2
       try clear p2
       try clear q2
       try clear hx2
       try clear hf2
       try clear c3
       try clear p3
       try clear q3
       try clear hx3
       try clear qi3
       try clear hf3
       try clear c5
       try clear c5b0
       try clear c5b1
       try clear c6
       try clear c6b0
       try clear c6b1
       try clear c9
       try clear c10
       try clear q10
       try clear c11
       try clear c11b0
       try clear c11b1
       try clear c12
       try clear c12b0
       try clear c13
       try clear c13b0
       try clear p14
       try clear q14
       try clear hx14
       try clear hf14
       try clear c20
       try clear c20b0
       try clear c20b1
       try clear c21
       try clear c21b0
       try clear c22
       try clear c22b0
       try clear p23
       try clear q23
       try clear hx23
       try clear hf23
       try clear c29
       try clear c29b0
       try clear c29b1
       try clear c30
       try clear c30b0
       try clear c30b1
       try clear p31
       try clear q31
       try clear hx31
       try clear qi31
       try clear hf31
       try clear c37
       try clear c37b0
       try clear c37b1
       try clear c38
       try clear hx14_0
       try clear hx23_0
       try clear hx31_0
       try clear p14
       try clear p23
       try clear p31
       try clear q10
       try clear q14
       try clear q23
       try clear q31
       obtain ⟨x1_1, HA, HK1, HO_1, HI0, HK, HB⟩ := hrel
       cases gk with
       | zero => exact absurd HA.out (by simp [spec_l3SpoilCounts.l0])
       | succ k1 =>
        have H := HA.out
        clear HA
        simp only [spec_l3SpoilCounts.l0] at H
        by_cases c46 : (x1_1.length : Int) ≤ 512
        ·rw [if_pos c46] at H
         have c46b0 : decide ((x1_1.length : Int) ≤ 512) = true := decide_eq_true c46
         have c46b1 : decide (x1_1.length ≤ 512) = true := decide_eq_true (by omega)
         clear c46
         by_cases c47 : x1_1.length < 17592186044416
         ·rw [if_pos c47] at H
          have LMc47 := Aside0.mk c47
          clear c47
          obtain ⟨y310, hy310⟩ : ∃ y_ : List Int, y_ = (x1_1 ++ [1]) := ⟨_, rfl⟩
          replace H : (spec_l3SpoilCounts.l0 k1 y310 s0_0 t299 t300) = some (r1, r2, r3) := by first | (rw [hy310]; with_reducible exact H) | (have H2_ := (Option.bind_some _ _).symm.trans H; rw [hy310]; with_reducible exact H2_) | (have H2_ := (Option.bind_some _ _).symm.trans H; with_reducible exact H2_) | with_reducible exact H | (rw [hy310]; exact H) | exact H
          have Ny310 := Aside0.mk hy310
          clear hy310
          have H' := Aside0.mk H
          clear H
          obtain ⟨Ao48, co48, eo48⟩ := Kd.R_slice HO_1.out
          subst eo48
          go_wp2_with (first | ((with_reducible refine gate_builtin (b := .append) (xs := #[.tmp 39, .tmp 40]) rfl ?_); at_builtin; refine Kd.R_append (Kd.int .i64) (w0 := w0) w0.heap.size rfl (.tmp 39) (.tmp 40) 24 2 (.int .i64 0) 8 rfl Try.underlying24 info2 rfl (by decide) (by omega) (.slice Ao48 x1_1.length co48) x1_1 1 [.int .i64 1] (fun k_ => (P1_ k_ ∨ w.heap.size ≤ k_)) (fun _ => False) rfl rfl ?aP (fun _ hk => hk.elim) ?aF ?aO ?aB ?aS ?aL ?_; (case aP => exact rfl); (case aB => exact (Law.bi HB (IsS111.ge HI0.out))); (case aF => exact (fun k_ hk => (.inr (Nat.le_trans (by first | exact HK.out.1 | exact (show Kept w _ (fun k_ => (P1_ k_) ∨ k_ = g) from by repeat (first | (with_reducible first | exact HK.out | apply Kept.alloc | apply Kept.drewN | apply Kept.drew | refine Kept.setCell ?_ (.inl (.inr rfl)) _) | exact HK.out)).1) hk)))); (case aO => exact (Law.rg HO_1.out)); (case aS => exact (below_size (Law.bi HB (IsS111.ge HI0.out)))); (case aL => have := LMc47.out; omega); intro v311 w49 ho hb hg hat; rw [← Ny310.out] at ho; have HO312 := Aside0.mk (ho); replace HI0 := Aside0.mk (IsS111.grown (IsS111.ig HI0) hg (IsS111.own_ne HI0.out HO_1.out (by decide))); replace HB := Aside0.mk (hb); replace HK := Aside0.mk (Kept.of_grown (S := (fun k_ => (P1_ k_) ∨ k_ = g)) hg (by repeat (first | (with_reducible first | exact HK.out | apply Kept.alloc | apply Kept.drewN | apply Kept.drew | refine Kept.setCell ?_ (.inl (.inr rfl)) _) | exact HK.out)) (fun k_ e_ => Or.imp_left Or.inl ((HO_1.out.1 k_ e_)))); clear HO_1; clear ho hb hg hat))
          go_roundg k1
          case measure => have := HK1.out; omega
          case rel => exact ⟨(y310), H', ⟨by have := HK1.out; omega⟩, ⟨by (with_reducible repeat (first | apply Kd.R_alloc | apply Kd.R_drewN | apply Kd.R_drew)); exact HO312.out⟩, ⟨by exact IsS111.ig HI0⟩, ⟨by repeat (first | (with_reducible first | exact HK.out | apply Kept.alloc | apply Kept.drewN | apply Kept.drew | refine Kept.setCell ?_ (.inl (.inr rfl)) _) | exact HK.out)⟩, ⟨by exact Law.bi HB (IsS111.ge HI0.out)⟩⟩
         ·rw [if_neg c47] at H
          exact absurd H (by simp)
        ·rw [if_neg c46] at H
         have c46b0 : decide ((x1_1.length : Int) ≤ 512) = false := decide_eq_false c46
         have c46b1 : decide (x1_1.length ≤ 512) = false := decide_eq_false (by omega)
         clear c46
         simp only [Option.some.injEq, Prod.mk.injEq] at H
         obtain ⟨rfl, rfl, rfl⟩ := H
         obtain ⟨Ao50, co50, eo50⟩ := Kd.R_slice HO_1.out
         subst eo50
         go_wp2
         go_ret
         exact ⟨_, by first | rfl | (simp [errW_none, errW_some] <;> rfl) | (simp [*, errW_none, errW_some] <;> rfl), by (with_reducible repeat (first | apply Kd.R_alloc | apply Kd.R_drewN | apply Kd.R_drew)); exact HO_1.out, by exact IsS111.ig HI0, by exact Law.bi HB (IsS111.ge HI0.out), by repeat (first | (with_reducible first | exact HK.out | apply Kept.alloc | apply Kept.drewN | apply Kept.drew | refine Kept.setCell ?_ (.inl (.inr rfl)) _) | exact HK.out)⟩

end Go.Proofs.Ytbimmmmjdimebaa.PFnPlan
