-- This text was written by a program of this session (gprint.py, on a turned copy of the print tool).
import Derived.Test.YtbimmmmjdimebaaPFnPlanx0
import Derived.Test.YtbimmmmjdimebaaPFnPlanx8
import Derived.Test.YtbimmmmjdimebaaPFnPlanx9
import Derived.Test.YtbimmmmjdimebaaLaw
namespace Go.Proofs.Ytbimmmmjdimebaa.PFnPlan
open Go.RowKit Go.Proofs.YtbimmmmjdimebaaW.PrintWords Go.Proofs.YtbimmmmjdimebaaW.PrintLast Go.Proofs.YtbimmmmjdimebaaW.PrintMore
attribute [local go_sem] max2_int min2_int max_two min_two max_three min_three max_four min_four   -- for this text's walks alone
set_option linter.unusedVariables false
set_option linter.unusedSimpArgs false

/-! ### spec_l3DrawTwo: function 94 -/
mutual
def spec_l3DrawTwo.j3 : Nat → List Int → List Int → List Int → Int → Int → Option (List Int × List Int × Int × Int)
 | 0, _, _, _, _, _ => none
 | k + 1, x5, x6, x1000, x1001, x1002 => (spec_l1Next.f x1000 x1001 x1002 8).bind fun bt349 => (if bt349.1 = 0 then ((spec_l3SpoilCounts.f k x1000 bt349.2.1 bt349.2.2 x5).bind fun bt352 => (some (bt352.1, x6, bt352.2.1, bt352.2.2))) else ((spec_l1Next.f x1000 bt349.2.1 bt349.2.2 8).bind fun bt357 => (if bt357.1 = 0 then ((spec_l3SpoilCounts.f k x1000 bt357.2.1 bt357.2.2 x6).bind fun bt360 => (some (x5, bt360.1, bt360.2.1, bt360.2.2))) else (some (x5, x6, bt357.2.1, bt357.2.2)))))
def spec_l3DrawTwo.l0 : Nat → Int → List Int → List Int → Int → List Int → Int → Int → Option (List Int × List Int × Int × Int)
 | 0, _, _, _, _, _, _, _ => none
 | k + 1, x4, x5, x6, x8, x1000, x1001, x1002 => if x8 < x4 then (if x6.length < 17592186044416 then (spec_l3DrawTwo.l0 k x4 x5 (x6 ++ [0]) (wrap64 (x8 + 1)) x1000 x1001 x1002) else (none)) else (spec_l3DrawTwo.j3 k x5 x6 x1000 x1001 x1002)
def spec_l3DrawTwo.l1 : Nat → Int → List Int → List Int → Int → List Int → Int → Int → Option (List Int × List Int × Int × Int)
 | 0, _, _, _, _, _, _, _ => none
 | k + 1, x4, x5, x6, x9, x1000, x1001, x1002 => if x9 < x4 then (if 0 ≤ x9 then (if x9 < (x5.length : Int) then (if x6.length < 17592186044416 then (spec_l3DrawTwo.l1 k x4 x5 (x6 ++ [rd x5 x9]) (wrap64 (x9 + 1)) x1000 x1001 x1002) else (none)) else (none)) else (none)) else (spec_l3DrawTwo.j3 k x5 x6 x1000 x1001 x1002)
def spec_l3DrawTwo.l2 : Nat → Int → List Int → List Int → Int → List Int → Int → Int → Option (List Int × List Int × Int × Int)
 | 0, _, _, _, _, _, _, _ => none
 | k + 1, x4, x5, x6, x10, x1000, x1001, x1002 => if x10 < x4 then ((spec_l1Next.f x1000 x1001 x1002 12).bind fun bt342 => (if bt342.1 > 0 then ((spec_l1Next.f x1000 bt342.2.1 bt342.2.2 2).bind fun bt345 => (if 0 ≤ x10 then (if x10 < (x5.length : Int) then (spec_l3DrawTwo.l2 k x4 (x5.set (x10 : Int).toNat (wrap64 (1 + bt345.1))) x6 (wrap64 (x10 + 1)) x1000 bt345.2.1 bt345.2.2) else (none)) else (none))) else (spec_l3DrawTwo.l2 k x4 x5 x6 (wrap64 (x10 + 1)) x1000 bt342.2.1 bt342.2.2))) else (spec_l3DrawTwo.j3 k x5 x6 x1000 x1001 x1002)
end
def spec_l3DrawTwo.f (k : Nat) (s0_0 : List Int) (s0_1 : Int) (s0_2 : Int) : Option (List Int × List Int × Int × Int) := (spec_l1DrawBlocks.f s0_0 s0_1 s0_2).bind fun bt313 => ((spec_l3DrawCounts.f k s0_0 bt313.2.1 bt313.2.2 bt313.1).bind fun bt316 => ((spec_l3DrawCounts.f k s0_0 bt316.2.1 bt316.2.2 bt313.1).bind fun bt321 => ((spec_l1Next.f s0_0 bt321.2.1 bt321.2.2 5).bind fun bt326 => (if bt326.1 = 0 then (spec_l3DrawTwo.l0 k bt313.1 bt316.1 (([] : List Int)) 0 s0_0 bt326.2.1 bt326.2.2) else (if bt326.1 = 1 then (spec_l3DrawTwo.l1 k bt313.1 bt316.1 (([] : List Int)) 0 s0_0 bt326.2.1 bt326.2.2) else (if bt326.1 = 2 then (spec_l3DrawTwo.l2 k bt313.1 bt316.1 bt321.1 2 s0_0 bt326.2.1 bt326.2.2) else (spec_l3DrawTwo.j3 k bt316.1 bt321.1 s0_0 bt326.2.1 bt326.2.2)))))))
set_option maxHeartbeats 8000000 in
set_option maxRecDepth 100000 in
theorem spec_l3DrawTwo.calls (k : Nat) (g : Nat) (s0_0 : List Int) (s0_1 : Int) (s0_2 : Int) (r1 : List Int) (r2 : List Int) (r3 : Int) (r4 : Int) (w0 w : World) (hI : IsS111 w0 w g s0_0 s0_1 s0_2) (hB : Below w0.heap.size w0 w) (h : spec_l3DrawTwo.f k s0_0 s0_1 s0_2 = some (r1, r2, r3, r4)) :
  Calls Try.prog 94 #[.pointer (some ⟨g, 0, none⟩)] w fun e w' => ∃ v0_ v1_ : Value, e = .returned (.tuple #[v0_, v1_]) ∧ Kd.R (Kd.int .i64) 2 w' w.heap.size (fun k_ => some k_ ≠ (v1_ : Value).ownBlock) v0_ r1 ∧ Kd.R (Kd.int .i64) 2 w' w.heap.size (fun k_ => some k_ ≠ (v0_ : Value).ownBlock) v1_ r2 ∧ IsS111 w0 w' g s0_0 r3 r4 ∧ Below w0.heap.size w0 w' ∧ KeepBut w w' g none := by
 have HI0 := Aside0.mk hI
 have HK := Aside0.mk (KeepBut.refl w g none)
 have HL := Aside0.mk hB.size
 clear hI
 have HW0 := Aside0.mk hB.size
 have HB := Aside0.mk hB
 clear hB
 have H : ((spec_l1DrawBlocks.f s0_0 s0_1 s0_2).bind fun bt313 => ((spec_l3DrawCounts.f k s0_0 bt313.2.1 bt313.2.2 bt313.1).bind fun bt316 => ((spec_l3DrawCounts.f k s0_0 bt316.2.1 bt316.2.2 bt313.1).bind fun bt321 => ((spec_l1Next.f s0_0 bt321.2.1 bt321.2.2 5).bind fun bt326 => (if bt326.1 = 0 then (spec_l3DrawTwo.l0 k bt313.1 bt316.1 (([] : List Int)) 0 s0_0 bt326.2.1 bt326.2.2) else (if bt326.1 = 1 then (spec_l3DrawTwo.l1 k bt313.1 bt316.1 (([] : List Int)) 0 s0_0 bt326.2.1 bt326.2.2) else (if bt326.1 = 2 then (spec_l3DrawTwo.l2 k bt313.1 bt316.1 bt321.1 2 s0_0 bt326.2.1 bt326.2.2) else (spec_l3DrawTwo.j3 k bt316.1 bt321.1 s0_0 bt326.2.1 bt326.2.2)))))))) = some (r1, r2, r3, r4) := h
 clear h
 replace H := Option.bind_eq_some_iff.mp H
 obtain ⟨⟨t313, t314, t315⟩, A20, H⟩ := H
 replace H : ((spec_l3DrawCounts.f k s0_0 t314 t315 t313).bind fun bt316 => ((spec_l3DrawCounts.f k s0_0 bt316.2.1 bt316.2.2 t313).bind fun bt321 => ((spec_l1Next.f s0_0 bt321.2.1 bt321.2.2 5).bind fun bt326 => (if bt326.1 = 0 then (spec_l3DrawTwo.l0 k t313 bt316.1 (([] : List Int)) 0 s0_0 bt326.2.1 bt326.2.2) else (if bt326.1 = 1 then (spec_l3DrawTwo.l1 k t313 bt316.1 (([] : List Int)) 0 s0_0 bt326.2.1 bt326.2.2) else (if bt326.1 = 2 then (spec_l3DrawTwo.l2 k t313 bt316.1 bt321.1 2 s0_0 bt326.2.1 bt326.2.2) else (spec_l3DrawTwo.j3 k bt316.1 bt321.1 s0_0 bt326.2.1 bt326.2.2))))))) = some (r1, r2, r3, r4) := H
 have A2 := Aside0.mk A20
 clear A20
 replace H := Option.bind_eq_some_iff.mp H
 obtain ⟨⟨t316, t319, t320⟩, A30, H⟩ := H
 replace H : ((spec_l3DrawCounts.f k s0_0 t319 t320 t313).bind fun bt321 => ((spec_l1Next.f s0_0 bt321.2.1 bt321.2.2 5).bind fun bt326 => (if bt326.1 = 0 then (spec_l3DrawTwo.l0 k t313 t316 (([] : List Int)) 0 s0_0 bt326.2.1 bt326.2.2) else (if bt326.1 = 1 then (spec_l3DrawTwo.l1 k t313 t316 (([] : List Int)) 0 s0_0 bt326.2.1 bt326.2.2) else (if bt326.1 = 2 then (spec_l3DrawTwo.l2 k t313 t316 bt321.1 2 s0_0 bt326.2.1 bt326.2.2) else (spec_l3DrawTwo.j3 k t316 bt321.1 s0_0 bt326.2.1 bt326.2.2)))))) = some (r1, r2, r3, r4) := H
 have A3 := Aside0.mk A30
 clear A30
 replace H := Option.bind_eq_some_iff.mp H
 obtain ⟨⟨t321, t324, t325⟩, A40, H⟩ := H
 replace H : ((spec_l1Next.f s0_0 t324 t325 5).bind fun bt326 => (if bt326.1 = 0 then (spec_l3DrawTwo.l0 k t313 t316 (([] : List Int)) 0 s0_0 bt326.2.1 bt326.2.2) else (if bt326.1 = 1 then (spec_l3DrawTwo.l1 k t313 t316 (([] : List Int)) 0 s0_0 bt326.2.1 bt326.2.2) else (if bt326.1 = 2 then (spec_l3DrawTwo.l2 k t313 t316 t321 2 s0_0 bt326.2.1 bt326.2.2) else (spec_l3DrawTwo.j3 k t316 t321 s0_0 bt326.2.1 bt326.2.2))))) = some (r1, r2, r3, r4) := H
 have A4 := Aside0.mk A40
 clear A40
 replace H := Option.bind_eq_some_iff.mp H
 obtain ⟨⟨t326, t327, t328⟩, A50, H⟩ := H
 replace H : (if t326 = 0 then (spec_l3DrawTwo.l0 k t313 t316 (([] : List Int)) 0 s0_0 t327 t328) else (if t326 = 1 then (spec_l3DrawTwo.l1 k t313 t316 (([] : List Int)) 0 s0_0 t327 t328) else (if t326 = 2 then (spec_l3DrawTwo.l2 k t313 t316 t321 2 s0_0 t327 t328) else (spec_l3DrawTwo.j3 k t316 t321 s0_0 t327 t328)))) = some (r1, r2, r3, r4) := H
 have A5 := Aside0.mk A50
 clear A50
 have HC6 := Aside0.mk H
 clear H
 go_enter Try.func94, Try.ntmps94
 go_upto_if 22 with (first | ((with_reducible refine gate_callee (f := 104) rfl ?_); refine goesL_ (some 12) rfl rfl Try.func104 (by kernel_rfl) rfl #[.pointer (some ⟨g, 0, none⟩)] rfl (by (try simp only [List.map_toArray, List.map_cons, List.map_nil]); first | done | rfl | (simp only [List.length_drop, List.length_take]; rfl)) ?_; (with_reducible refine (spec_l1DrawBlocks.calls g s0_0 s0_1 s0_2 t313 t314 t315 w0 _ ?side1 ?side2 A2.out).mono ?_); (case side1 => exact IsS111.ig HI0); (case side2 => exact Law.bi HB (IsS111.ge HI0.out)); rintro e w7 ⟨rfl, hi, hb, hk⟩; refine ⟨_, rfl, ?_⟩; replace HK := Aside0.mk (KeepBut.trans (Law.kg HK) hk (.inl rfl)); replace HB := Aside0.mk (hb); replace HI0 := Aside0.mk (hi); (try clear hb); (try clear hk); (try clear hi)) | ((with_reducible refine gate_callee (f := 106) rfl ?_); refine goesL_ (some 15) rfl rfl Try.func106 (by kernel_rfl) rfl #[.pointer (some ⟨g, 0, none⟩), .int .i64 t313] rfl (by (try simp only [List.map_toArray, List.map_cons, List.map_nil]); first | done | rfl | (simp only [List.length_drop, List.length_take]; rfl)) ?_; (with_reducible refine (spec_l3DrawCounts.calls k g s0_0 t314 t315 t313 t316 t319 t320 w0 _ ?side1 ?side2 A3.out).mono ?_); (case side1 => exact IsS111.ig HI0); (case side2 => exact Law.bi HB (IsS111.ge HI0.out)); rintro e w8 ⟨v317, rfl, ho0, hi, hb, hk⟩; refine ⟨_, rfl, ?_⟩; have HO318 := Aside0.mk (Kd.R_lower ho0 (keep_size (w := w) (g := g) (row := none) (Law.kg HK))); replace HK := Aside0.mk (KeepBut.trans (Law.kg HK) hk (.inl rfl)); replace HB := Aside0.mk (hb); replace HI0 := Aside0.mk (hi); (try clear hb); (try clear hk); (try clear hi); (try clear ho0)) | ((with_reducible refine gate_callee (f := 106) rfl ?_); refine goesL_ (some 18) rfl rfl Try.func106 (by kernel_rfl) rfl #[.pointer (some ⟨g, 0, none⟩), .int .i64 t313] rfl (by (try simp only [List.map_toArray, List.map_cons, List.map_nil]); first | done | rfl | (simp only [List.length_drop, List.length_take]; rfl)) ?_; (with_reducible refine (spec_l3DrawCounts.calls k g s0_0 t319 t320 t313 t321 t324 t325 w0 _ ?side1 ?side2 A4.out).mono ?_); (case side1 => exact IsS111.ig HI0); (case side2 => exact Law.bi HB (IsS111.ge HI0.out)); rintro e w9 ⟨v322, rfl, ho0, hi, hb, hk⟩; refine ⟨_, rfl, ?_⟩; have HO323 := Aside0.mk (Kd.R_lower (Law.rN ho0 HO318) (keep_size (w := w) (g := g) (row := none) (Law.kg HK))); replace HO318 := Aside0.mk (Kd.R_mono (Kd.R_told (Kd.R_oldK (IsS111.apart (show IsS111 w0 _ g s0_0 t319 t320 from by exact IsS111.ig HI0) (Law.rg HO318.out) (by decide)) hk) (Kd.R_base ho0)) (fun _ h_ => h_.1)); replace HK := Aside0.mk (KeepBut.trans (Law.kg HK) hk (.inl rfl)); replace HB := Aside0.mk (hb); replace HI0 := Aside0.mk (hi); (try clear hb); (try clear hk); (try clear hi); (try clear ho0)) | ((with_reducible refine gate_callee (f := 91) rfl ?_); refine goesL_ (some 20) rfl rfl Try.func91 (by kernel_rfl) rfl #[.pointer (some ⟨g, 0, none⟩), .int .i64 5] rfl (by (try simp only [List.map_toArray, List.map_cons, List.map_nil]); first | done | rfl | (simp only [List.length_drop, List.length_take]; rfl)) ?_; (with_reducible refine (spec_l1Next.calls g s0_0 t324 t325 5 t326 t327 t328 w0 _ ?side1 ?side2 A5.out).mono ?_); (case side1 => exact IsS111.ig HI0); (case side2 => exact Law.bi HB (IsS111.ge HI0.out)); rintro e w10 ⟨rfl, hi, hb, hk⟩; refine ⟨_, rfl, ?_⟩; replace HO318 := Aside0.mk (Kd.R_mono (Kd.R_keep (IsS111.apart (show IsS111 w0 _ g s0_0 t324 t325 from by exact IsS111.ig HI0) (Law.rg HO318.out) (by decide)) hk (fun _ h => h.2)) (fun _ h => h.1)); replace HO323 := Aside0.mk (Kd.R_mono (Kd.R_keep (IsS111.apart (show IsS111 w0 _ g s0_0 t324 t325 from by exact IsS111.ig HI0) (Law.rg HO323.out) (by decide)) hk (fun _ h => h.2)) (fun _ h => h.1)); replace HK := Aside0.mk (KeepBut.trans (Law.kg HK) hk (.inl rfl)); replace HB := Aside0.mk (hb); replace HI0 := Aside0.mk (hi); (try clear hb); (try clear hk); (try clear hi)))
 (try simp only [Act.put, List.setIfInBounds_toArray, List.set_cons_zero, List.set_cons_succ])
 go_cut [6] (fun v6 wc => ∃ (kq : Nat) (x5_5 : List Int) (x6_5 : List Int) (x1001_5 : Int) (x1002_5 : Int), Aside0 (spec_l3DrawTwo.j3 kq x5_5 x6_5 s0_0 x1001_5 x1002_5 = some (r1, r2, r3, r4)) ∧ Aside0 (kq ≤ k) ∧ Aside0 (Kd.R (Kd.int .i64) 2 wc w.heap.size (fun k_ => some k_ ≠ (v6 : Value).ownBlock) v317 x5_5) ∧ Aside0 (Kd.R (Kd.int .i64) 2 wc w.heap.size (fun k_ => some k_ ≠ (v317 : Value).ownBlock) v6 x6_5) ∧ Aside0 (IsS111 w0 wc g s0_0 x1001_5 x1002_5) ∧ Aside0 (KeepBut w wc g none) ∧ Aside0 (Below w0.heap.size w0 wc))
 case first =>
  have H := HC6.out
  clear HC6
  by_cases c11 : t326 = 0
  ·rw [if_pos c11] at H
   have c11b0 : (t326 == 0) = true := beq_iff_eq.mpr c11
   have c11b1 : (t326 != 0) = false := bne_eq_false_iff_eq.mpr c11
   clear c11
   (first | rw [c11b0] | (simp only [i64_w, i32_w]; rw [c11b0]) | skip)
   obtain ⟨y329, hy329⟩ : ∃ y_ : List Int, y_ = (([] : List Int)) := ⟨_, rfl⟩
   replace H : (spec_l3DrawTwo.l0 k t313 t316 y329 0 s0_0 t327 t328) = some (r1, r2, r3, r4) := by first | (rw [hy329]; with_reducible exact H) | (have H2_ := (Option.bind_some _ _).symm.trans H; rw [hy329]; with_reducible exact H2_) | (have H2_ := (Option.bind_some _ _).symm.trans H; with_reducible exact H2_) | with_reducible exact H | (rw [hy329]; exact H) | exact H
   have Ny329 := Aside0.mk hy329
   clear hy329
   have H' := Aside0.mk H
   clear H
   go_wp2_with (first | ((with_reducible refine gate_dst (N := 23) rfl ?_); refine Kd.R_lit (Kd.int .i64) _ 2 ?hg (N := 23) ?hd (xs := ([] : List Int)) (inner := []) (ok := fun _ => True) (okp := fun _ => True) ?hr ?hp (fun _ hk => hk) trivial (Below.refl _ _) (Nat.le_refl _) (by simp) ?_; (case hd => rfl); (case hg => rfl); (case hr => first | (go_simp; done) | (go_simp; rfl)); (case hp => exact (Reps.none _ _)); intro v330 w12 ho13 hb hg_ hnew_; clear hg_ hnew_; (first | rw [← Ny329.out] at ho13 | (simp only [Int.reduceToNat] at ho13; rw [← Ny329.out] at ho13)); have HO331 := Aside0.mk (Kd.R_lower (Kd.R_new' (Kd.R_new' ho13 (Kd.R_lt (Law.rg HO318.out))) (Kd.R_lt (Law.rg HO323.out))) (keep_size (w := w) (g := g) (row := none) (Law.kg HK))); replace HO318 := Aside0.mk (Kd.R_elder' (Law.rg HO318.out) (Kd.R_base ho13) hb); replace HO323 := Aside0.mk (Kd.R_elder' (Law.rg HO323.out) (Kd.R_base ho13) hb); replace HK := Aside0.mk (KeepBut.trans (Law.kg HK) (KeepBut.of_below hb g none) (.inl rfl)); replace HB := Aside0.mk (below_step (Law.bi HB (IsS111.ge HI0.out)) hb); replace HI0 := Aside0.mk (IsS111.below (IsS111.ig HI0) hb); clear hb ho13))
   go_loopg [6, 8] k (fun kq v6 v8 w' => ∃ (x6_1 : List Int) (x8_1 : Int), v8 = .int .i64 x8_1 ∧ Aside0 (spec_l3DrawTwo.l0 kq t313 t316 x6_1 x8_1 s0_0 t327 t328 = some (r1, r2, r3, r4)) ∧ Aside0 (kq ≤ k) ∧ Aside0 (Kd.R (Kd.int .i64) 2 w' w.heap.size (fun k_ => some k_ ≠ (v6 : Value).ownBlock) v317 t316) ∧ Aside0 (Kd.R (Kd.int .i64) 2 w' w.heap.size (fun k_ => some k_ ≠ (v317 : Value).ownBlock) v6 x6_1) ∧ Aside0 (IsS111 w0 w' g s0_0 t327 t328) ∧ Aside0 (KeepBut w w' g none) ∧ Aside0 (Below w0.heap.size w0 w'))
   case atStart => exact ⟨(y329), (0), (by first | rfl | (simp; done) | (simp [*]; done)), H', ⟨Nat.le_refl _⟩, ⟨by (with_reducible repeat (first | apply Kd.R_alloc | apply Kd.R_drewN | apply Kd.R_drew)); exact Kd.R_mono HO318.out (fun _ hk => hk.2)⟩, ⟨by (with_reducible repeat (first | apply Kd.R_alloc | apply Kd.R_drewN | apply Kd.R_drew)); exact Kd.R_mono HO331.out (fun _ hk => hk.1.2)⟩, ⟨by exact IsS111.ig HI0⟩, ⟨by exact Law.kg HK⟩, ⟨by exact Law.bi HB (IsS111.ge HI0.out)⟩⟩
   case round =>
    clear H'
    try clear c1
    try clear p2
    try clear c9
    try clear c10
    try clear c11
    try clear c11b0
    try clear c11b1
    obtain ⟨x6_1, x8_1, rfl, HA, HK1, HO_5, HO_6, HI0, HK, HB⟩ := hrel
    cases gk with
    | zero => exact absurd HA.out (by simp [spec_l3DrawTwo.l0])
    | succ k1 =>
     have H := HA.out
     clear HA
     simp only [spec_l3DrawTwo.l0] at H
     by_cases c14 : x8_1 < t313
     ·rw [if_pos c14] at H
      have c14b0 : decide (x8_1 < t313) = true := decide_eq_true c14
      clear c14
      by_cases c15 : x6_1.length < 17592186044416
      ·rw [if_pos c15] at H
       have LMc15 := Aside0.mk c15
       clear c15
       obtain ⟨y332, hy332⟩ : ∃ y_ : List Int, y_ = (x6_1 ++ [0]) := ⟨_, rfl⟩
       replace H : (spec_l3DrawTwo.l0 k1 t313 t316 y332 (wrap64 (x8_1 + 1)) s0_0 t327 t328) = some (r1, r2, r3, r4) := by first | (rw [hy332]; with_reducible exact H) | (have H2_ := (Option.bind_some _ _).symm.trans H; rw [hy332]; with_reducible exact H2_) | (have H2_ := (Option.bind_some _ _).symm.trans H; with_reducible exact H2_) | with_reducible exact H | (rw [hy332]; exact H) | exact H
       have Ny332 := Aside0.mk hy332
       clear hy332
       have H' := Aside0.mk H
       clear H
       go_wp2_with (first | ((with_reducible refine gate_builtin (b := .append) (xs := #[.tmp 29, .tmp 30]) rfl ?_); at_builtin; refine Kd.R_append (Kd.int .i64) w.heap.size rfl (.tmp 29) (.tmp 30) 24 2 (.int .i64 0) 8 rfl Try.underlying24 info2 rfl (by decide) (by omega) u6 x6_1 0 [.int .i64 0] (fun k_ => some k_ ≠ (v317 : Value).ownBlock) (fun _ => False) rfl rfl ?aP (fun _ hk => hk.elim) ?aF ?aO (Below.refl _ _) ?aS ?aL ?_; (case aP => exact rfl); (case aF => exact (fun k_ hk => Kd.fresh' (Kd.R_lt (Law.rg HO_5.out)) k_ hk)); (case aO => exact (Law.rg HO_6.out)); (case aS => exact (keep_size (w := w) (g := g) (row := none) (Law.kg HK))); (case aL => have := LMc15.out; omega); intro v333 w16 ho hb hg hat; rw [← Ny332.out] at ho; have HO334 := Aside0.mk (ho); replace HO_5 := Aside0.mk (Kd.R_after (ok := (fun _ => True)) (by (with_reducible repeat (first | apply Kd.R_alloc | apply Kd.R_drewN | apply Kd.R_drew)); exact Kd.R_mono HO_5.out (fun _ hk => ⟨trivial, hk⟩)) hg hat); replace HB := Aside0.mk (below_weaken (Law.bi HB (IsS111.ge HI0.out)) HL.out hb); replace HI0 := Aside0.mk (IsS111.grown (IsS111.ig HI0) hg (IsS111.own_ne HI0.out HO_6.out (by decide))); replace HK := Aside0.mk (KeepBut.trans (Law.kg HK) (KeepBut.of_grown hg g) (Kd.R_base2 HO_6.out)); clear HO_6; clear ho hb hg hat))
       go_roundg k1
       case measure => have := HK1.out; omega
       case rel => exact ⟨(y332), (wrap64 (x8_1 + 1)), (by first | rfl | (simp; done) | (simp [*]; done)), H', ⟨by have := HK1.out; omega⟩, ⟨by (with_reducible repeat (first | apply Kd.R_alloc | apply Kd.R_drewN | apply Kd.R_drew)); exact Kd.R_mono HO_5.out (fun _ hk => hk.2)⟩, ⟨by (with_reducible repeat (first | apply Kd.R_alloc | apply Kd.R_drewN | apply Kd.R_drew)); exact HO334.out⟩, ⟨by exact IsS111.ig HI0⟩, ⟨by exact Law.kg HK⟩, ⟨by exact Law.bi HB (IsS111.ge HI0.out)⟩⟩
      ·rw [if_neg c15] at H
       exact absurd H (by simp)
     ·rw [if_neg c14] at H
      have c14b0 : decide (x8_1 < t313) = false := decide_eq_false c14
      clear c14
      have H' := Aside0.mk H
      clear H
      go_wp2
      go_meet
      case rel => exact ⟨_, (t316), (x6_1), (t327), (t328), H', ⟨by have := HK1.out; first | omega | exact Nat.le_refl _⟩, ⟨by (with_reducible repeat (first | apply Kd.R_alloc | apply Kd.R_drewN | apply Kd.R_drew)); exact HO_5.out⟩, ⟨by (with_reducible repeat (first | apply Kd.R_alloc | apply Kd.R_drewN | apply Kd.R_drew)); exact HO_6.out⟩, ⟨by exact IsS111.ig HI0⟩, ⟨by exact Law.kg HK⟩, ⟨by exact Law.bi HB (IsS111.ge HI0.out)⟩⟩
  ·rw [if_neg c11] at H
   have c11b0 : (t326 == 0) = false := beq_eq_false_iff_ne.mpr c11
   have c11b1 : (t326 != 0) = true := bne_iff_ne.mpr c11
   (first | rw [c11b0] | (simp only [i64_w, i32_w]; rw [c11b0]) | skip)
   by_cases c17 : t326 = 1
   ·rw [if_pos c17] at H
    have c17b0 : (t326 == 1) = true := beq_iff_eq.mpr c17
    have c17b1 : (t326 != 1) = false := bne_eq_false_iff_eq.mpr c17
    clear c17
    obtain ⟨y335, hy335⟩ : ∃ y_ : List Int, y_ = (([] : List Int)) := ⟨_, rfl⟩
    replace H : (spec_l3DrawTwo.l1 k t313 t316 y335 0 s0_0 t327 t328) = some (r1, r2, r3, r4) := by first | (rw [hy335]; with_reducible exact H) | (have H2_ := (Option.bind_some _ _).symm.trans H; rw [hy335]; with_reducible exact H2_) | (have H2_ := (Option.bind_some _ _).symm.trans H; with_reducible exact H2_) | with_reducible exact H | (rw [hy335]; exact H) | exact H
    have Ny335 := Aside0.mk hy335
    clear hy335
    have H' := Aside0.mk H
    clear H
    go_wp2_with (first | ((with_reducible refine gate_dst (N := 34) rfl ?_); refine Kd.R_lit (Kd.int .i64) _ 2 ?hg (N := 34) ?hd (xs := ([] : List Int)) (inner := []) (ok := fun _ => True) (okp := fun _ => True) ?hr ?hp (fun _ hk => hk) trivial (Below.refl _ _) (Nat.le_refl _) (by simp) ?_; (case hd => rfl); (case hg => rfl); (case hr => first | (go_simp; done) | (go_simp; rfl)); (case hp => exact (Reps.none _ _)); intro v336 w18 ho19 hb hg_ hnew_; clear hg_ hnew_; (first | rw [← Ny335.out] at ho19 | (simp only [Int.reduceToNat] at ho19; rw [← Ny335.out] at ho19)); have HO337 := Aside0.mk (Kd.R_lower (Kd.R_new' (Kd.R_new' ho19 (Kd.R_lt (Law.rg HO318.out))) (Kd.R_lt (Law.rg HO323.out))) (keep_size (w := w) (g := g) (row := none) (Law.kg HK))); replace HO318 := Aside0.mk (Kd.R_elder' (Law.rg HO318.out) (Kd.R_base ho19) hb); replace HO323 := Aside0.mk (Kd.R_elder' (Law.rg HO323.out) (Kd.R_base ho19) hb); replace HK := Aside0.mk (KeepBut.trans (Law.kg HK) (KeepBut.of_below hb g none) (.inl rfl)); replace HB := Aside0.mk (below_step (Law.bi HB (IsS111.ge HI0.out)) hb); replace HI0 := Aside0.mk (IsS111.below (IsS111.ig HI0) hb); clear hb ho19))
    go_loopg [6, 9] k (fun kq v6 v9 w' => ∃ (x6_1 : List Int) (x9_1 : Int), v9 = .int .i64 x9_1 ∧ Aside0 (spec_l3DrawTwo.l1 kq t313 t316 x6_1 x9_1 s0_0 t327 t328 = some (r1, r2, r3, r4)) ∧ Aside0 (kq ≤ k) ∧ Aside0 (Kd.R (Kd.int .i64) 2 w' w.heap.size (fun k_ => some k_ ≠ (v6 : Value).ownBlock) v317 t316) ∧ Aside0 (Kd.R (Kd.int .i64) 2 w' w.heap.size (fun k_ => some k_ ≠ (v317 : Value).ownBlock) v6 x6_1) ∧ Aside0 (IsS111 w0 w' g s0_0 t327 t328) ∧ Aside0 (KeepBut w w' g none) ∧ Aside0 (Below w0.heap.size w0 w'))
    case atStart => exact ⟨(y335), (0), (by first | rfl | (simp; done) | (simp [*]; done)), H', ⟨Nat.le_refl _⟩, ⟨by (with_reducible repeat (first | apply Kd.R_alloc | apply Kd.R_drewN | apply Kd.R_drew)); exact Kd.R_mono HO318.out (fun _ hk => hk.2)⟩, ⟨by (with_reducible repeat (first | apply Kd.R_alloc | apply Kd.R_drewN | apply Kd.R_drew)); exact Kd.R_mono HO337.out (fun _ hk => hk.1.2)⟩, ⟨by exact IsS111.ig HI0⟩, ⟨by exact Law.kg HK⟩, ⟨by exact Law.bi HB (IsS111.ge HI0.out)⟩⟩
    case round =>
     clear H'
     try clear c1
     try clear p2
     try clear p6
     try clear c9
     try clear c10
     try clear c11
     try clear c11b0
     try clear c11b1
     try clear c14
     try clear c14b0
     try clear c15
     try clear c17
     try clear c17b0
     try clear c17b1
     try clear p2
     obtain ⟨x6_1, x9_1, rfl, HA, HK1, HO_5, HO_6, HI0, HK, HB⟩ := hrel
     cases gk with
     | zero => exact absurd HA.out (by simp [spec_l3DrawTwo.l1])
     | succ k1 =>
      have H := HA.out
      clear HA
      simp only [spec_l3DrawTwo.l1] at H
      by_cases c20 : x9_1 < t313
      ·rw [if_pos c20] at H
       have c20b0 : decide (x9_1 < t313) = true := decide_eq_true c20
       clear c20
       by_cases c21 : 0 ≤ x9_1
       ·rw [if_pos c21] at H
        have c21b0 : decide (0 ≤ x9_1) = true := decide_eq_true c21
        clear c21
        by_cases c22 : x9_1 < (t316.length : Int)
        ·rw [if_pos c22] at H
         have c22b0 : decide (x9_1 < (t316.length : Int)) = true := decide_eq_true c22
         clear c22
         by_cases c23 : x6_1.length < 17592186044416
         ·rw [if_pos c23] at H
          have LMc23 := Aside0.mk c23
          clear c23
          obtain ⟨y339, hy339⟩ : ∃ y_ : List Int, y_ = (x6_1 ++ [rd t316 x9_1]) := ⟨_, rfl⟩
          replace H : (spec_l3DrawTwo.l1 k1 t313 t316 y339 (wrap64 (x9_1 + 1)) s0_0 t327 t328) = some (r1, r2, r3, r4) := by first | (rw [hy339]; with_reducible exact H) | (have H2_ := (Option.bind_some _ _).symm.trans H; rw [hy339]; with_reducible exact H2_) | (have H2_ := (Option.bind_some _ _).symm.trans H; with_reducible exact H2_) | with_reducible exact H | (rw [hy339]; exact H) | exact H
          have Ny339 := Aside0.mk hy339
          clear hy339
          have H' := Aside0.mk H
          clear H
          obtain ⟨Ao24, co24, eo24⟩ := Kd.R_slice HO_5.out
          subst eo24
          have p338 : 0 ≤ (x9_1 : Int) := of_decide_eq_true (by first | (with_reducible assumption) | assumption)
          have q338 : x9_1 < (t316.length : Int) := of_decide_eq_true (by first | (with_reducible assumption) | assumption)
          obtain ⟨ad338, e338, hx338_0⟩ := Kd.at_int (Kd.R_reads' HO_5.out).2.2 x9_1 p338 q338
          cases e338
          replace p338 := eq_true p338
          replace q338 := eq_true q338
          go_wp2_with (first | ((with_reducible refine gate_builtin (b := .append) (xs := #[.tmp 40, .tmp 45]) rfl ?_); at_builtin; refine Kd.R_append (Kd.int .i64) w.heap.size rfl (.tmp 40) (.tmp 45) 24 2 (.int .i64 0) 8 rfl Try.underlying24 info2 rfl (by decide) (by omega) u6 x6_1 (rd t316 x9_1) [.int .i64 (rd t316 x9_1)] (fun k_ => some k_ ≠ (.slice (some ad338) t316.length co24 : Value).ownBlock) (fun _ => False) rfl rfl ?aP (fun _ hk => hk.elim) ?aF ?aO (Below.refl _ _) ?aS ?aL ?_; (case aP => exact rfl); (case aF => exact (fun k_ hk => Kd.fresh' (Kd.R_lt (Law.rg HO_5.out)) k_ hk)); (case aO => exact (Law.rg HO_6.out)); (case aS => exact (keep_size (w := w) (g := g) (row := none) (Law.kg HK))); (case aL => have := LMc23.out; omega); intro v340 w25 ho hb hg hat; rw [← Ny339.out] at ho; have HO341 := Aside0.mk (ho); replace HO_5 := Aside0.mk (Kd.R_after (ok := (fun _ => True)) (by (with_reducible repeat (first | apply Kd.R_alloc | apply Kd.R_drewN | apply Kd.R_drew)); exact Kd.R_mono HO_5.out (fun _ hk => ⟨trivial, hk⟩)) hg hat); replace HB := Aside0.mk (below_weaken (Law.bi HB (IsS111.ge HI0.out)) HL.out hb); replace HI0 := Aside0.mk (IsS111.grown (IsS111.ig HI0) hg (IsS111.own_ne HI0.out HO_6.out (by decide))); replace HK := Aside0.mk (KeepBut.trans (Law.kg HK) (KeepBut.of_grown hg g) (Kd.R_base2 HO_6.out)); clear HO_6; clear ho hb hg hat))
          go_roundg k1
          case measure => have := HK1.out; omega
          case rel => exact ⟨(y339), (wrap64 (x9_1 + 1)), (by first | rfl | (simp; done) | (simp [*]; done)), H', ⟨by have := HK1.out; omega⟩, ⟨by (with_reducible repeat (first | apply Kd.R_alloc | apply Kd.R_drewN | apply Kd.R_drew)); exact Kd.R_mono HO_5.out (fun _ hk => hk.2)⟩, ⟨by (with_reducible repeat (first | apply Kd.R_alloc | apply Kd.R_drewN | apply Kd.R_drew)); exact HO341.out⟩, ⟨by exact IsS111.ig HI0⟩, ⟨by exact Law.kg HK⟩, ⟨by exact Law.bi HB (IsS111.ge HI0.out)⟩⟩
         ·rw [if_neg c23] at H
          exact absurd H (by simp)
        ·rw [if_neg c22] at H
         exact absurd H (by simp)
       ·rw [if_neg c21] at H
        exact absurd H (by simp)
      ·rw [if_neg c20] at H
       have c20b0 : decide (x9_1 < t313) = false := decide_eq_false c20
       clear c20
       have H' := Aside0.mk H
       clear H
       go_wp2
       go_meet
       case rel => exact ⟨_, (t316), (x6_1), (t327), (t328), H', ⟨by have := HK1.out; first | omega | exact Nat.le_refl _⟩, ⟨by (with_reducible repeat (first | apply Kd.R_alloc | apply Kd.R_drewN | apply Kd.R_drew)); exact HO_5.out⟩, ⟨by (with_reducible repeat (first | apply Kd.R_alloc | apply Kd.R_drewN | apply Kd.R_drew)); exact HO_6.out⟩, ⟨by exact IsS111.ig HI0⟩, ⟨by exact Law.kg HK⟩, ⟨by exact Law.bi HB (IsS111.ge HI0.out)⟩⟩
   ·rw [if_neg c17] at H
    have c17b0 : (t326 == 1) = false := beq_eq_false_iff_ne.mpr c17
    have c17b1 : (t326 != 1) = true := bne_iff_ne.mpr c17
    by_cases c26 : t326 = 2
    ·rw [if_pos c26] at H
     have c26b0 : (t326 == 2) = true := beq_iff_eq.mpr c26
     have c26b1 : (t326 != 2) = false := bne_eq_false_iff_eq.mpr c26
     clear c26
     have H' := Aside0.mk H
     clear H
     go_wp2
     go_loopg [10] k (fun kq v10 w' => ∃ (x5_1 : List Int) (x10_1 : Int) (x1001_1 : Int) (x1002_1 : Int), v10 = .int .i64 x10_1 ∧ Aside0 (spec_l3DrawTwo.l2 kq t313 x5_1 t321 x10_1 s0_0 x1001_1 x1002_1 = some (r1, r2, r3, r4)) ∧ Aside0 (kq ≤ k) ∧ Aside0 (Kd.R (Kd.int .i64) 2 w' w.heap.size (fun k_ => some k_ ≠ (v322 : Value).ownBlock) v317 x5_1) ∧ Aside0 (Kd.R (Kd.int .i64) 2 w' w.heap.size (fun k_ => some k_ ≠ (v317 : Value).ownBlock) v322 t321) ∧ Aside0 (IsS111 w0 w' g s0_0 x1001_1 x1002_1) ∧ Aside0 (KeepBut w w' g none) ∧ Aside0 (Below w0.heap.size w0 w'))
     case atStart => exact ⟨(t316), (2), (t327), (t328), (by first | rfl | (simp; done) | (simp [*]; done)), H', ⟨Nat.le_refl _⟩, ⟨by (with_reducible repeat (first | apply Kd.R_alloc | apply Kd.R_drewN | apply Kd.R_drew)); exact Kd.R_mono HO318.out (fun _ hk => hk.2)⟩, ⟨by (with_reducible repeat (first | apply Kd.R_alloc | apply Kd.R_drewN | apply Kd.R_drew)); exact Kd.R_mono HO323.out (fun _ hk => hk.2)⟩, ⟨by exact IsS111.ig HI0⟩, ⟨by exact Law.kg HK⟩, ⟨by exact Law.bi HB (IsS111.ge HI0.out)⟩⟩
     case round =>
      clear H'
      try clear c1
      try clear c2
      try clear p2
      try clear p3
      try clear q3
      try clear hx3
      try clear p6
      try clear c9
      try clear c10
      try clear c11
      try clear c11b0
      try clear c11b1
      try clear c14
      try clear c14b0
      try clear c15
      try clear c17
      try clear c17b0
      try clear c17b1
      try clear c20
      try clear c20b0
      try clear c21
      try clear c21b0
      try clear c22
      try clear c22b0
      try clear c23
      try clear c26
      try clear c26b0
      try clear c26b1
      try clear hx338_0
      try clear p2
      try clear p338
      try clear p6
      try clear q338
      obtain ⟨x5_1, x10_1, x1001_1, x1002_1, rfl, HA, HK1, HO_5, HO_6, HI0, HK, HB⟩ := hrel
      cases gk with
      | zero => exact absurd HA.out (by simp [spec_l3DrawTwo.l2])
      | succ k1 =>
       have H := HA.out
       clear HA
       simp only [spec_l3DrawTwo.l2] at H
       by_cases c27 : x10_1 < t313
       ·rw [if_pos c27] at H
        have c27b0 : decide (x10_1 < t313) = true := decide_eq_true c27
        clear c27
        replace H := Option.bind_eq_some_iff.mp H
        obtain ⟨⟨t342, t343, t344⟩, A280, H⟩ := H
        replace H : (if t342 > 0 then ((spec_l1Next.f s0_0 t343 t344 2).bind fun bt345 => (if 0 ≤ x10_1 then (if x10_1 < (x5_1.length : Int) then (spec_l3DrawTwo.l2 k1 t313 (x5_1.set (x10_1 : Int).toNat (wrap64 (1 + bt345.1))) t321 (wrap64 (x10_1 + 1)) s0_0 bt345.2.1 bt345.2.2) else (none)) else (none))) else (spec_l3DrawTwo.l2 k1 t313 x5_1 t321 (wrap64 (x10_1 + 1)) s0_0 t343 t344)) = some (r1, r2, r3, r4) := H
        have A28 := Aside0.mk A280
        clear A280
        by_cases c29 : t342 > 0
        ·rw [if_pos c29] at H
         have c29b0 : decide (0 < t342) = true := decide_eq_true c29
         clear c29
         replace H := Option.bind_eq_some_iff.mp H
         obtain ⟨⟨t345, t346, t347⟩, A300, H⟩ := H
         replace H : (if 0 ≤ x10_1 then (if x10_1 < (x5_1.length : Int) then (spec_l3DrawTwo.l2 k1 t313 (x5_1.set (x10_1 : Int).toNat (wrap64 (1 + t345))) t321 (wrap64 (x10_1 + 1)) s0_0 t346 t347) else (none)) else (none)) = some (r1, r2, r3, r4) := H
         have A30 := Aside0.mk A300
         clear A300
         by_cases c31 : 0 ≤ x10_1
         ·rw [if_pos c31] at H
          have c31b0 : decide (0 ≤ x10_1) = true := decide_eq_true c31
          clear c31
          by_cases c32 : x10_1 < (x5_1.length : Int)
          ·rw [if_pos c32] at H
           have c32b0 : decide (x10_1 < (x5_1.length : Int)) = true := decide_eq_true c32
           clear c32
           obtain ⟨y348, hy348⟩ : ∃ y_ : List Int, y_ = (x5_1.set (x10_1 : Int).toNat (wrap64 (1 + t345))) := ⟨_, rfl⟩
           replace H : (spec_l3DrawTwo.l2 k1 t313 y348 t321 (wrap64 (x10_1 + 1)) s0_0 t346 t347) = some (r1, r2, r3, r4) := by first | (rw [hy348]; with_reducible exact H) | (have H2_ := (Option.bind_some _ _).symm.trans H; rw [hy348]; with_reducible exact H2_) | (have H2_ := (Option.bind_some _ _).symm.trans H; with_reducible exact H2_) | with_reducible exact H | (rw [hy348]; exact H) | exact H
           have Ny348 := Aside0.mk hy348
           clear hy348
           have H' := Aside0.mk H
           clear H
           go_wp2_with (first | ((with_reducible refine gate_callee (f := 91) rfl ?_); refine goesL_ (some 55) rfl rfl Try.func91 (by kernel_rfl) rfl #[.pointer (some ⟨g, 0, none⟩), .int .i64 12] rfl (by (try simp only [List.map_toArray, List.map_cons, List.map_nil]); first | done | rfl | (simp only [List.length_drop, List.length_take]; rfl)) ?_; (with_reducible refine (spec_l1Next.calls g s0_0 x1001_1 x1002_1 12 t342 t343 t344 w0 _ ?side1 ?side2 A28.out).mono ?_); (case side1 => exact IsS111.ig HI0); (case side2 => exact Law.bi HB (IsS111.ge HI0.out)); rintro e w34 ⟨rfl, hi, hb, hk⟩; refine ⟨_, rfl, ?_⟩; replace HO_5 := Aside0.mk (Kd.R_mono (Kd.R_keep (IsS111.apart (show IsS111 w0 _ g s0_0 x1001_1 x1002_1 from by exact IsS111.ig HI0) (Law.rg HO_5.out) (by decide)) hk (fun _ h => h.2)) (fun _ h => h.1)); replace HO_6 := Aside0.mk (Kd.R_mono (Kd.R_keep (IsS111.apart (show IsS111 w0 _ g s0_0 x1001_1 x1002_1 from by exact IsS111.ig HI0) (Law.rg HO_6.out) (by decide)) hk (fun _ h => h.2)) (fun _ h => h.1)); replace HK := Aside0.mk (KeepBut.trans (Law.kg HK) hk (.inl rfl)); replace HB := Aside0.mk (hb); replace HI0 := Aside0.mk (hi); (try clear hb); (try clear hk); (try clear hi)) | ((with_reducible refine gate_callee (f := 91) rfl ?_); refine goesL_ (some 60) rfl rfl Try.func91 (by kernel_rfl) rfl #[.pointer (some ⟨g, 0, none⟩), .int .i64 2] rfl (by (try simp only [List.map_toArray, List.map_cons, List.map_nil]); first | done | rfl | (simp only [List.length_drop, List.length_take]; rfl)) ?_; (with_reducible refine (spec_l1Next.calls g s0_0 t343 t344 2 t345 t346 t347 w0 _ ?side1 ?side2 A30.out).mono ?_); (case side1 => exact IsS111.ig HI0); (case side2 => exact Law.bi HB (IsS111.ge HI0.out)); rintro e w35 ⟨rfl, hi, hb, hk⟩; refine ⟨_, rfl, ?_⟩; replace HO_5 := Aside0.mk (Kd.R_mono (Kd.R_keep (IsS111.apart (show IsS111 w0 _ g s0_0 t343 t344 from by exact IsS111.ig HI0) (Law.rg HO_5.out) (by decide)) hk (fun _ h => h.2)) (fun _ h => h.1)); replace HO_6 := Aside0.mk (Kd.R_mono (Kd.R_keep (IsS111.apart (show IsS111 w0 _ g s0_0 t343 t344 from by exact IsS111.ig HI0) (Law.rg HO_6.out) (by decide)) hk (fun _ h => h.2)) (fun _ h => h.1)); replace HK := Aside0.mk (KeepBut.trans (Law.kg HK) hk (.inl rfl)); replace HB := Aside0.mk (hb); replace HI0 := Aside0.mk (hi); (try clear hb); (try clear hk); (try clear hi); have p33 : 0 ≤ (x10_1 : Int) := of_decide_eq_true (by first | (with_reducible assumption) | assumption); have q33 : (x10_1 : Int) < ((x5_1.length : Int) : Int) := of_decide_eq_true (by first | (with_reducible assumption) | assumption); obtain ⟨go33, co33, eo33, gb33, gl33, cl33, HG33⟩ := Kd.R_form HO_5.out (by omega); (first | cases eo33 | (injection eo33 with ea_ en_ ec_; (first | subst ea_ | (injection ea_ with ea_; subst ea_)); subst ec_; clear en_)); have GB33 := Aside0.mk gb33; have GG33 := Aside0.mk HG33; clear gb33 gl33 HG33; obtain ⟨hx33_0, hf33_0⟩ := Kd.R_celln 0 HO_5.out (x10_1 : Int) p33 q33; replace p33 := eq_true p33; replace q33 := eq_true q33; obtain ⟨hy36_, hz36_⟩ := Kd.R_celln 0 HO_5.out (x10_1 : Int) (of_decide_eq_true (by first | (with_reducible assumption) | assumption)) (of_decide_eq_true (by first | (with_reducible assumption) | assumption)); have HP36 := Kd.R_putg HO_5.out (x10_1 : Int) (wrap64 (1 + t345))) | ((with_reducible refine gate_store (t := 2) (p := 62) rfl ?_); refine store_event (t := 2) (p := 62) (v := ?vo_w37) (w1 := (w35.setCell ⟨go33, (x10_1 : Int).toNat, none⟩ (.int .i64 (wrap64 (1 + t345))))) ?hg ?ho ?hn ?hr ?_; (case ho => rfl); (case hg => rfl); (case hn => rfl); (case hr => first | (go_simp; done) | (go_simp; rfl)); intro w37 hw; have hg : w35.grownBy w37 (some go33) := (by rw [hw]; exact HP36.2); have hp_ : Kd.R (Kd.int .i64) 2 w37 w.heap.size (fun k_ => some k_ ≠ (v322 : Value).ownBlock) (.slice (some ⟨go33, 0, none⟩) x5_1.length co33) y348 := (by rw [hw, Ny348.out]; exact HP36.1); clear HP36; replace HO_6 := Aside0.mk (Kd.R_after (v := (.slice (some ⟨go33, 0, none⟩) x5_1.length co33)) (v1 := (.slice (some ⟨go33, 0, none⟩) x5_1.length co33)) (ok := (fun _ => True)) (by (with_reducible repeat (first | apply Kd.R_alloc | apply Kd.R_drewN | apply Kd.R_drew)); exact Kd.R_mono HO_6.out (fun _ hk => ⟨trivial, hk⟩)) hg (.inl rfl)); replace HI0 := Aside0.mk (IsS111.grown (IsS111.ig HI0) hg (IsS111.own_ne HI0.out HO_5.out (by decide))); replace HB := Aside0.mk ((by rw [hw]; exact below_set (HB.out) (Nat.le_trans HL.out GB33.out) : Below w0.heap.size w0 w37)); replace HK := Aside0.mk (KeepBut.trans (Law.kg HK) (KeepBut.of_grown hg g) (Kd.R_base2 HO_5.out)); replace HO_5 := Aside0.mk (hp_); clear hg hw hp_))
           go_roundg k1
           case measure => have := HK1.out; omega
           case rel => exact ⟨(y348), (wrap64 (x10_1 + 1)), (t346), (t347), (by first | rfl | (simp; done) | (simp [*]; done)), H', ⟨by have := HK1.out; omega⟩, ⟨by (with_reducible repeat (first | apply Kd.R_alloc | apply Kd.R_drewN | apply Kd.R_drew)); exact HO_5.out⟩, ⟨by (with_reducible repeat (first | apply Kd.R_alloc | apply Kd.R_drewN | apply Kd.R_drew)); exact Kd.R_mono HO_6.out (fun _ hk => hk.2)⟩, ⟨by exact IsS111.ig HI0⟩, ⟨by exact Law.kg HK⟩, ⟨by exact Law.bi HB (IsS111.ge HI0.out)⟩⟩
          ·rw [if_neg c32] at H
           exact absurd H (by simp)
         ·rw [if_neg c31] at H
          exact absurd H (by simp)
        ·rw [if_neg c29] at H
         have c29b0 : decide (0 < t342) = false := decide_eq_false c29
         clear c29
         have H' := Aside0.mk H
         clear H
         go_wp2_with (first | ((with_reducible refine gate_callee (f := 91) rfl ?_); refine goesL_ (some 55) rfl rfl Try.func91 (by kernel_rfl) rfl #[.pointer (some ⟨g, 0, none⟩), .int .i64 12] rfl (by (try simp only [List.map_toArray, List.map_cons, List.map_nil]); first | done | rfl | (simp only [List.length_drop, List.length_take]; rfl)) ?_; (with_reducible refine (spec_l1Next.calls g s0_0 x1001_1 x1002_1 12 t342 t343 t344 w0 _ ?side1 ?side2 A28.out).mono ?_); (case side1 => exact IsS111.ig HI0); (case side2 => exact Law.bi HB (IsS111.ge HI0.out)); rintro e w38 ⟨rfl, hi, hb, hk⟩; refine ⟨_, rfl, ?_⟩; replace HO_5 := Aside0.mk (Kd.R_mono (Kd.R_keep (IsS111.apart (show IsS111 w0 _ g s0_0 x1001_1 x1002_1 from by exact IsS111.ig HI0) (Law.rg HO_5.out) (by decide)) hk (fun _ h => h.2)) (fun _ h => h.1)); replace HO_6 := Aside0.mk (Kd.R_mono (Kd.R_keep (IsS111.apart (show IsS111 w0 _ g s0_0 x1001_1 x1002_1 from by exact IsS111.ig HI0) (Law.rg HO_6.out) (by decide)) hk (fun _ h => h.2)) (fun _ h => h.1)); replace HK := Aside0.mk (KeepBut.trans (Law.kg HK) hk (.inl rfl)); replace HB := Aside0.mk (hb); replace HI0 := Aside0.mk (hi); (try clear hb); (try clear hk); (try clear hi)))
         go_roundg k1
         case measure => have := HK1.out; omega
         case rel => exact ⟨(x5_1), (wrap64 (x10_1 + 1)), (t343), (t344), (by first | rfl | (simp; done) | (simp [*]; done)), H', ⟨by have := HK1.out; omega⟩, ⟨by (with_reducible repeat (first | apply Kd.R_alloc | apply Kd.R_drewN | apply Kd.R_drew)); exact HO_5.out⟩, ⟨by (with_reducible repeat (first | apply Kd.R_alloc | apply Kd.R_drewN | apply Kd.R_drew)); exact HO_6.out⟩, ⟨by exact IsS111.ig HI0⟩, ⟨by exact Law.kg HK⟩, ⟨by exact Law.bi HB (IsS111.ge HI0.out)⟩⟩
       ·rw [if_neg c27] at H
        have c27b0 : decide (x10_1 < t313) = false := decide_eq_false c27
        clear c27
        have H' := Aside0.mk H
        clear H
        go_wp2
        go_meet
        case rel => exact ⟨_, (x5_1), (t321), (x1001_1), (x1002_1), H', ⟨by have := HK1.out; first | omega | exact Nat.le_refl _⟩, ⟨by (with_reducible repeat (first | apply Kd.R_alloc | apply Kd.R_drewN | apply Kd.R_drew)); exact HO_5.out⟩, ⟨by (with_reducible repeat (first | apply Kd.R_alloc | apply Kd.R_drewN | apply Kd.R_drew)); exact HO_6.out⟩, ⟨by exact IsS111.ig HI0⟩, ⟨by exact Law.kg HK⟩, ⟨by exact Law.bi HB (IsS111.ge HI0.out)⟩⟩
    ·rw [if_neg c26] at H
     have c26b0 : (t326 == 2) = false := beq_eq_false_iff_ne.mpr c26
     have c26b1 : (t326 != 2) = true := bne_iff_ne.mpr c26
     have H' := Aside0.mk H
     clear H
     go_wp2
     go_meet
     case rel => exact ⟨_, (t316), (t321), (t327), (t328), H', ⟨by first | omega | exact Nat.le_refl _⟩, ⟨by (with_reducible repeat (first | apply Kd.R_alloc | apply Kd.R_drewN | apply Kd.R_drew)); exact Kd.R_mono HO318.out (fun _ hk => hk.2)⟩, ⟨by (with_reducible repeat (first | apply Kd.R_alloc | apply Kd.R_drewN | apply Kd.R_drew)); exact Kd.R_mono HO323.out (fun _ hk => hk.2)⟩, ⟨by exact IsS111.ig HI0⟩, ⟨by exact Law.kg HK⟩, ⟨by exact Law.bi HB (IsS111.ge HI0.out)⟩⟩
 case rest =>
  clear HC6
  try clear c1
  try clear c2
  try clear p2
  try clear c3
  try clear p3
  try clear q3
  try clear hx3
  try clear hf3
  try clear p6
  try clear c9
  try clear c10
  try clear c11
  try clear c11b0
  try clear c11b1
  try clear c14
  try clear c14b0
  try clear c15
  try clear c17
  try clear c17b0
  try clear c17b1
  try clear c20
  try clear c20b0
  try clear c21
  try clear c21b0
  try clear c22
  try clear c22b0
  try clear c23
  try clear c26
  try clear c26b0
  try clear c26b1
  try clear c27
  try clear c27b0
  try clear c29
  try clear c29b0
  try clear c31
  try clear c31b0
  try clear c32
  try clear c32b0
  try clear p33
  try clear q33
  try clear hx33
  try clear hf33
  try clear hx338_0
  try clear hx33_0
  try clear p2
  try clear p3
  try clear p33
  try clear p338
  try clear p6
  try clear q3
  try clear q33
  try clear q338
  obtain ⟨kq, x5_5, x6_5, x1001_5, x1002_5, HA, HJ5, HO_5, HO_6, HI0, HK, HB⟩ := hcut
  cases kq with
  | zero => exact absurd HA.out (by simp [spec_l3DrawTwo.j3])
  | succ kj5 =>
   have H := HA.out
   clear HA
   simp only [spec_l3DrawTwo.j3] at H
   replace H := Option.bind_eq_some_iff.mp H
   obtain ⟨⟨t349, t350, t351⟩, A390, H⟩ := H
   replace H : (if t349 = 0 then ((spec_l3SpoilCounts.f kj5 s0_0 t350 t351 x5_5).bind fun bt352 => (some (bt352.1, x6_5, bt352.2.1, bt352.2.2))) else ((spec_l1Next.f s0_0 t350 t351 8).bind fun bt357 => (if bt357.1 = 0 then ((spec_l3SpoilCounts.f kj5 s0_0 bt357.2.1 bt357.2.2 x6_5).bind fun bt360 => (some (x5_5, bt360.1, bt360.2.1, bt360.2.2))) else (some (x5_5, x6_5, bt357.2.1, bt357.2.2))))) = some (r1, r2, r3, r4) := H
   have A39 := Aside0.mk A390
   clear A390
   by_cases c40 : t349 = 0
   ·rw [if_pos c40] at H
    have c40b0 : (t349 == 0) = true := beq_iff_eq.mpr c40
    have c40b1 : (t349 != 0) = false := bne_eq_false_iff_eq.mpr c40
    clear c40
    replace H := Option.bind_eq_some_iff.mp H
    obtain ⟨⟨t352, t355, t356⟩, A410, H⟩ := H
    replace H : (some (t352, x6_5, t355, t356)) = some (r1, r2, r3, r4) := H
    have A41 := Aside0.mk A410
    clear A410
    simp only [Option.some.injEq, Prod.mk.injEq] at H
    obtain ⟨rfl, rfl, rfl, rfl⟩ := H
    go_wp2_with (first | ((with_reducible refine gate_callee (f := 91) rfl ?_); refine goesL_ (some 64) rfl rfl Try.func91 (by kernel_rfl) rfl #[.pointer (some ⟨g, 0, none⟩), .int .i64 8] rfl (by (try simp only [List.map_toArray, List.map_cons, List.map_nil]); first | done | rfl | (simp only [List.length_drop, List.length_take]; rfl)) ?_; (with_reducible refine (spec_l1Next.calls g s0_0 x1001_5 x1002_5 8 t349 t350 t351 w0 _ ?side1 ?side2 A39.out).mono ?_); (case side1 => exact IsS111.ig HI0); (case side2 => exact Law.bi HB (IsS111.ge HI0.out)); rintro e w42 ⟨rfl, hi, hb, hk⟩; refine ⟨_, rfl, ?_⟩; replace HO_5 := Aside0.mk (Kd.R_mono (Kd.R_keep (IsS111.apart (show IsS111 w0 _ g s0_0 x1001_5 x1002_5 from by exact IsS111.ig HI0) (Law.rg HO_5.out) (by decide)) hk (fun _ h => h.2)) (fun _ h => h.1)); replace HO_6 := Aside0.mk (Kd.R_mono (Kd.R_keep (IsS111.apart (show IsS111 w0 _ g s0_0 x1001_5 x1002_5 from by exact IsS111.ig HI0) (Law.rg HO_6.out) (by decide)) hk (fun _ h => h.2)) (fun _ h => h.1)); replace HK := Aside0.mk (KeepBut.trans (Law.kg HK) hk (.inl rfl)); replace HB := Aside0.mk (hb); replace HI0 := Aside0.mk (hi); (try clear hb); (try clear hk); (try clear hi); obtain ⟨Ao43, co43, eo43⟩ := Kd.R_slice HO_5.out; subst eo43) | ((with_reducible refine gate_callee (f := 107) rfl ?_); refine goesL_ (some 68) rfl rfl Try.func107 (by kernel_rfl) rfl #[.pointer (some ⟨g, 0, none⟩), .slice Ao43 x5_5.length co43] rfl (by (try simp only [List.map_toArray, List.map_cons, List.map_nil]); first | done | rfl | (simp only [List.length_drop, List.length_take]; rfl)) ?_; (with_reducible refine (spec_l3SpoilCounts.calls kj5 g s0_0 t350 t351 (fun k_ => some k_ = (.slice Ao43 x5_5.length co43 : Value).ownBlock) (.slice Ao43 x5_5.length co43) x5_5 t352 t355 t356 w0 _ ?side1 ?side2 ?side3 A41.out).mono ?_); (case side1 => exact IsS111.ig HI0); (case side2 => exact Law.bi HB (IsS111.ge HI0.out)); (case side3 => exact Kd.R_lower (Kd.R_tight rfl HO_5.out) HL.out); rintro e w44 ⟨v353, rfl, ho0, hi, hb, hkp⟩; refine ⟨_, rfl, ?_⟩; have HO354 := Aside0.mk (Kd.R_mono (ok' := fun k_ => some k_ ≠ (u6 : Value).ownBlock) (Kd.R_raise (d := (Kd.int .i64)) (b := w0.heap.size) (b' := w.heap.size) (fun _ _ _ _ h_ => h_) ho0 (fun k_ e_ => Or.elim (ho0.1 k_ e_) (fun hs_ => (fun e_ => Kd.R_base HO_5.out k_ e_.symm) hs_) (fun hn_ => Nat.le_trans (keep_size (w := w) (g := g) (row := none) (Law.kg HK)) hn_))) (fun k_ hk_ => Or.elim hk_ (fun hs_ => fun e_ => ((((IsS111.apart HI0.out HO_6.out (by decide))).1 k_ e_.symm).1) hs_) (fun hn_ => (Kd.fresh' (Kd.R_lt (Law.rg HO_6.out)) k_ hn_)))); replace HO_6 := Aside0.mk (Kd.R_mono (ok' := fun k_ => some k_ ≠ (v353 : Value).ownBlock) (Kd.R_keptB ((IsS111.apart HI0.out HO_6.out (by decide))) hkp (fun k_ hk_ hs_ => Or.elim hs_ (fun hs_ => (hk_.1) hs_) (fun e_ => (hk_.2) e_))) (fun k_ hk_ => fun e_ => Or.elim (ho0.1 k_ e_.symm) (fun hs_ => hk_.2.1 (by first | exact hs_ | exact .inl hs_)) (fun hn_ => Nat.not_le.2 hk_.2.2 hn_))); replace HI0 := Aside0.mk (hi); replace HK := Aside0.mk (Kept.keepG (Law.kg HK) hkp (fun k_ hs_ => Or.elim hs_ (fun hs_ => (fun e_ => .inr (Kd.R_base HO_5.out k_ e_.symm)) hs_) (fun e_ => .inl e_))); replace HB := Aside0.mk (hb); clear HO_5; (try clear hb); (try clear hkp); (try clear ho0)))
    go_ret2
    exact ⟨_, _, by first | rfl | (simp [errW_none, errW_some] <;> rfl) | (simp [*, errW_none, errW_some] <;> rfl), by (with_reducible repeat (first | apply Kd.R_alloc | apply Kd.R_drewN | apply Kd.R_drew)); exact HO354.out, by (with_reducible repeat (first | apply Kd.R_alloc | apply Kd.R_drewN | apply Kd.R_drew)); exact HO_6.out, by exact IsS111.ig HI0, by exact Law.bi HB (IsS111.ge HI0.out), by exact Law.kg HK⟩
   ·rw [if_neg c40] at H
    have c40b0 : (t349 == 0) = false := beq_eq_false_iff_ne.mpr c40
    have c40b1 : (t349 != 0) = true := bne_iff_ne.mpr c40
    replace H := Option.bind_eq_some_iff.mp H
    obtain ⟨⟨t357, t358, t359⟩, A450, H⟩ := H
    replace H : (if t357 = 0 then ((spec_l3SpoilCounts.f kj5 s0_0 t358 t359 x6_5).bind fun bt360 => (some (x5_5, bt360.1, bt360.2.1, bt360.2.2))) else (some (x5_5, x6_5, t358, t359))) = some (r1, r2, r3, r4) := H
    have A45 := Aside0.mk A450
    clear A450
    by_cases c46 : t357 = 0
    ·rw [if_pos c46] at H
     have c46b0 : (t357 == 0) = true := beq_iff_eq.mpr c46
     have c46b1 : (t357 != 0) = false := bne_eq_false_iff_eq.mpr c46
     clear c46
     replace H := Option.bind_eq_some_iff.mp H
     obtain ⟨⟨t360, t363, t364⟩, A470, H⟩ := H
     replace H : (some (x5_5, t360, t363, t364)) = some (r1, r2, r3, r4) := H
     have A47 := Aside0.mk A470
     clear A470
     simp only [Option.some.injEq, Prod.mk.injEq] at H
     obtain ⟨rfl, rfl, rfl, rfl⟩ := H
     go_wp2_with (first | ((with_reducible refine gate_callee (f := 91) rfl ?_); refine goesL_ (some 64) rfl rfl Try.func91 (by kernel_rfl) rfl #[.pointer (some ⟨g, 0, none⟩), .int .i64 8] rfl (by (try simp only [List.map_toArray, List.map_cons, List.map_nil]); first | done | rfl | (simp only [List.length_drop, List.length_take]; rfl)) ?_; (with_reducible refine (spec_l1Next.calls g s0_0 x1001_5 x1002_5 8 t349 t350 t351 w0 _ ?side1 ?side2 A39.out).mono ?_); (case side1 => exact IsS111.ig HI0); (case side2 => exact Law.bi HB (IsS111.ge HI0.out)); rintro e w48 ⟨rfl, hi, hb, hk⟩; refine ⟨_, rfl, ?_⟩; replace HO_5 := Aside0.mk (Kd.R_mono (Kd.R_keep (IsS111.apart (show IsS111 w0 _ g s0_0 x1001_5 x1002_5 from by exact IsS111.ig HI0) (Law.rg HO_5.out) (by decide)) hk (fun _ h => h.2)) (fun _ h => h.1)); replace HO_6 := Aside0.mk (Kd.R_mono (Kd.R_keep (IsS111.apart (show IsS111 w0 _ g s0_0 x1001_5 x1002_5 from by exact IsS111.ig HI0) (Law.rg HO_6.out) (by decide)) hk (fun _ h => h.2)) (fun _ h => h.1)); replace HK := Aside0.mk (KeepBut.trans (Law.kg HK) hk (.inl rfl)); replace HB := Aside0.mk (hb); replace HI0 := Aside0.mk (hi); (try clear hb); (try clear hk); (try clear hi)) | ((with_reducible refine gate_callee (f := 91) rfl ?_); refine goesL_ (some 70) rfl rfl Try.func91 (by kernel_rfl) rfl #[.pointer (some ⟨g, 0, none⟩), .int .i64 8] rfl (by (try simp only [List.map_toArray, List.map_cons, List.map_nil]); first | done | rfl | (simp only [List.length_drop, List.length_take]; rfl)) ?_; (with_reducible refine (spec_l1Next.calls g s0_0 t350 t351 8 t357 t358 t359 w0 _ ?side1 ?side2 A45.out).mono ?_); (case side1 => exact IsS111.ig HI0); (case side2 => exact Law.bi HB (IsS111.ge HI0.out)); rintro e w49 ⟨rfl, hi, hb, hk⟩; refine ⟨_, rfl, ?_⟩; replace HO_5 := Aside0.mk (Kd.R_mono (Kd.R_keep (IsS111.apart (show IsS111 w0 _ g s0_0 t350 t351 from by exact IsS111.ig HI0) (Law.rg HO_5.out) (by decide)) hk (fun _ h => h.2)) (fun _ h => h.1)); replace HO_6 := Aside0.mk (Kd.R_mono (Kd.R_keep (IsS111.apart (show IsS111 w0 _ g s0_0 t350 t351 from by exact IsS111.ig HI0) (Law.rg HO_6.out) (by decide)) hk (fun _ h => h.2)) (fun _ h => h.1)); replace HK := Aside0.mk (KeepBut.trans (Law.kg HK) hk (.inl rfl)); replace HB := Aside0.mk (hb); replace HI0 := Aside0.mk (hi); (try clear hb); (try clear hk); (try clear hi); obtain ⟨Ao50, co50, eo50⟩ := Kd.R_slice HO_6.out; subst eo50) | ((with_reducible refine gate_callee (f := 107) rfl ?_); refine goesL_ (some 74) rfl rfl Try.func107 (by kernel_rfl) rfl #[.pointer (some ⟨g, 0, none⟩), .slice Ao50 x6_5.length co50] rfl (by (try simp only [List.map_toArray, List.map_cons, List.map_nil]); first | done | rfl | (simp only [List.length_drop, List.length_take]; rfl)) ?_; (with_reducible refine (spec_l3SpoilCounts.calls kj5 g s0_0 t358 t359 (fun k_ => some k_ = (.slice Ao50 x6_5.length co50 : Value).ownBlock) (.slice Ao50 x6_5.length co50) x6_5 t360 t363 t364 w0 _ ?side1 ?side2 ?side3 A47.out).mono ?_); (case side1 => exact IsS111.ig HI0); (case side2 => exact Law.bi HB (IsS111.ge HI0.out)); (case side3 => exact Kd.R_lower (Kd.R_tight rfl HO_6.out) HL.out); rintro e w51 ⟨v361, rfl, ho0, hi, hb, hkp⟩; refine ⟨_, rfl, ?_⟩; have HO362 := Aside0.mk (Kd.R_mono (ok' := fun k_ => some k_ ≠ (v317 : Value).ownBlock) (Kd.R_raise (d := (Kd.int .i64)) (b := w0.heap.size) (b' := w.heap.size) (fun _ _ _ _ h_ => h_) ho0 (fun k_ e_ => Or.elim (ho0.1 k_ e_) (fun hs_ => (fun e_ => Kd.R_base HO_6.out k_ e_.symm) hs_) (fun hn_ => Nat.le_trans (keep_size (w := w) (g := g) (row := none) (Law.kg HK)) hn_))) (fun k_ hk_ => Or.elim hk_ (fun hs_ => fun e_ => ((((IsS111.apart HI0.out HO_5.out (by decide))).1 k_ e_.symm).1) hs_) (fun hn_ => (Kd.fresh' (Kd.R_lt (Law.rg HO_5.out)) k_ hn_)))); replace HO_5 := Aside0.mk (Kd.R_mono (ok' := fun k_ => some k_ ≠ (v361 : Value).ownBlock) (Kd.R_keptB ((IsS111.apart HI0.out HO_5.out (by decide))) hkp (fun k_ hk_ hs_ => Or.elim hs_ (fun hs_ => (hk_.1) hs_) (fun e_ => (hk_.2) e_))) (fun k_ hk_ => fun e_ => Or.elim (ho0.1 k_ e_.symm) (fun hs_ => hk_.2.1 (by first | exact hs_ | exact .inl hs_)) (fun hn_ => Nat.not_le.2 hk_.2.2 hn_))); replace HI0 := Aside0.mk (hi); replace HK := Aside0.mk (Kept.keepG (Law.kg HK) hkp (fun k_ hs_ => Or.elim hs_ (fun hs_ => (fun e_ => .inr (Kd.R_base HO_6.out k_ e_.symm)) hs_) (fun e_ => .inl e_))); replace HB := Aside0.mk (hb); clear HO_6; (try clear hb); (try clear hkp); (try clear ho0)))
     go_ret2
     exact ⟨_, _, by first | rfl | (simp [errW_none, errW_some] <;> rfl) | (simp [*, errW_none, errW_some] <;> rfl), by (with_reducible repeat (first | apply Kd.R_alloc | apply Kd.R_drewN | apply Kd.R_drew)); exact HO_5.out, by (with_reducible repeat (first | apply Kd.R_alloc | apply Kd.R_drewN | apply Kd.R_drew)); exact HO362.out, by exact IsS111.ig HI0, by exact Law.bi HB (IsS111.ge HI0.out), by exact Law.kg HK⟩
    ·rw [if_neg c46] at H
     have c46b0 : (t357 == 0) = false := beq_eq_false_iff_ne.mpr c46
     have c46b1 : (t357 != 0) = true := bne_iff_ne.mpr c46
     simp only [Option.some.injEq, Prod.mk.injEq] at H
     obtain ⟨rfl, rfl, rfl, rfl⟩ := H
     go_wp2_with (first | ((with_reducible refine gate_callee (f := 91) rfl ?_); refine goesL_ (some 64) rfl rfl Try.func91 (by kernel_rfl) rfl #[.pointer (some ⟨g, 0, none⟩), .int .i64 8] rfl (by (try simp only [List.map_toArray, List.map_cons, List.map_nil]); first | done | rfl | (simp only [List.length_drop, List.length_take]; rfl)) ?_; (with_reducible refine (spec_l1Next.calls g s0_0 x1001_5 x1002_5 8 t349 t350 t351 w0 _ ?side1 ?side2 A39.out).mono ?_); (case side1 => exact IsS111.ig HI0); (case side2 => exact Law.bi HB (IsS111.ge HI0.out)); rintro e w52 ⟨rfl, hi, hb, hk⟩; refine ⟨_, rfl, ?_⟩; replace HO_5 := Aside0.mk (Kd.R_mono (Kd.R_keep (IsS111.apart (show IsS111 w0 _ g s0_0 x1001_5 x1002_5 from by exact IsS111.ig HI0) (Law.rg HO_5.out) (by decide)) hk (fun _ h => h.2)) (fun _ h => h.1)); replace HO_6 := Aside0.mk (Kd.R_mono (Kd.R_keep (IsS111.apart (show IsS111 w0 _ g s0_0 x1001_5 x1002_5 from by exact IsS111.ig HI0) (Law.rg HO_6.out) (by decide)) hk (fun _ h => h.2)) (fun _ h => h.1)); replace HK := Aside0.mk (KeepBut.trans (Law.kg HK) hk (.inl rfl)); replace HB := Aside0.mk (hb); replace HI0 := Aside0.mk (hi); (try clear hb); (try clear hk); (try clear hi)) | ((with_reducible refine gate_callee (f := 91) rfl ?_); refine goesL_ (some 70) rfl rfl Try.func91 (by kernel_rfl) rfl #[.pointer (some ⟨g, 0, none⟩), .int .i64 8] rfl (by (try simp only [List.map_toArray, List.map_cons, List.map_nil]); first | done | rfl | (simp only [List.length_drop, List.length_take]; rfl)) ?_; (with_reducible refine (spec_l1Next.calls g s0_0 t350 t351 8 t357 t358 t359 w0 _ ?side1 ?side2 A45.out).mono ?_); (case side1 => exact IsS111.ig HI0); (case side2 => exact Law.bi HB (IsS111.ge HI0.out)); rintro e w53 ⟨rfl, hi, hb, hk⟩; refine ⟨_, rfl, ?_⟩; replace HO_5 := Aside0.mk (Kd.R_mono (Kd.R_keep (IsS111.apart (show IsS111 w0 _ g s0_0 t350 t351 from by exact IsS111.ig HI0) (Law.rg HO_5.out) (by decide)) hk (fun _ h => h.2)) (fun _ h => h.1)); replace HO_6 := Aside0.mk (Kd.R_mono (Kd.R_keep (IsS111.apart (show IsS111 w0 _ g s0_0 t350 t351 from by exact IsS111.ig HI0) (Law.rg HO_6.out) (by decide)) hk (fun _ h => h.2)) (fun _ h => h.1)); replace HK := Aside0.mk (KeepBut.trans (Law.kg HK) hk (.inl rfl)); replace HB := Aside0.mk (hb); replace HI0 := Aside0.mk (hi); (try clear hb); (try clear hk); (try clear hi)))
     go_ret2
     exact ⟨_, _, by first | rfl | (simp [errW_none, errW_some] <;> rfl) | (simp [*, errW_none, errW_some] <;> rfl), by (with_reducible repeat (first | apply Kd.R_alloc | apply Kd.R_drewN | apply Kd.R_drew)); exact HO_5.out, by (with_reducible repeat (first | apply Kd.R_alloc | apply Kd.R_drewN | apply Kd.R_drew)); exact HO_6.out, by exact IsS111.ig HI0, by exact Law.bi HB (IsS111.ge HI0.out), by exact Law.kg HK⟩

/-! ### spec_DrawPlanTable: function 48 -/
-- given: loop.example/s01595/spec.DrawPlanTable
section GivenDrawPlanTable
/-! ### spec.l1Begin: the code's bytes mixed; the code itself lies where it lay -/
def beginS : List Int → Int → Int
  | [], st => st
  | x :: t, st => beginS t (IntKind.u64.wrap (Go.bits .xor .u64 st (IntKind.u64.wrap x) * 1099511628211))
theorem beginS_drop (l : List Int) (n : Nat) (st : Int) (h : n < l.length) : beginS (l.drop n) st = beginS (l.drop (n + 1)) (IntKind.u64.wrap (Go.bits .xor .u64 st (IntKind.u64.wrap l[n]) * 1099511628211)) := by
  rw [List.drop_eq_getElem_cons h]
  rfl
def seed0 : Int := 1469598103934665603
set_option maxHeartbeats 8000000 in
set_option maxRecDepth 100000 in
theorem spec_l1Begin.calls (A0 : Option Addr) (c0 : Nat) (l0 : List Int) (w : World) (hr0 : Kd.C (Kd.int .u8) w A0 l0.length l0) (hc0 : l0.length ≤ c0) :
    Calls Try.prog 88 #[.slice A0 l0.length c0] w fun e w' => e = .returned (.agg #[.slice A0 l0.length c0, .int .i64 0, .int .u64 (beginS l0 seed0)]) ∧ Below w.heap.size w w' := by
  have HR := Aside0.mk hr0
  have HM := Aside0.mk (show l0.length ≤ maxLen from hr0.2.1)
  have HB := Aside0.mk (Below.refl w.heap.size w)
  have hu111 := Try.underlying111
  clear hr0 hc0
  go_enter Try.func88, Try.ntmps88
  go_wp2_with (first
    | ((with_reducible refine gate_dst (N := 2) rfl ?_)
       refine box_event ?hg (N := 2) ?hd (cs := #[.slice none 0 0, .int .i64 0, .int .u64 0]) (t := 111) ?hr ?_
       (case hd => rfl)
       (case hg => rfl)
       (case hr => first | (go_simp; done) | (go_simp; rfl))
       intro g2 hg w2 hbox hb
       have HB2 := Law.bS HB hb
       have HG2 := Aside0.mk (show w.heap.size ≤ g2 by rw [hg]; exact (by repeat (first | (with_reducible first | exact HB.out | apply below_alloc | apply pw_below_drewN | apply below_drew1) | exact HB.out) : Below w.heap.size w _).size)
       have BK2 := Aside0.mk hbox
       clear HB hb hg hbox
       have HB := HB2
       clear HB2)
    | ((with_reducible refine gate_dst (N := 3) rfl ?_)
       refine box_event ?hg (N := 3) ?hd (cs := #[.slice none 0 0, .int .i64 0, .int .u64 0]) (t := 111) ?hr ?_
       (case hd => rfl)
       (case hg => rfl)
       (case hr => first | (go_simp; done) | (go_simp; rfl))
       intro g3 hg w3 hbox hb
       have HB2 := Law.bS HB hb
       have HG3 := Aside0.mk (show w.heap.size ≤ g3 by rw [hg]; exact (by repeat (first | (with_reducible first | exact HB.out | apply below_alloc | apply pw_below_drewN | apply below_drew1) | exact HB.out) : Below w.heap.size w _).size)
       have hne : g2 ≠ g3 := by rw [hg]; exact Nat.ne_of_lt (blk_lt (show _[g2]? = _ by (with_reducible repeat (first | refine blk_drewN ?_ _ | refine blk_drew ?_ | refine blk_alloc ?_ _)); exact BK2.out))
       have BK4 := Aside0.mk (blk_below (by (with_reducible repeat (first | refine blk_drewN ?_ _ | refine blk_drew ?_ | refine blk_alloc ?_ _)); exact BK2.out) hb)
       have BK3 := Aside0.mk hbox
       have hne2 := hne.symm
       clear HB hb hg hbox BK2
       have HB := HB2
       have BK2 := BK4
       clear HB2 BK4
       have hd0 : w3.cell? ⟨g3, 0, none⟩ = some (.slice none 0 0) := (blk_cell BK3.out 0).trans rfl
       have hd1 : w3.cell? ⟨g3, 1, none⟩ = some (.int .i64 0) := (blk_cell BK3.out 1).trans rfl
       have hd2 : w3.cell? ⟨g3, 2, none⟩ = some (.int .u64 0) := (blk_cell BK3.out 2).trans rfl
       have he0 := blk_frozen BK3.out 0
       have he1 := blk_frozen BK3.out 1
       have he2 := blk_frozen BK3.out 2))
  go_loopg [4] (l0.length + 1) (fun kq v4 w' => ∃ (n : Nat) (st : Int), v4 = .int .i64 (n : Int) ∧ Aside0 (kq + n = l0.length + 1) ∧ Aside0 (n ≤ l0.length) ∧ Aside0 (beginS (l0.drop n) st = beginS l0 seed0) ∧ Aside0 (w'.heap[g2]? = some (.cells #[.slice none 0 0, .int .i64 0, .int .u64 0] 111 (0, 0))) ∧ Aside0 (w'.heap[g3]? = some (.cells #[.slice A0 l0.length c0, .int .i64 0, .int .u64 st] 111 (0, 0))) ∧ Aside0 (Below w.heap.size w w'))
  case atStart =>
    refine ⟨0, 1469598103934665603, rfl, ⟨by omega⟩, ⟨Nat.zero_le _⟩, ⟨rfl⟩, ⟨?_⟩, ⟨?_⟩, ⟨?_⟩⟩
    · (with_reducible repeat (first | refine blk_drewN ?_ _ | refine blk_drew ?_ | refine blk_alloc ?_ _))
      refine blk_far ?_ hne _
      (with_reducible repeat (first | refine blk_drewN ?_ _ | refine blk_drew ?_ | refine blk_alloc ?_ _))
      refine blk_far ?_ hne _
      refine blk_far ?_ hne _
      refine blk_far ?_ hne _
      (with_reducible repeat (first | refine blk_drewN ?_ _ | refine blk_drew ?_ | refine blk_alloc ?_ _))
      exact BK2.out
    · (with_reducible repeat (first | refine blk_drewN ?_ _ | refine blk_drew ?_ | refine blk_alloc ?_ _))
      refine blk_put (cs := #[.slice A0 l0.length c0, .int .i64 0, .int .u64 0]) ?_ 2 _ rfl
      (with_reducible repeat (first | refine blk_drewN ?_ _ | refine blk_drew ?_ | refine blk_alloc ?_ _))
      refine blk_put (cs := #[.slice A0 l0.length c0, .int .i64 0, .int .u64 0]) ?_ 2 _ rfl
      refine blk_put (cs := #[.slice A0 l0.length c0, .int .i64 0, .int .u64 0]) ?_ 1 _ rfl
      refine blk_put (cs := #[.slice none 0 0, .int .i64 0, .int .u64 0]) ?_ 0 _ rfl
      (with_reducible repeat (first | refine blk_drewN ?_ _ | refine blk_drew ?_ | refine blk_alloc ?_ _))
      exact BK3.out
    · repeat (first | (with_reducible first | exact HB.out | apply below_alloc | apply pw_below_drewN | apply below_drew1 | refine below_set ?_ HG3.out) | exact HB.out)
  case round =>
    clear BK2 BK3 HB hd0 hd1 hd2 he0 he1 he2
    obtain ⟨n, st, rfl, HA, HL, HS, BK2, BK3, HB⟩ := hrel
    have hc2 : wr.cell? ⟨g3, 2, none⟩ = some (.int .u64 st) := (blk_cell BK3.out 2).trans rfl
    have hf2 := blk_frozen BK3.out 2
    by_cases hn : (n : Int) < (l0.length : Int)
    · have D0 : decide ((n : Int) < (l0.length : Int)) = true := decide_eq_true hn
      have D2 : decide (n < l0.length) = true := decide_eq_true (by omega)
      have hnl : n < l0.length := by omega
      obtain ⟨ad, hA, hcell⟩ := (Kd.reads_of_C (enc := Value.int .u8) (d := (0 : Int)) (h1 := fun _ => rfl) (Kd.C_below HR.out HB.out)).2.2 (by omega)
      have hx := hcell n hnl
      subst hA
      have HX := Aside0.mk hcell
      have HN := Aside0.mk hnl
      have D3 : n < l0.length := hnl
      clear hn hcell hnl
      go_wp2
      refine Law.region_world (fun w1 hw1 => ?_)
      obtain ⟨w2, hw2⟩ : ∃ w2 : World, w2 = w1.drew := ⟨_, rfl⟩
      have BK5 := Aside0.mk (show w2.heap[g2]? = some (.cells #[.slice none 0 0, .int .i64 0, .int .u64 0] 111 (0, 0)) by rw [hw2, hw1]; (with_reducible repeat (first | refine blk_drewN ?_ _ | refine blk_drew ?_ | refine blk_alloc ?_ _)); exact BK2.out)
      have BK6 := Aside0.mk (show w2.heap[g3]? = some (.cells #[.slice (some ad) l0.length c0, .int .i64 0, .int .u64 st] 111 (0, 0)) by rw [hw2, hw1]; (with_reducible repeat (first | refine blk_drewN ?_ _ | refine blk_drew ?_ | refine blk_alloc ?_ _)); exact BK3.out)
      have HB6 := Aside0.mk (show Below w.heap.size w w2 by rw [hw2, hw1]; repeat (first | (with_reducible first | exact HB.out | apply below_alloc | apply pw_below_drewN | apply below_drew1) | exact HB.out))
      have HX6 := Aside0.mk ((((Kd.reads_of_C (enc := Value.int .u8) (d := (0 : Int)) (h1 := fun _ => rfl) (Kd.C_below HR.out HB6.out)).2.2 (by have := HN.out; omega)).choose_spec))
      have hy : w2.cell? (ad.add n) = some (.int .u8 (l0[n]?.getD 0)) := by
        have h := HX6.out
        have e := h.1
        injection e with e
        rw [e]
        exact h.2 n HN.out
      refine start_ (n := 11) (S := fun w' => w'.cell? ⟨g3, 2, none⟩ = some (.int .u64 st) ∧ w'.cell? (ad.add n) = some (.int .u8 (l0[n]?.getD 0))) (ds := [10]) #[false, false, false, false, false, false, false, false, false, false, false] (by kernel_rfl) rfl rfl (by rw [← hw2]; exact ⟨(blk_cell BK6.out 2).trans rfl, hy⟩) ?_
      rw [← hw2]
      intro hHeld
      clear hw2 hw1 hc2 hf2 hx hy BK2 BK3 HB
      refine pure_ (i := 0) (N := some 14) (v := ?_) (a' := ?_) #[true, false, false, false, false, false, false, false, false, false, false] rfl rfl (by kernel_rfl) (fun _ _ _ h => h) (Or.inl ⟨by rfl, ?_⟩) ?_ ?_
      rotate_left
      · intro w'
        go_simp
        with_reducible rfl
      rotate_left
      · simp only [Act.put, List.setIfInBounds_toArray, List.set_cons_zero, List.set_cons_succ, i64_w, i32_w]
        rfl
      refine take_ (i := 1) (N := some 15) (v := ?_) (a' := ?_) #[true, true, false, false, false, false, false, false, false, false, false] rfl rfl (by kernel_rfl) (fun _ _ _ h => h) (Or.inl ⟨by rfl, ?_⟩) hHeld ?_ ?_
      rotate_left
      · rintro w' ⟨s0, s1⟩
        go_simp
        with_reducible rfl
      rotate_left
      · simp only [Act.put, List.setIfInBounds_toArray, List.set_cons_zero, List.set_cons_succ, i64_w, i32_w]
        rfl
      refine pure_ (i := 2) (N := some 16) (v := ?_) (a' := ?_) #[true, true, true, false, false, false, false, false, false, false, false] rfl rfl (by kernel_rfl) (fun _ _ _ h => h) (Or.inl ⟨by rfl, ?_⟩) ?_ ?_
      rotate_left
      · intro w'
        go_simp
        with_reducible rfl
      rotate_left
      · simp only [Act.put, List.setIfInBounds_toArray, List.set_cons_zero, List.set_cons_succ, i64_w, i32_w]
        rfl
      refine pure_ (i := 3) (N := some 17) (v := ?_) (a' := ?_) #[true, true, true, true, false, false, false, false, false, false, false] rfl rfl (by kernel_rfl) (fun _ _ _ h => h) (Or.inl ⟨by rfl, ?_⟩) ?_ ?_
      rotate_left
      · intro w'
        go_simp
        with_reducible rfl
      rotate_left
      · simp only [Act.put, List.setIfInBounds_toArray, List.set_cons_zero, List.set_cons_succ, i64_w, i32_w]
        rfl
      refine pure_ (i := 4) (N := some 18) (v := ?_) (a' := ?_) #[true, true, true, true, true, false, false, false, false, false, false] rfl rfl (by kernel_rfl) (fun _ _ _ h => h) (Or.inl ⟨by rfl, ?_⟩) ?_ ?_
      rotate_left
      · intro w'
        go_simp
        with_reducible rfl
      rotate_left
      · simp only [Act.put, List.setIfInBounds_toArray, List.set_cons_zero, List.set_cons_succ, i64_w, i32_w]
        rfl
      refine take_ (i := 5) (N := some 19) (v := ?_) (a' := ?_) #[true, true, true, true, true, true, false, false, false, false, false] rfl rfl (by kernel_rfl) (fun _ _ _ h => h) (Or.inl ⟨by rfl, ?_⟩) hHeld ?_ ?_
      rotate_left
      · rintro w' ⟨s0, s1⟩
        go_simp
        with_reducible rfl
      rotate_left
      · simp only [Act.put, List.setIfInBounds_toArray, List.set_cons_zero, List.set_cons_succ, i64_w, i32_w]
        rfl
      refine pure_ (i := 6) (N := some 20) (v := ?_) (a' := ?_) #[true, true, true, true, true, true, true, false, false, false, false] rfl rfl (by kernel_rfl) (fun _ _ _ h => h) (Or.inl ⟨by rfl, ?_⟩) ?_ ?_
      rotate_left
      · intro w'
        go_simp
        with_reducible rfl
      rotate_left
      · simp only [Act.put, List.setIfInBounds_toArray, List.set_cons_zero, List.set_cons_succ, i64_w, i32_w]
        rfl
      refine pure_ (i := 7) (N := some 21) (v := ?_) (a' := ?_) #[true, true, true, true, true, true, true, true, false, false, false] rfl rfl (by kernel_rfl) (fun _ _ _ h => h) (Or.inl ⟨by rfl, ?_⟩) ?_ ?_
      rotate_left
      · intro w'
        go_simp
        with_reducible rfl
      rotate_left
      · simp only [Act.put, List.setIfInBounds_toArray, List.set_cons_zero, List.set_cons_succ, i64_w, i32_w]
        rfl
      refine pure_ (i := 8) (N := some 22) (v := ?_) (a' := ?_) #[true, true, true, true, true, true, true, true, true, false, false] rfl rfl (by kernel_rfl) (fun _ _ _ h => h) (Or.inl ⟨by rfl, ?_⟩) ?_ ?_
      rotate_left
      · intro w'
        go_simp
        with_reducible rfl
      rotate_left
      · simp only [Act.put, List.setIfInBounds_toArray, List.set_cons_zero, List.set_cons_succ, i64_w, i32_w]
        rfl
      refine pure_ (i := 9) (N := some 23) (v := ?_) (a' := ?_) #[true, true, true, true, true, true, true, true, true, true, false] rfl rfl (by kernel_rfl) (fun _ _ _ h => h) (Or.inl ⟨by rfl, ?_⟩) ?_ ?_
      rotate_left
      · intro w'
        go_simp
        with_reducible rfl
      rotate_left
      · simp only [Act.put, List.setIfInBounds_toArray, List.set_cons_zero, List.set_cons_succ, i64_w, i32_w]
        rfl
      refine last_ (i := 10) (N := none) #[true, true, true, true, true, true, true, true, true, true, true] rfl rfl (by kernel_rfl) (by decide) (fun K hK => ?_)
      have hs2 : w2.cell? ⟨g3, 2, none⟩ = some (.int .u64 st) := (blk_cell BK6.out 2).trans rfl
      have hfs2 := blk_frozen BK6.out 2
      refine skip_ (w1 := ?_) (by rfl) rfl ?_ ?_
      rotate_left
      · go_simp
        rfl
      refine hK.out _ _ ?_
      clear hK K
      refine done_ (by kernel_rfl) ?_
      try go_wp2
      go_roundg (l0.length - n)
      case measure => have := HA.out; have := HN.out; omega
      case rel =>
        have e_ : wrap64 ((n : Int) + 1) = ((n + 1 : Nat) : Int) := (by have := HM.out; have := HN.out; simp only [maxLen] at *; unfold wrap64; omega)
        refine ⟨n + 1, IntKind.u64.wrap (Go.bits .xor .u64 st (IntKind.u64.wrap (l0[n]'HN.out)) * 1099511628211), by first | rw [e_] | (rw [i64_w, e_]), ⟨by have := HA.out; have := HN.out; omega⟩, ⟨by have := HN.out; omega⟩, ⟨by rw [← beginS_drop l0 n st HN.out]; exact HS.out⟩, ⟨?_⟩, ⟨?_⟩, ⟨?_⟩⟩
        · (with_reducible repeat (first | refine blk_drewN ?_ _ | refine blk_drew ?_ | refine blk_alloc ?_ _))
          exact blk_far BK5.out hne _
        · (with_reducible repeat (first | refine blk_drewN ?_ _ | refine blk_drew ?_ | refine blk_alloc ?_ _))
          exact blk_put (cs := #[.slice (some ad) l0.length c0, .int .i64 0, .int .u64 st]) BK6.out 2 _ rfl
        · repeat (first | (with_reducible first | exact HB6.out | apply below_alloc | apply pw_below_drewN | apply below_drew1 | refine below_set ?_ HG3.out) | exact HB6.out)
    · have D0 : decide ((n : Int) < (l0.length : Int)) = false := decide_eq_false hn
      have D2 : decide (n < l0.length) = false := decide_eq_false (by omega)
      have HE : n = l0.length := by have := HL.out; omega
      have hst : st = beginS l0 seed0 := by have h := HS.out; rw [HE, List.drop_length] at h; exact h
      have hz0 : wr.cell? ⟨g3, 0, none⟩ = some (.slice A0 l0.length c0) := (blk_cell BK3.out 0).trans rfl
      have hz1 : wr.cell? ⟨g3, 1, none⟩ = some (.int .i64 0) := (blk_cell BK3.out 1).trans rfl
      have hzf0 := blk_frozen BK3.out 0
      have hzf1 := blk_frozen BK3.out 1
      have hy0 : wr.cell? ⟨g2, 0, none⟩ = some (.slice none 0 0) := (blk_cell BK2.out 0).trans rfl
      have hy1 : wr.cell? ⟨g2, 1, none⟩ = some (.int .i64 0) := (blk_cell BK2.out 1).trans rfl
      have hy2 : wr.cell? ⟨g2, 2, none⟩ = some (.int .u64 0) := (blk_cell BK2.out 2).trans rfl
      have hyf0 := blk_frozen BK2.out 0
      have hyf1 := blk_frozen BK2.out 1
      have hyf2 := blk_frozen BK2.out 2
      have HST := Aside0.mk hst
      have D3 := Aside0.mk HE
      clear hst hn HE
      go_wp2
      refine bodyPost_ret (results_cell_row rfl _ _ g2 111 #[.slice A0 l0.length c0, .int .i64 0, .int .u64 st] (0, 0) _ rfl (by
        (with_reducible repeat (first | refine blk_drewN ?_ _ | refine blk_drew ?_ | refine blk_alloc ?_ _))
        refine blk_put (cs := #[.slice A0 l0.length c0, .int .i64 0, .int .u64 0]) ?_ 2 _ rfl
        refine blk_put (cs := #[.slice A0 l0.length c0, .int .i64 0, .int .u64 0]) ?_ 1 _ rfl
        refine blk_put (cs := #[.slice none 0 0, .int .i64 0, .int .u64 0]) ?_ 0 _ rfl
        (with_reducible repeat (first | refine blk_drewN ?_ _ | refine blk_drew ?_ | refine blk_alloc ?_ _))
        exact BK2.out) Try.underlying111 rfl (by kernel_rfl)) rfl ?_
      rw [HST.out]
      exact ⟨rfl, by repeat (first | (with_reducible first | exact HB.out | apply below_alloc | apply pw_below_drewN | apply below_drew1 | refine below_set ?_ HG2.out) | exact HB.out)⟩
def spec_DrawPlanTable.f (k : Nat) (l0 : List Int) : Option (List Int × List Int) := (spec_l3DrawTwo.f k l0 0 (beginS l0 seed0)).bind fun t => some (t.1, t.2.1)
set_option maxHeartbeats 8000000 in
set_option maxRecDepth 100000 in
theorem spec_DrawPlanTable.calls (k : Nat) (A0 : Option Addr) (c0 : Nat) (l0 : List Int) (r1 : List Int) (r2 : List Int) (w : World) (hr0 : Kd.C (Kd.int .u8) w A0 l0.length l0) (hc0 : l0.length ≤ c0) (h : spec_DrawPlanTable.f k l0 = some (r1, r2)) :
    Calls Try.prog 48 #[.slice A0 l0.length c0] w fun e w' => ∃ v0_ v1_ : Value, e = .returned (.tuple #[v0_, v1_]) ∧ Kd.R (Kd.int .i64) 2 w' w.heap.size (fun k_ => some k_ ≠ (v1_ : Value).ownBlock) v0_ r1 ∧ Kd.R (Kd.int .i64) 2 w' w.heap.size (fun k_ => some k_ ≠ (v0_ : Value).ownBlock) v1_ r2 ∧ Below w.heap.size w w' := by
  obtain ⟨⟨t1, t2, t3, t4⟩, ht, h⟩ := Option.bind_eq_some_iff.mp h
  simp only [Option.some.injEq, Prod.mk.injEq] at h
  obtain ⟨rfl, rfl⟩ := h
  have HT := Aside0.mk ht
  have HR := Aside0.mk hr0
  have HC := Aside0.mk hc0
  have HB := Aside0.mk (Below.refl w.heap.size w)
  have hu111 := Try.underlying111
  clear ht hr0 hc0
  go_enter Try.func48, Try.ntmps48
  go_wp2_with (first
    | ((with_reducible refine gate_callee (f := 88) rfl ?_)
       refine goesL_ (some 6) rfl rfl Try.func88 (by kernel_rfl) rfl #[.slice A0 l0.length c0] rfl (by (try simp only [List.map_toArray, List.map_cons, List.map_nil]); first | done | rfl) ?_
       refine (spec_l1Begin.calls A0 c0 l0 _ ?s1 HC.out).mono ?_
       (case s1 => exact Law.cg (HR.out))
       rintro e w1 ⟨rfl, hb⟩
       refine ⟨_, rfl, ?_⟩
       have HB1 := Law.bS HB hb
       clear HB hb
       have HB := HB1
       clear HB1)
    | ((with_reducible refine gate_dst (N := 4) rfl ?_)
       refine box_event ?hg (N := 4) ?hd (cs := #[.slice none 0 0, .int .i64 0, .int .u64 0]) (t := 111) ?hr ?_
       (case hd => rfl)
       (case hg => rfl)
       (case hr => first | (go_simp; done) | (go_simp; rfl))
       intro g4 hg w3 hbox hb
       have HB1 := Law.bS HB hb
       have HG := Aside0.mk (show w.heap.size ≤ g4 by rw [hg]; exact (by repeat (first | (with_reducible first | exact HB.out | apply below_alloc | apply pw_below_drewN | apply below_drew1) | exact HB.out) : Below w.heap.size w _).size)
       have BK := Aside0.mk hbox
       clear HB hb hg hbox
       have HB := HB1
       clear HB1
       have hd0 : w3.cell? ⟨g4, 0, none⟩ = some (.slice none 0 0) := (blk_cell BK.out 0).trans rfl
       have hd1 : w3.cell? ⟨g4, 1, none⟩ = some (.int .i64 0) := (blk_cell BK.out 1).trans rfl
       have hd2 : w3.cell? ⟨g4, 2, none⟩ = some (.int .u64 0) := (blk_cell BK.out 2).trans rfl
       have he0 := blk_frozen BK.out 0
       have he1 := blk_frozen BK.out 1
       have he2 := blk_frozen BK.out 2)
    | ((with_reducible refine gate_callee (f := 94) rfl ?_)
       refine goesL_ (some 7) rfl rfl Try.func94 (by kernel_rfl) rfl #[.pointer (some ⟨g4, 0, none⟩)] rfl (by (try simp only [List.map_toArray, List.map_cons, List.map_nil]); first | done | rfl) ?_
       refine (spec_l3DrawTwo.calls k g4 l0 0 (beginS l0 seed0) t1 t2 t3 t4 w _ ?s1 ?s2 HT.out).mono ?_
       (case s1 => exact ⟨A0, c0, by
         (with_reducible repeat (first | refine blk_drewN ?_ _ | refine blk_drew ?_ | refine blk_alloc ?_ _))
         refine blk_put (cs := #[.slice A0 l0.length c0, .int .i64 0, .int .u64 0]) ?_ 2 _ rfl
         refine blk_put (cs := #[.slice A0 l0.length c0, .int .i64 0, .int .u64 0]) ?_ 1 _ rfl
         refine blk_put (cs := #[.slice none 0 0, .int .i64 0, .int .u64 0]) ?_ 0 _ rfl
         (with_reducible repeat (first | refine blk_drewN ?_ _ | refine blk_drew ?_ | refine blk_alloc ?_ _))
         exact BK.out, HG.out, HR.out⟩)
       (case s2 => repeat (first | (with_reducible first | exact HB.out | apply below_alloc | apply pw_below_drewN | apply below_drew1 | refine below_set ?_ HG.out) | exact HB.out))
       rintro e w5 ⟨v0, v1, rfl, h0, h1, hI, hb, hk⟩
       refine ⟨_, rfl, ?_⟩
       have H0 := Aside0.mk (Kd.R_lower h0 (below_size (by repeat (first | (with_reducible first | exact HB.out | apply below_alloc | apply pw_below_drewN | apply below_drew1 | refine below_set ?_ HG.out) | exact HB.out))))
       have H1 := Aside0.mk (Kd.R_lower h1 (below_size (by repeat (first | (with_reducible first | exact HB.out | apply below_alloc | apply pw_below_drewN | apply below_drew1 | refine below_set ?_ HG.out) | exact HB.out))))
       have HB1 := Aside0.mk hb
       clear h0 h1 hI hb hk HB BK hd0 hd1 hd2 he0 he1 he2
       have HB := HB1
       clear HB1))
  go_ret2
  exact ⟨v0, v1, rfl, by (with_reducible repeat (first | apply Kd.R_alloc | apply Kd.R_drewN | apply Kd.R_drew)); exact H0.out, by (with_reducible repeat (first | apply Kd.R_alloc | apply Kd.R_drewN | apply Kd.R_drew)); exact H1.out, by repeat (first | (with_reducible first | exact HB.out | apply below_alloc | apply pw_below_drewN | apply below_drew1) | exact HB.out)⟩
end GivenDrawPlanTable

end Go.Proofs.Ytbimmmmjdimebaa.PFnPlan
