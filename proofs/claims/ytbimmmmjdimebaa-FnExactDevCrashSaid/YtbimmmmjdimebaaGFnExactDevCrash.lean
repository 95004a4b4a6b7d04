/- Contracts by hand, beside the printed ones. -/
import Derived.Test.YtbimmmmjdimebaaPFnExactDevCrashx0
import Derived.Test.YtbimmmmjdimebaaPFnExactDevCrashx1
import Derived.Test.YtbimmmmjdimebaaPFnExactDevCrashx2
import Derived.Test.YtbimmmmjdimebaaPFnExactDevCrashx3
import Derived.Test.YtbimmmmjdimebaaPFnExactDevCrashx4
import Derived.Test.YtbimmmmjdimebaaPFnExactDevCrashx5
import Derived.Test.YtbimmmmjdimebaaPFnExactDevCrashx6
import Derived.Test.YtbimmmmjdimebaaPFnExactDevCrashx7
import Derived.Test.YtbimmmmjdimebaaLaw
namespace Go.Proofs.Ytbimmmmjdimebaa.PFnExactDevCrash
open Go.RowKit Go.Proofs.YtbimmmmjdimebaaW.PrintWords Go.Proofs.YtbimmmmjdimebaaW.PrintLast Go.Proofs.YtbimmmmjdimebaaW.PrintMore
attribute [local go_sem] max2_int min2_int max_two min_two max_three min_three max_four min_four   -- for this text's walks alone
set_option linter.unusedVariables false
set_option linter.unusedSimpArgs false

/-! ### laws.markPendingS, rows of rows that are the call's own -/
def laws_markPendingS.l0 : Nat → List S67 → Int → Int → Option (Int × List S67)
  | 0, _, _, _ => none
  | k + 1, x0, x1, x5 => if x5 < (x0.length : Int) then (if 0 ≤ x5 then ((laws_markByteS.f k (rd_T67 x0 x5).f1 (wrap64 (x1 + 1))).bind fun b => laws_markPendingS.l0 k (x0.set x5.toNat ⟨x1, b.2⟩) b.1 (wrap64 (x5 + 1))) else none) else some (x1, x0)
def laws_markPendingS.f (k : Nat) (l0 : List S67) (a1 : Int) : Option (Int × List S67) := laws_markPendingS.l0 k l0 a1 0
set_option maxHeartbeats 8000000 in
set_option maxRecDepth 100000 in
theorem laws_markPendingS.calls (k : Nat) (P0_ : Nat → Prop) (u : Value) (l0 : List S67) (a1 r1 : Int) (r2 : List S67) (w0 w : World) (hB : Below w0.heap.size w0 w) (ho0 : Kd.S k67 67 w w0.heap.size P0_ u l0) (h : laws_markPendingS.f k l0 a1 = some (r1, r2)) :
    Calls Try.prog 76 #[u, .int .i64 a1] w fun e w' => e = .returned (.int .i64 r1) ∧ Kd.S k67 67 w' w0.heap.size P0_ u r2 ∧ Below w0.heap.size w0 w' ∧ Kept w w' P0_ := by
  have HO0 := Aside0.mk ho0
  have HK := Aside0.mk (Kept.refl w P0_)
  have HB := Aside0.mk hB
  clear hB ho0
  have H' := Aside0.mk (show laws_markPendingS.l0 k l0 a1 0 = some (r1, r2) from h)
  clear h
  have hu67 := Try.underlying67
  go_enter Try.func76, Try.ntmps76
  go_wp2
  go_loopg [1, 5] k (fun kq v1 v5 w' => ∃ (x0_1 : List S67) (x1_1 : Int) (x5_1 : Int), v1 = .int .i64 x1_1 ∧ v5 = .int .i64 x5_1 ∧ Aside0 (laws_markPendingS.l0 kq x0_1 x1_1 x5_1 = some (r1, r2)) ∧ Aside0 (kq ≤ k) ∧ Aside0 (Kd.S k67 67 w' w0.heap.size P0_ u x0_1) ∧ Aside0 (Kept w w' P0_) ∧ Aside0 (Below w0.heap.size w0 w'))
  case atStart => exact ⟨l0, a1, 0, rfl, rfl, H', ⟨Nat.le_refl _⟩, ⟨by (with_reducible repeat (first | apply Kd.S_alloc | apply Kd.S_drewN | apply Kd.S_drew)); exact HO0.out⟩, ⟨by repeat (first | (with_reducible first | exact HK.out | apply Kept.alloc | apply Kept.drewN | apply Kept.drew) | exact HK.out)⟩, ⟨by repeat (first | (with_reducible first | exact HB.out | apply below_alloc | apply pw_below_drewN | apply below_drew1) | exact HB.out)⟩⟩
  case round =>
    clear H' HO0
    try clear p2
    obtain ⟨x0_1, x1_1, x5_1, rfl, rfl, HA, HK1, HO_0, HK, HB⟩ := hrel
    cases gk with
    | zero => exact absurd HA.out (by simp [laws_markPendingS.l0])
    | succ k1 =>
      have H := HA.out
      clear HA
      simp only [laws_markPendingS.l0] at H
      by_cases c3 : x5_1 < (x0_1.length : Int)
      · rw [if_pos c3] at H
        have c3b0 : decide (x5_1 < (x0_1.length : Int)) = true := decide_eq_true c3
        by_cases c4 : 0 ≤ x5_1
        · rw [if_pos c4] at H
          have c4b0 : decide (0 ≤ x5_1) = true := decide_eq_true c4
          obtain ⟨⟨b1, b2⟩, hbt, H⟩ := Option.bind_eq_some_iff.mp H
          obtain ⟨y0, hy0⟩ : ∃ y0, x0_1.getD x5_1.toNat z67 = y0 := ⟨_, rfl⟩
          have A1 := Aside0.mk (show laws_markByteS.f k1 y0.f1 (wrap64 (x1_1 + 1)) = some (b1, b2) from by rw [← hy0]; exact hbt)
          have H' := Aside0.mk (show laws_markPendingS.l0 k1 (x0_1.set x5_1.toNat ⟨x1_1, b2⟩) b1 (wrap64 (x5_1 + 1)) = some (r1, r2) from H)
          clear H hbt
          obtain ⟨go5, co5, eo5, gb5, gl5, cl5, HG5⟩ := Kd.S_form HO_0.out (by omega)
          subst eo5
          have GB5 := Aside0.mk gb5
          clear gb5 gl5 HG5
          have C3 := Aside0.mk c3
          have C4 := Aside0.mk c4
          have hil : x5_1.toNat < x0_1.length := by omega
          obtain ⟨oki, c, hcl, hM, hcc, hfr, hoki, hH⟩ := Kd.S_elem HO_0.out z67 x5_1 c4 c3
          rw [hy0] at hM
          obtain ⟨v1, rfl, hR⟩ := k67_openM hM
          have hP0g := Aside0.mk (HO_0.out.choose_spec.1 go5 rfl : P0_ go5)
          have E1 := Aside0.mk hR
          have E2 := Aside0.mk hH
          have hx5_0 : wr.cell? ⟨go5, x5_1.toNat * 2, none⟩ = some (.int .i64 y0.f0) := hcc 0 _ rfl
          have hf5_0 : wr.frozen? ⟨go5, x5_1.toNat * 2, none⟩ = false := hfr 0
          have hgd : (x0_1.set x5_1.toNat ⟨x1_1, y0.f1⟩).getD x5_1.toNat z67 = ⟨x1_1, y0.f1⟩ := by simp [hil]
          have HGD := Aside0.mk hgd
          have HL := Aside0.mk (show ((x0_1.set x5_1.toNat ⟨x1_1, y0.f1⟩).length : Int) = (x0_1.length : Int) by simp)
          have Ssz := Aside0.mk (show x5_1.toNat * 2 = x5_1.toNat * k67.sz + 0 from rfl)
          clear hcl hM hcc hfr hH hR hgd hoki hil hy0
          have p5 : 0 ≤ (x5_1 : Int) := c4
          have q5 : (x5_1 : Int) < ((x0_1.length : Int) : Int) := c3
          clear c3 c4
          replace p5 := eq_true p5
          replace q5 := eq_true q5
          go_wp2_with (first
            | ((with_reducible refine gate_store (t := 2) (p := 16) rfl ?_)
               refine Kd.H_store (w0 := w0) k67 w0.heap.size rfl rfl 2 _ _ rfl 67 (g := go5) (o' := x5_1.toNat * 2) x5_1 0 x0_1 ⟨x1_1, y0.f1⟩ (.int .i64 x1_1) [.int .i64 x1_1] _ P0_ oki oki rfl Ssz.out rfl rfl (by kernel_rfl) (by simp [Value.oneCell']) E2.out C4.out C3.out (show 1 ≤ 2 by decide) (k67_mkM _ _ _ ⟨x1_1, y0.f1⟩ E1.out) (fun _ h => h) HB.out ?_
               intro w8 hS8 hB8 hG8
               have HK8 := Aside0.mk (Kept.of_grown (S := P0_) hG8 HK.out (fun k_ e_ => .inl (by injection e_ with e_; rw [← e_]; exact hP0g.out)))
               obtain ⟨oki2, c2, hcl2, hM2, hcc2, hfr2, hoki2, hH2⟩ := Kd.S_elem hS8 z67 x5_1 C4.out C3.out
               obtain ⟨v2, rfl, hR2⟩ := k67_openM hM2
               rw [HGD.out] at hR2 hH2 hcc2
               obtain ⟨Ao2, co2, eo2⟩ := Kd.R_slice hR2
               subst eo2
               have E5 := Aside0.mk hR2
               have E6 := Aside0.mk hH2
               have E7 := Aside0.mk (show ∀ k, oki2 k → P0_ k from fun k hk => (hoki2 k hk).1)
               have HB8 := Aside0.mk hB8
               have hx8_1 : w8.cell? ⟨go5, x5_1.toNat * 2 + 1, none⟩ = some (.slice Ao2 y0.f1.length co2) := hcc2 1 _ rfl
               have hf8_1 : w8.frozen? ⟨go5, x5_1.toNat * 2 + 1, none⟩ = false := hfr2 1
               clear hcl2 hM2 hcc2 hfr2 hH2 hR2 hoki2 hS8 hG8 hB8)
            | ((with_reducible refine gate_callee (f := 33) rfl ?_)
               refine goesL_ (some 25) rfl rfl Try.func33 (by kernel_rfl) rfl #[.slice Ao2 y0.f1.length co2, .int .i64 (wrap64 (x1_1 + 1))] rfl (by (try simp only [List.map_toArray, List.map_cons, List.map_nil]); first | done | rfl) ?_
               (with_reducible refine (laws_markByteS.calls k1 oki2 _ _ _ b1 b2 w0 _ ?side1 ?side2 A1.out).mono ?_)
               (case side1 => repeat (first | (with_reducible first | exact HB8.out | apply below_alloc | apply pw_below_drewN | apply below_drew1) | exact HB8.out))
               (case side2 => (with_reducible repeat (first | apply Kd.R_alloc | apply Kd.R_drewN | apply Kd.R_drew)); exact E5.out)
               rintro e w9 ⟨rfl, hy9, hb9, hk9⟩
               refine ⟨_, rfl, ?_⟩
               have HK9 := Aside0.mk (Kept.then_ (S := P0_) (by repeat (first | (with_reducible first | exact HK8.out | apply Kept.alloc | apply Kept.drewN | apply Kept.drew) | exact HK8.out)) hk9 (fun k hk => .inl (E7.out k hk)))
               have HB9 := Aside0.mk hb9
               have HS9 := Aside0.mk (Kd.H_back (Kd.H_kept (by (with_reducible repeat (first | apply Kd.H_alloc | apply Kd.H_drewN | apply Kd.H_drew)); exact E6.out) hk9 (fun _ _ hn => hn)) (k67_mkM _ _ oki2 ⟨x1_1, b2⟩ (Kd.R_reok rfl hy9 (fun k_ e_ => E5.out.1 k_ e_))) (fun _ h => h))
               clear hy9 hb9 hk9))
          go_roundg k1
          case measure => have := HK1.out; omega
          case rel =>
            refine ⟨x0_1.set x5_1.toNat ⟨x1_1, b2⟩, b1, wrap64 (x5_1 + 1), rfl, rfl, H', ⟨by have := HK1.out; omega⟩, ⟨?_⟩, ⟨by repeat (first | (with_reducible first | exact HK9.out | apply Kept.alloc | apply Kept.drewN | apply Kept.drew) | exact HK9.out)⟩, ⟨by repeat (first | (with_reducible first | exact HB9.out | apply below_alloc | apply pw_below_drewN | apply below_drew1) | exact HB9.out)⟩⟩
            have h9 := HS9.out
            rw [List.set_set] at h9
            (with_reducible repeat (first | apply Kd.S_alloc | apply Kd.S_drewN | apply Kd.S_drew))
            exact h9
        · rw [if_neg c4] at H
          exact absurd H (by simp)
      · rw [if_neg c3] at H
        have c3b0 : decide (x5_1 < (x0_1.length : Int)) = false := decide_eq_false c3
        clear c3
        simp only [Option.some.injEq, Prod.mk.injEq] at H
        obtain ⟨rfl, rfl⟩ := H
        obtain ⟨Ao9, co9, eo9⟩ := Kd.S_slice HO_0.out
        subst eo9
        go_wp2
        go_ret
        exact ⟨rfl, by (with_reducible repeat (first | apply Kd.S_alloc | apply Kd.S_drewN | apply Kd.S_drew)); exact HO_0.out, by repeat (first | (with_reducible first | exact HB.out | apply below_alloc | apply pw_below_drewN | apply below_drew1) | exact HB.out), by repeat (first | (with_reducible first | exact HK.out | apply Kept.alloc | apply Kept.drewN | apply Kept.drew) | exact HK.out)⟩

/-! ### laws.markDevice, of the call's own -/
def laws_markDevice.f (k : Nat) (a0 : Int) (l1 : List Int) (l2 : List S67) (a1 : Int) : Option (Int × List Int × List S67) := (laws_markByteS.f k l1 a1).bind fun b => (laws_markPendingS.f k l2 b.1).bind fun c => some (c.1, b.2, c.2)
set_option maxHeartbeats 8000000 in
set_option maxRecDepth 100000 in
theorem laws_markDevice.calls (k : Nat) (P0_ : Nat → Prop) (a0 : Int) (u1 : Value) (l1 : List Int) (u2 : Value) (l2 : List S67) (a1 : Int) (r1 : Int) (r2 : List Int) (r3 : List S67) (w0 w : World) (hB : Below w0.heap.size w0 w) (h1 : Kd.R (Kd.int .u8) 5 w w0.heap.size P0_ u1 l1) (h2 : Kd.S k67 67 w w0.heap.size (fun k_ => P0_ k_ ∧ some k_ ≠ (u1 : Value).ownBlock) u2 l2) (h : laws_markDevice.f k a0 l1 l2 a1 = some (r1, r2, r3)) :
    Calls Try.prog 32 #[.agg #[.int .i64 a0, u1, u2], .int .i64 a1] w fun e w' => e = .returned (.int .i64 r1) ∧ Kd.R (Kd.int .u8) 5 w' w0.heap.size (fun k_ => P0_ k_) u1 r2 ∧ Kd.S k67 67 w' w0.heap.size (fun k_ => P0_ k_ ∧ some k_ ≠ (u1 : Value).ownBlock) u2 r3 ∧ Below w0.heap.size w0 w' ∧ Kept w w' (fun k_ => P0_ k_) := by
  obtain ⟨⟨b1, b2⟩, hb1, h⟩ := Option.bind_eq_some_iff.mp h
  obtain ⟨⟨c1, c2⟩, hc1, h⟩ := Option.bind_eq_some_iff.mp h
  simp only [Option.some.injEq, Prod.mk.injEq] at h
  obtain ⟨rfl, rfl, rfl⟩ := h
  obtain ⟨A1, z1, e1⟩ := Kd.R_slice h1
  subst e1
  obtain ⟨A2, z2, e2⟩ := Kd.S_slice h2
  subst e2
  have E1 := Aside0.mk (show laws_markByteS.f k l1 a1 = some (b1, b2) from hb1)
  have E2 := Aside0.mk (show laws_markPendingS.f k l2 b1 = some (c1, c2) from hc1)
  have HO := Aside0.mk h1
  have HS := Aside0.mk h2
  have HK := Aside0.mk (Kept.refl w P0_)
  have HB := Aside0.mk hB
  clear h1 h2 hB hb1 hc1
  have hu47 := Try.underlying47
  go_enter Try.func32, Try.ntmps32
  go_wp2_with (first
    | ((with_reducible refine gate_dst (N := 2) rfl ?_)
       refine box_event ?hg (N := 2) ?hd (cs := #[.int .i64 a0, .slice A1 l1.length z1, .slice A2 l2.length z2]) (t := 47) ?hr ?_
       (case hd => rfl)
       (case hg => rfl)
       (case hr => first | (go_simp; done) | (go_simp; rfl))
       intro gb hg w2 hbox hb
       have n0 := Aside0.mk (Kd.R_below (by (with_reducible repeat (first | apply Kd.R_alloc | apply Kd.R_drewN | apply Kd.R_drew)); exact HO.out) hb)
       have n1 := Aside0.mk (Kd.S_below (by (with_reducible repeat (first | apply Kd.S_alloc | apply Kd.S_drewN | apply Kd.S_drew)); exact HS.out) hb)
       have n2 := Aside0.mk (Kept.below (S := P0_) (by repeat (first | (with_reducible first | exact HK.out | apply Kept.alloc | apply Kept.drewN | apply Kept.drew) | exact HK.out)) hb)
       have n3 := Aside0.mk (below_step (by repeat (first | (with_reducible first | exact HB.out | apply below_alloc | apply pw_below_drewN | apply below_drew1) | exact HB.out)) hb)
       have BK := Aside0.mk hbox
       clear HO HS HK HB hb hbox hg
       have HO := n0
       have HS := n1
       have HK := n2
       have HB := n3
       clear n0 n1 n2 n3
       have hc0 : w2.cell? ⟨gb, 0, none⟩ = some (.int .i64 a0) := (blk_cell BK.out 0).trans rfl
       have hc1 : w2.cell? ⟨gb, 1, none⟩ = some (.slice A1 l1.length z1) := (blk_cell BK.out 1).trans rfl
       have hc2 : w2.cell? ⟨gb, 2, none⟩ = some (.slice A2 l2.length z2) := (blk_cell BK.out 2).trans rfl
       have hf0 := blk_frozen BK.out 0
       have hf1 := blk_frozen BK.out 1
       have hf2 := blk_frozen BK.out 2)
    | ((with_reducible refine gate_callee (f := 33) rfl ?_)
       refine goesL_ (some 8) rfl rfl Try.func33 (by kernel_rfl) rfl #[.slice A1 l1.length z1, .int .i64 a1] rfl (by (try simp only [List.map_toArray, List.map_cons, List.map_nil]); first | done | rfl) ?_
       refine (laws_markByteS.calls k (fun k_ => some k_ = (.slice A1 l1.length z1 : Value).ownBlock) _ l1 a1 b1 b2 w0 _ ?s1 ?s2 E1.out).mono ?_
       (case s1 => repeat (first | (with_reducible first | exact HB.out | apply below_alloc | apply pw_below_drewN | apply below_drew1) | exact HB.out))
       (case s2 => (with_reducible repeat (first | apply Kd.R_alloc | apply Kd.R_drewN | apply Kd.R_drew)); exact Kd.R_tight rfl HO.out)
       rintro e w4 ⟨rfl, hy, hb, hk⟩
       refine ⟨_, rfl, ?_⟩
       have n0 := Aside0.mk (Kd.R_reok rfl hy (fun k_ e_ => HO.out.1 k_ e_))
       have n1 := Aside0.mk (Kd.S_kept (by (with_reducible repeat (first | apply Kd.S_alloc | apply Kd.S_drewN | apply Kd.S_drew)); exact HS.out) hk (fun k_ (h_ : P0_ k_ ∧ some k_ ≠ (.slice A1 l1.length z1 : Value).ownBlock) e_ => h_.2 e_))
       have n2 := Aside0.mk (Kept.then_ (S := P0_) (by repeat (first | (with_reducible first | exact HK.out | apply Kept.alloc | apply Kept.drewN | apply Kept.drew) | exact HK.out)) hk (fun k_ h_ => .inl (HO.out.1 k_ h_.symm)))
       have n3 := Aside0.mk hb
       have n4 := Aside0.mk (blk_kept (g := gb) (o := .cells #[.int .i64 a0, .slice A1 l1.length z1, .slice A2 l2.length z2] 47 (0, 0)) (by (with_reducible repeat (first | refine blk_drewN ?_ _ | refine blk_drew ?_ | refine blk_alloc ?_ _)); exact BK.out) hk (fun e_ => Kd.R_ne HO.out BK.out (by decide) e_))
       clear HO HS HK HB hb hk hy BK
       have HO := n0
       have HS := n1
       have HK := n2
       have HB := n3
       have BK := n4
       clear n0 n1 n2 n3 n4
       have hd0 : w4.cell? ⟨gb, 0, none⟩ = some (.int .i64 a0) := (blk_cell BK.out 0).trans rfl
       have hd1 : w4.cell? ⟨gb, 1, none⟩ = some (.slice A1 l1.length z1) := (blk_cell BK.out 1).trans rfl
       have hd2 : w4.cell? ⟨gb, 2, none⟩ = some (.slice A2 l2.length z2) := (blk_cell BK.out 2).trans rfl
       have hg0 := blk_frozen BK.out 0
       have hg1 := blk_frozen BK.out 1
       have hg2 := blk_frozen BK.out 2)
    | ((with_reducible refine gate_callee (f := 76) rfl ?_)
       refine goesL_ (some 12) rfl rfl Try.func76 (by kernel_rfl) rfl #[.slice A2 l2.length z2, .int .i64 b1] rfl (by (try simp only [List.map_toArray, List.map_cons, List.map_nil]); first | done | rfl) ?_
       refine (laws_markPendingS.calls k (fun k_ => P0_ k_ ∧ some k_ ≠ (.slice A1 l1.length z1 : Value).ownBlock) _ l2 b1 c1 c2 w0 _ ?s1 ?s2 E2.out).mono ?_
       (case s1 => repeat (first | (with_reducible first | exact HB.out | apply below_alloc | apply pw_below_drewN | apply below_drew1) | exact HB.out))
       (case s2 => (with_reducible repeat (first | apply Kd.S_alloc | apply Kd.S_drewN | apply Kd.S_drew)); exact HS.out)
       rintro e w6 ⟨rfl, hy, hb, hk⟩
       refine ⟨_, rfl, ?_⟩
       have n0 := Aside0.mk (Kd.R_reok (ok := fun k_ => P0_ k_) rfl (Kd.R_kept (by (with_reducible repeat (first | apply Kd.R_alloc | apply Kd.R_drewN | apply Kd.R_drew)); exact Kd.R_tight rfl HO.out) hk (fun k_ e_ (h_ : P0_ k_ ∧ some k_ ≠ (.slice A1 l1.length z1 : Value).ownBlock) => h_.2 e_)) (fun k_ e_ => HO.out.1 k_ e_))
       have n1 := Aside0.mk hy
       have n2 := Aside0.mk (Kept.then_ (S := P0_) (by repeat (first | (with_reducible first | exact HK.out | apply Kept.alloc | apply Kept.drewN | apply Kept.drew) | exact HK.out)) hk (fun k_ h_ => .inl h_.1))
       have n3 := Aside0.mk hb
       clear HO HS HK HB hb hk hy
       have HO := n0
       have HS := n1
       have HK := n2
       have HB := n3
       clear n0 n1 n2 n3))
  go_ret
  exact ⟨rfl, by (with_reducible repeat (first | apply Kd.R_alloc | apply Kd.R_drewN | apply Kd.R_drew)); exact HO.out, by (with_reducible repeat (first | apply Kd.S_alloc | apply Kd.S_drewN | apply Kd.S_drew)); exact HS.out, by repeat (first | (with_reducible first | exact HB.out | apply below_alloc | apply pw_below_drewN | apply below_drew1) | exact HB.out), by repeat (first | (with_reducible first | exact HK.out | apply Kept.alloc | apply Kept.drewN | apply Kept.drew) | exact HK.out)⟩

/-! ### impl.Device.settle: the writes that keep says are put onto the disk -/
def putB (l : List Int) (o : Nat) (ys : List Int) : List Int := l.take o ++ ys ++ l.drop (o + ys.length)
/-- The disk behind the first n writes. -/
def setB (l1 : List Int) (l2 : List S67) (kp : Nat → Bool) : Nat → List Int
  | 0 => l1
  | n + 1 => if kp n then putB (setB l1 l2 kp n) ((rd_T67 l2 (n : Int)).f0 * 128).toNat (rd_T67 l2 (n : Int)).f1 else setB l1 l2 kp n
/-- What the writes must be for that. -/
def fitB (l1 : List Int) (l2 : List S67) : Prop := l1.length ≤ 1048576 ∧ ∀ n : Nat, n < l2.length → 0 ≤ (rd_T67 l2 (n : Int)).f0 ∧ (rd_T67 l2 (n : Int)).f1.length = 128 ∧ (rd_T67 l2 (n : Int)).f0 * 128 + 128 ≤ (l1.length : Int)
instance (l1 : List Int) (l2 : List S67) : Decidable (fitB l1 l2) := by unfold fitB; infer_instance
theorem setB_length (l1 : List Int) (l2 : List S67) (kp : Nat → Bool) (hf : fitB l1 l2) : ∀ n, n ≤ l2.length → (setB l1 l2 kp n).length = l1.length
  | 0, _ => rfl
  | n + 1, h => by
    have ih := setB_length l1 l2 kp hf n (by omega)
    obtain ⟨h0, h1, h2⟩ := hf.2 n (by omega)
    unfold setB
    split
    · unfold putB
      simp only [List.length_append, List.length_take, List.length_drop, ih]
      omega
    · exact ih
/-- copy onto the middle of a row of one's own. -/
theorem run_copy_at {P : Program} {W : World} {base e t t' : Nat} {ty : TypeId} {ok : Nat → Prop} {g cap : Nat} {xs ys : List Int} {A : Option Addr} {c lo : Nat} (ht : P.underlying t = some (.slice e)) (hinfo : (P.info? e).map (·.size) = some 1)
    (HO : (Kd.int .u8).R e W base ok (.slice (some ⟨g, 0, none⟩) xs.length cap) xs) (HR : (Kd.int .u8).C W A ys.length ys) (hlo : lo + ys.length ≤ xs.length) (hp : 0 < ys.length) :
    (Builtin.copy_ #[t, t'] ty #[.slice (some ⟨g, lo, none⟩) (xs.length - lo) (cap - lo), .slice A ys.length c]).run P W = .ok (goInt (ys.length : Int)) (W.setCells g lo (nums .u8 ys)) ∧
      (Kd.int .u8).R e (W.setCells g lo (nums .u8 ys)) base ok (.slice (some ⟨g, 0, none⟩) xs.length cap) (xs.take lo ++ ys ++ xs.drop (lo + ys.length)) ∧ W.grownBy (W.setCells g lo (nums .u8 ys)) (some g) := by
  have hR := Kd.reads_of_C (enc := Value.int .u8) (d := (0 : Int)) (h1 := fun _ => rfl) HR
  have hown := Kd.own_of_R (enc := Value.int .u8) (h1 := fun _ => rfl) HO
  obtain ⟨ad, hA, hc⟩ := hR.2.2 hp
  rcases hown.2 with ⟨_, hx0⟩ | ⟨g', cap', cur, hv, hb, hh, hnc, hcm, hcs, htake⟩
  · omega
  injection hv with hv1 hv2 hv3
  injection hv1 with hv1
  injection hv1 with hv1
  subst hv1
  subst hv3
  have hcs1 : cur.size = cap := by omega
  have hkl : (nums .u8 ys).length = ys.length := nums_length _ _
  have hsrc : ∀ j u, (nums .u8 ys)[j]? = some u → W.cell? (ad.add j) = some u := by
    intro j u hu
    have hj : j < ys.length := by
      rcases Nat.lt_or_ge j ys.length with h | h
      · exact h
      · rw [List.getElem?_eq_none (by rw [hkl]; exact h)] at hu; cases hu
    rw [hc j hj]
    rw [← hu]
    simp [nums, hj]
  have hr := run_copy_cells (P := P) W t t' ty e g lo (xs.length - lo) (cap - lo) ad ys.length c (nums .u8 ys) ht hinfo (by rw [hkl]; first | exact (Nat.min_eq_left (show ys.length ≤ xs.length - lo by omega)).symm | exact (Nat.min_eq_right (show ys.length ≤ xs.length - lo by omega)).symm) hsrc
    (fun j hj => by rw [cell_of_row W g _ cur e (0, 0) hh]; simp; omega) (fun j _ => blk_frozen hh _) (by intro u hu; simp only [nums, List.mem_map] at hu; obtain ⟨q, _, rfl⟩ := hu; rfl)
  obtain ⟨cur', h3, h4, h5⟩ := setCells_row (nums .u8 ys) lo W cur hh (by rw [hkl]; omega)
  obtain ⟨s1, s2, s3, s4⟩ := setCells_same g (nums .u8 ys) lo W
  refine ⟨by rw [hA, hr, hkl], Kd.R_of_own (enc := Value.int .u8) (h1 := fun _ => rfl) ?_ HO.1, ⟨s1, s2, s3, by rw [s4]; exact Nat.le_refl _, fun k _ hk => setCells_far _ _ k (fun he => hk (by rw [he]))⟩⟩
  have hln : (xs.take lo ++ ys ++ xs.drop (lo + ys.length)).length = xs.length := by
    simp only [List.length_append, List.length_take, List.length_drop]; omega
  rw [hln]
  refine ⟨by rw [encs_length, hln, Nat.mul_one], .inr ⟨g, cap, cur', rfl, hb, h3, hnc, hcm, by rw [h4, hcs], ?_⟩⟩
  have htk : cur.toList.take xs.length = encs (Value.int .u8) xs := by rw [← htake, Nat.mul_one]
  have e1 : cur.toList.take lo = encs (Value.int .u8) (xs.take lo) := by
    have : cur.toList.take lo = (cur.toList.take xs.length).take lo := by rw [List.take_take]; congr 1; omega
    rw [this, htk]; simp [encs, List.map_take]
  have e2 : (cur.toList.drop (lo + ys.length)).take (xs.length - (lo + ys.length)) = encs (Value.int .u8) (xs.drop (lo + ys.length)) := by
    rw [← List.drop_take, htk]; simp [encs, List.map_drop]
  rw [h5, hkl, Nat.mul_one, encs_append, encs_append, e1]
  have e3 : (encs (Value.int .u8) (xs.take lo) ++ nums .u8 ys).length = lo + ys.length := by rw [List.length_append, encs_length, hkl, List.length_take]; omega
  rw [List.take_append, e3, e2, List.take_of_length_le (by rw [e3]; omega)]
  rfl
theorem run_copy_op {P : Program} {W W1 : World} {a : Act} {o : Oper} {s x : Operand} {t t' : TypeId} {v1 v2 v : Value} (ho : o.op = .call { callee := .builtin .copy, args := #[s, x], argTypes := #[t, t'] }) (hs : a.eval s = v1) (hx : a.eval x = v2)
    (hr : (Builtin.copy_ #[t, t'] o.type #[v1, v2]).run P W = .ok v W1) : (execOp a.eval o).run P W = .ok (.value v) W1 := by
  unfold execOp
  simp only [ho, resolve, invoke, builtin, Sem.run_bind, Sem.run_pure, Result.andThen_ok, List.map_toArray, List.map_cons, List.map_nil, hs, hx, hr]
/-- settle on a device in a variable: kp says which writes are kept (what the function handed in answers, at any world that keeps all but the disk's row). -/
def settleGoal : Prop := True
set_option maxHeartbeats 16000000 in
set_option maxRecDepth 100000 in
theorem impl_settle.own (F : FuncId) (fr : Array Value) (kp : Nat → Bool) (g : Nat) (a0 : Int) (u : Value) (A2 : Option Addr) (c2 : Nat) (l1 : List Int) (l2 : List S67) (P0_ : Nat → Prop) (w0 w : World) (hB : Below w0.heap.size w0 w)
    (hbox : w.heap[g]? = some (.cells #[.int .i64 a0, u, .slice A2 l2.length c2] 47 (0, 0))) (hg : w0.heap.size ≤ g) (ho : Kd.R (Kd.int .u8) 5 w w0.heap.size P0_ u l1) (hr : ∀ W_, Kept w W_ P0_ → Kd.C k67 W_ A2 l2.length l2) (hgP : ¬ P0_ g) (hfit : fitB l1 l2)
    (hF : ∀ (args : Array Value) (W_ : World), (callFunc F args).run Try.prog W_ = .ok (.enter F args) W_) (hkeep : ∀ (i : Nat) (W_ : World), i < l2.length → Kept w W_ P0_ → Calls Try.prog F (#[Value.int .i64 (i : Int)] ++ fr) W_ fun e W' => e = .returned (.bool (kp i)) ∧ Below W_.heap.size W_ W') :
    Calls Try.prog 82 #[.pointer (some ⟨g, 0, none⟩), .func (.func F) #[] fr] w fun e w' => e = .returned (.tuple #[]) ∧ w'.heap[g]? = some (.cells #[.int .i64 a0, u, .slice none 0 0] 47 (0, 0)) ∧ Kd.R (Kd.int .u8) 5 w' w0.heap.size P0_ u (setB l1 l2 kp l2.length) ∧ Below w0.heap.size w0 w' ∧ Kept w w' (fun k => P0_ k ∨ k = g) := by
  have hu47 := Try.underlying47
  have hu67 := Try.underlying67
  have HO := Aside0.mk ho
  have HR := Aside0.mk hr
  have HK := Aside0.mk (Kept.refl w P0_)
  have HB := Aside0.mk hB
  have BK := Aside0.mk hbox
  have HF := Aside0.mk hfit
  have HG := Aside0.mk hg
  have HN := Aside0.mk hgP
  have HY := Aside0.mk hkeep
  have HX := Aside0.mk hF
  have HS := Aside0.mk (show l2.length ≤ maxLen from (HR.out w (Kept.refl w P0_)).2.1)
  clear ho hr hB hbox hfit hg hgP hkeep hF
  have hc0 : w.cell? ⟨g, 0, none⟩ = some (.int .i64 a0) := (blk_cell BK.out 0).trans rfl
  have hc1 : w.cell? ⟨g, 1, none⟩ = some u := (blk_cell BK.out 1).trans rfl
  have hc2 : w.cell? ⟨g, 2, none⟩ = some (.slice A2 l2.length c2) := (blk_cell BK.out 2).trans rfl
  have hf0 := blk_frozen BK.out 0
  have hf1 := blk_frozen BK.out 1
  have hf2 := blk_frozen BK.out 2
  go_enter Try.func82, Try.ntmps82
  go_wp2
  go_loopg [11] (l2.length + 1) (fun kq v11 w' => ∃ n : Nat, v11 = .int .i64 (n : Int) ∧ Aside0 (kq + n = l2.length + 1) ∧ Aside0 (n ≤ l2.length) ∧ Aside0 (Kd.R (Kd.int .u8) 5 w' w0.heap.size P0_ u (setB l1 l2 kp n)) ∧ Aside0 (w'.heap[g]? = some (.cells #[.int .i64 a0, u, .slice A2 l2.length c2] 47 (0, 0))) ∧ Aside0 (Kept w w' P0_) ∧ Aside0 (Below w0.heap.size w0 w'))
  case atStart => exact ⟨0, rfl, ⟨by omega⟩, ⟨Nat.zero_le _⟩, ⟨by (with_reducible repeat (first | apply Kd.R_alloc | apply Kd.R_drewN | apply Kd.R_drew)); exact HO.out⟩, ⟨by (with_reducible repeat (first | refine blk_drewN ?_ _ | refine blk_drew ?_ | refine blk_alloc ?_ _)); exact BK.out⟩, ⟨by repeat (first | (with_reducible first | exact HK.out | apply Kept.alloc | apply Kept.drewN | apply Kept.drew) | exact HK.out)⟩, ⟨by repeat (first | (with_reducible first | exact HB.out | apply below_alloc | apply pw_below_drewN | apply below_drew1) | exact HB.out)⟩⟩
  case round =>
    clear HO HK HB BK hc0 hc1 hc2 hf0 hf1 hf2
    obtain ⟨n, rfl, HA, HL, HO, BK, HK, HB⟩ := hrel
    have hc0 : wr.cell? ⟨g, 0, none⟩ = some (.int .i64 a0) := (blk_cell BK.out 0).trans rfl
    have hc1 : wr.cell? ⟨g, 1, none⟩ = some u := (blk_cell BK.out 1).trans rfl
    have hc2 : wr.cell? ⟨g, 2, none⟩ = some (.slice A2 l2.length c2) := (blk_cell BK.out 2).trans rfl
    have hf0 := blk_frozen BK.out 0
    have hf1 := blk_frozen BK.out 1
    have hf2 := blk_frozen BK.out 2
    by_cases hn : (n : Int) < (l2.length : Int)
    · have D0 : decide ((n : Int) < (l2.length : Int)) = true := decide_eq_true hn
      have D2 : decide (n < l2.length) = true := decide_eq_true (by omega)
      have D3 : n < l2.length := by omega
      have D1 : decide (0 ≤ (n : Int)) = true := decide_eq_true (by omega)
      have HC := Kd.C_kept_now HR.out HK.out
      obtain ⟨ad, A1, c1, eA, hx0, hx1, hl1, hi1⟩ := at_T67 HC (n : Int) (by omega) hn
      subst eA
      simp only [Int.toNat_natCast] at hx0 hx1
      obtain ⟨hq0, hq1, hq2⟩ := HF.out.2 n (by omega)
      have HN1 := Aside0.mk hn
      have HI := Aside0.mk hi1
      have HL1 := Aside0.mk hl1
      generalize hy : rd_T67 l2 (n : Int) = y at *
      have HYE := Aside0.mk hy
      clear hy
      have HQ := Aside0.mk (And.intro hq0 (And.intro hq1 hq2))
      clear hq0 hq1 hq2 HC hi1 hl1 hn
      go_wp2
      obtain ⟨gp, hgp⟩ : ∃ gp, gp = wr.heap.size := ⟨_, rfl⟩
      obtain ⟨w3, hw3⟩ : ∃ w3, w3 = wr.alloc (Obj.cells #[Value.int IntKind.i64 y.f0, Value.slice A1 y.f1.length c1] 67) := ⟨_, rfl⟩
      have HO3 := Aside0.mk (show Kd.R (Kd.int .u8) 5 w3 w0.heap.size P0_ u (setB l1 l2 kp n) by rw [hw3]; exact Kd.R_alloc HO.out _)
      have HK3 := Aside0.mk (show Kept w w3 P0_ by rw [hw3]; exact Kept.alloc HK.out _)
      have HZ3 := Aside0.mk (show Below wr.heap.size wr w3 by rw [hw3]; exact below_alloc (Below.refl _ _) _)
      have HB3 := Aside0.mk (show Below w0.heap.size w0 w3 by rw [hw3]; exact below_alloc HB.out _)
      have BK3 := Aside0.mk (show w3.heap[g]? = some (.cells #[.int .i64 a0, u, .slice (some ad) l2.length c2] 47 (0, 0)) by rw [hw3]; exact blk_alloc BK.out _)
      have BP3 := Aside0.mk (show w3.heap[gp]? = some (.cells #[.int .i64 y.f0, .slice A1 y.f1.length c1] 67 (0, 0)) by rw [hw3, hgp]; exact heap_alloc_new wr _)
      rw [← hgp, ← hw3]
      rw [HX.out, Oper.upon_enter]
      refine (HY.out n w3 (by have := HN1.out; omega) HK3.out).mono ?_
      rintro e w4 ⟨rfl, hb4⟩
      have HO4 := Aside0.mk (Kd.R_below HO3.out hb4)
      have HK4 := Aside0.mk (Kept.below HK3.out hb4)
      have HB4 := Aside0.mk (below_step HB3.out hb4)
      have HZ4 := Aside0.mk (below_step HZ3.out hb4)
      have BK4 := Aside0.mk (blk_below BK3.out hb4)
      have BP4 := Aside0.mk (blk_below BP3.out hb4)
      have hgne := Aside0.mk (show g < gp ∧ w.heap.size ≤ gp from ⟨by rw [hgp]; exact blk_lt BK.out, by rw [hgp]; exact HK.out.1⟩)
      clear hb4 hw3 hgp
      cases hkp : kp n with
      | false =>
        go_wp2
        go_roundg (l2.length - n)
        case measure => have := HA.out; have := HN1.out; omega
        case rel => exact ⟨n + 1, by have e_ : wrap64 ((n : Int) + 1) = ((n + 1 : Nat) : Int) := (by have := HS.out; have := HN1.out; simp only [maxLen] at *; unfold wrap64; omega); first | rw [e_] | (rw [i64_w, e_]), ⟨by have := HA.out; have := HN1.out; omega⟩, ⟨by have := HN1.out; omega⟩, ⟨by (with_reducible repeat (first | apply Kd.R_alloc | apply Kd.R_drewN | apply Kd.R_drew)); have h4 := HO4.out; unfold setB; rw [if_neg (by rw [hkp]; simp)]; exact h4⟩, ⟨by (with_reducible repeat (first | refine blk_drewN ?_ _ | refine blk_drew ?_ | refine blk_alloc ?_ _)); exact BK4.out⟩, ⟨by repeat (first | (with_reducible first | exact HK4.out | apply Kept.alloc | apply Kept.drewN | apply Kept.drew) | exact HK4.out)⟩, ⟨by repeat (first | (with_reducible first | exact HB4.out | apply below_alloc | apply pw_below_drewN | apply below_drew1) | exact HB4.out)⟩⟩
      | true =>
        have hln := setB_length l1 l2 kp HF.out n (by omega)
        have HLN := Aside0.mk hln
        have hq := HQ.out
        obtain ⟨go, co, eu, gb, gl, cl, HGo⟩ := Kd.R_form HO4.out (by rw [hln]; omega)
        have hq1 : 0 ≤ y.f0 * 128 := by omega
        have hq2 : y.f0 * 128 + 128 ≤ ((setB l1 l2 kp n).length : Int) := by rw [hln]; omega
        have HQ1 := Aside0.mk hq1
        have HQ2 := Aside0.mk hq2
        subst eu
        obtain ⟨lo, hlo⟩ : ∃ lo : Nat, (lo : Int) = y.f0 * 128 := ⟨(y.f0 * 128).toNat, by omega⟩
        have HLO := Aside0.mk hlo
        clear hq gb gl HGo hq1 hq2 hln
        go_wp2
        refine Law.region_world (fun w5 hw5 => ?_)
        obtain ⟨w6, hw6⟩ : ∃ w6 : World, w6 = w5.drew := ⟨_, rfl⟩
        have HO6 := Aside0.mk (show Kd.R (Kd.int .u8) 5 w6 w0.heap.size P0_ (.slice (some ⟨go, 0, none⟩) (setB l1 l2 kp n).length co) (setB l1 l2 kp n) by rw [hw6, hw5]; (with_reducible repeat (first | apply Kd.R_alloc | apply Kd.R_drewN | apply Kd.R_drew)); exact HO4.out)
        have HK6 := Aside0.mk (show Kept w w6 P0_ by rw [hw6, hw5]; repeat (first | (with_reducible first | exact HK4.out | apply Kept.alloc | apply Kept.drewN | apply Kept.drew) | exact HK4.out))
        have HB6 := Aside0.mk (show Below w0.heap.size w0 w6 by rw [hw6, hw5]; repeat (first | (with_reducible first | exact HB4.out | apply below_alloc | apply pw_below_drewN | apply below_drew1) | exact HB4.out))
        have HZ6 := Aside0.mk (show Below wr.heap.size wr w6 by rw [hw6, hw5]; repeat (first | (with_reducible first | exact HZ4.out | apply below_alloc | apply pw_below_drewN | apply below_drew1) | exact HZ4.out))
        have BK6 := Aside0.mk (show w6.heap[g]? = some (.cells #[.int .i64 a0, .slice (some ⟨go, 0, none⟩) (setB l1 l2 kp n).length co, .slice (some ad) l2.length c2] 47 (0, 0)) by rw [hw6, hw5]; (with_reducible repeat (first | refine blk_drewN ?_ _ | refine blk_drew ?_ | refine blk_alloc ?_ _)); exact BK4.out)
        have BP6 := Aside0.mk (show w6.heap[gp]? = some (.cells #[.int .i64 y.f0, .slice A1 y.f1.length c1] 67 (0, 0)) by rw [hw6, hw5]; (with_reducible repeat (first | refine blk_drewN ?_ _ | refine blk_drew ?_ | refine blk_alloc ?_ _)); exact BP4.out)
        refine start_ (n := 11) (S := fun w' => w'.cell? ⟨g, 1, none⟩ = some (.slice (some ⟨go, 0, none⟩) (setB l1 l2 kp n).length co) ∧ w'.cell? ⟨gp, 0, none⟩ = some (.int .i64 y.f0) ∧ w'.cell? ⟨gp, 1, none⟩ = some (.slice A1 y.f1.length c1)) (ds := []) #[false, false, false, false, false, false, false, false, false, false, false] (by kernel_rfl) rfl rfl (by rw [← hw6]; exact ⟨(blk_cell BK6.out 1).trans rfl, (blk_cell BP6.out 0).trans rfl, (blk_cell BP6.out 1).trans rfl⟩) ?_
        rw [← hw6]
        intro hHeld
        clear hw6 hw5
        refine pure_ (i := 0) (N := some 19) (v := ?_) (a' := ?_) #[true, false, false, false, false, false, false, false, false, false, false] rfl rfl (by kernel_rfl) (fun _ _ _ h => h) (Or.inl ⟨by rfl, ?_⟩) ?_ ?_
        rotate_left
        · intro w'
          go_simp
          with_reducible rfl
        rotate_left
        · simp only [Act.put, List.setIfInBounds_toArray, List.set_cons_zero, List.set_cons_succ, i64_w, i32_w]
          rfl
        refine pure_ (i := 1) (N := some 20) (v := ?_) (a' := ?_) #[true, true, false, false, false, false, false, false, false, false, false] rfl rfl (by kernel_rfl) (fun _ _ _ h => h) (Or.inl ⟨by rfl, ?_⟩) ?_ ?_
        rotate_left
        · intro w'
          go_simp
          with_reducible rfl
        rotate_left
        · simp only [Act.put, List.setIfInBounds_toArray, List.set_cons_zero, List.set_cons_succ, i64_w, i32_w]
          rfl
        refine pure_ (i := 2) (N := some 21) (v := ?_) (a' := ?_) #[true, true, true, false, false, false, false, false, false, false, false] rfl rfl (by kernel_rfl) (fun _ _ _ h => h) (Or.inl ⟨by rfl, ?_⟩) ?_ ?_
        rotate_left
        · intro w'
          go_simp
          with_reducible rfl
        rotate_left
        · simp only [Act.put, List.setIfInBounds_toArray, List.set_cons_zero, List.set_cons_succ, i64_w, i32_w]
          rfl
        refine take_ (i := 3) (N := some 22) (v := ?_) (a' := ?_) #[true, true, true, true, false, false, false, false, false, false, false] rfl rfl (by kernel_rfl) (fun _ _ _ h => h) (Or.inl ⟨by rfl, ?_⟩) hHeld ?_ ?_
        rotate_left
        · rintro w' ⟨s0, s1, s2⟩
          go_simp
          with_reducible rfl
        rotate_left
        · simp only [Act.put, List.setIfInBounds_toArray, List.set_cons_zero, List.set_cons_succ, i64_w, i32_w]
          rfl
        refine pure_ (i := 4) (N := some 23) (v := ?_) (a' := ?_) #[true, true, true, true, true, false, false, false, false, false, false] rfl rfl (by kernel_rfl) (fun _ _ _ h => h) (Or.inl ⟨by rfl, ?_⟩) ?_ ?_
        rotate_left
        · intro w'
          go_simp
          with_reducible rfl
        rotate_left
        · simp only [Act.put, List.setIfInBounds_toArray, List.set_cons_zero, List.set_cons_succ, i64_w, i32_w]
          rfl
        refine take_ (i := 5) (N := some 24) (v := ?_) (a' := ?_) #[true, true, true, true, true, true, false, false, false, false, false] rfl rfl (by kernel_rfl) (fun _ _ _ h => h) (Or.inl ⟨by rfl, ?_⟩) hHeld ?_ ?_
        rotate_left
        · rintro w' ⟨s0, s1, s2⟩
          go_simp
          with_reducible rfl
        rotate_left
        · simp only [Act.put, List.setIfInBounds_toArray, List.set_cons_zero, List.set_cons_succ, i64_w, i32_w]
          rfl
        refine pure_ (i := 6) (N := some 25) (v := ?_) (a' := ?_) #[true, true, true, true, true, true, true, false, false, false, false] rfl rfl (by kernel_rfl) (fun _ _ _ h => h) (Or.inl ⟨by rfl, ?_⟩) ?_ ?_
        rotate_left
        · intro w'
          go_simp
          with_reducible rfl
        rotate_left
        · simp only [Act.put, List.setIfInBounds_toArray, List.set_cons_zero, List.set_cons_succ, i64_w, i32_w]
          rfl
        have hw : wrap64 (y.f0 * 128) = (lo : Int) := by have := HQ.out; have := HLO.out; have := HQ2.out; have := HLN.out; have := HF.out.1; unfold wrap64; omega
        have HW := Aside0.mk hw
        have HCO := Aside0.mk (Kd.R_reads' HO6.out).2.1
        refine pure_ (i := 7) (N := some 26) (v := .slice (some ⟨go, lo, none⟩) ((setB l1 l2 kp n).length - lo) (co - lo)) (a' := ?_) #[true, true, true, true, true, true, true, true, false, false, false] rfl rfl (by kernel_rfl) (fun _ _ _ h => h) (Or.inl ⟨by rfl, ?_⟩) ?_ ?_
        · intro w'
          go_simp
          have h1 := HQ1.out
          have h2 := HQ2.out
          have h3 := HLO.out
          have h4 := HCO.out
          rw [if_pos ⟨by omega, by omega⟩, show (y.f0 * 128).toNat = lo by omega, if_neg (by omega)]
        rotate_left
        · simp only [Act.put, List.setIfInBounds_toArray, List.set_cons_zero, List.set_cons_succ, i64_w, i32_w]
          rfl
        refine pure_ (i := 8) (N := some 27) (v := ?_) (a' := ?_) #[true, true, true, true, true, true, true, true, true, false, false] rfl rfl (by kernel_rfl) (fun _ _ _ h => h) (Or.inl ⟨by rfl, ?_⟩) ?_ ?_
        rotate_left
        · intro w'
          go_simp
          with_reducible rfl
        rotate_left
        · simp only [Act.put, List.setIfInBounds_toArray, List.set_cons_zero, List.set_cons_succ, i64_w, i32_w]
          rfl
        refine take_ (i := 9) (N := some 28) (v := ?_) (a' := ?_) #[true, true, true, true, true, true, true, true, true, true, false] rfl rfl (by kernel_rfl) (fun _ _ _ h => h) (Or.inl ⟨by rfl, ?_⟩) hHeld ?_ ?_
        rotate_left
        · rintro w' ⟨s0, s1, s2⟩
          go_simp
          with_reducible rfl
        rotate_left
        · simp only [Act.put, List.setIfInBounds_toArray, List.set_cons_zero, List.set_cons_succ, i64_w, i32_w]
          rfl
        have HI6 := Aside0.mk (Kd.C_below HI.out HZ6.out)
        obtain ⟨hcp, hro, hgr⟩ := run_copy_at (P := Try.prog) (t := 38) (t' := 38) (ty := 3) (lo := lo) (c := c1) Try.underlying38 (by kernel_rfl) HO6.out HI6.out (by have := HQ.out; have := HQ2.out; have := HLO.out; omega) (by have := HQ.out; omega)
        refine one_ (i := 10) (N := some 29) #[true, true, true, true, true, true, true, true, true, true, true] rfl rfl (by kernel_rfl) (by decide) (fun K hK => ?_)
        refine value_ (by rfl) rfl (run_copy_op rfl rfl rfl hcp) ?_
        obtain ⟨w7, hw7⟩ : ∃ w7 : World, w7 = w6.setCells go lo (nums .u8 y.f1) := ⟨_, rfl⟩
        have hgo : P0_ go := HO6.out.1 go rfl
        have hne : go ≠ g := by rintro rfl; exact HN.out hgo
        have hnp : go ≠ gp := by have := Kd.R_ne HO6.out BP6.out (by decide); intro e_; exact this (by rw [e_]; rfl)
        rw [← hw7] at hro hgr ⊢
        have HO7 := Aside0.mk hro
        have HK7 := Aside0.mk (Kept.of_grown (S := P0_) hgr HK6.out (fun k e_ => .inl (by injection e_ with e_; rw [← e_]; exact hgo)))
        have HB7 := Aside0.mk (HB6.out.grown hgr (HB6.out.size) (fun k e_ => by have := own_base (Kd.own_of_R (enc := Value.int .u8) (h1 := fun _ => rfl) HO6.out) k e_; exact this))
        have BK7 := Aside0.mk (show w7.heap[g]? = some (.cells #[.int .i64 a0, .slice (some ⟨go, 0, none⟩) (setB l1 l2 kp n).length co, .slice (some ad) l2.length c2] 47 (0, 0)) from (hgr.block g (blk_lt BK6.out) (fun e_ => hne (by injection e_ with e_; exact e_.symm))).trans BK6.out)
        have BP7 := Aside0.mk (show w7.heap[gp]? = some (.cells #[.int .i64 y.f0, .slice A1 y.f1.length c1] 67 (0, 0)) from (hgr.block gp (blk_lt BP6.out) (fun e_ => hnp (by injection e_ with e_; exact e_.symm))).trans BP6.out)
        refine hK.out _ _ ⟨(blk_cell BK7.out 1).trans rfl, (blk_cell BP7.out 0).trans rfl, (blk_cell BP7.out 1).trans rfl⟩ (fun hHeld => ?_)
        clear hK K hw7 hcp hro hgr
        refine norm_ (a' := ?_) ?_ ?_
        rotate_left
        · show Act.put _ (some 29) _ = _
          simp only [Act.put, List.setIfInBounds_toArray, List.set_cons_zero, List.set_cons_succ, i64_w, i32_w]
          rfl
        refine done_ (by kernel_rfl) ?_
        go_wp2
        go_roundg (l2.length - n)
        case measure => have := HA.out; have := HN1.out; omega
        case rel =>
          have e_ : wrap64 ((n : Int) + 1) = ((n + 1 : Nat) : Int) := (by have := HS.out; have := HN1.out; simp only [maxLen] at *; unfold wrap64; omega)
          refine ⟨n + 1, by first | rw [e_] | (rw [i64_w, e_]), ⟨by have := HA.out; have := HN1.out; omega⟩, ⟨by have := HN1.out; omega⟩, ⟨?_⟩, ⟨?_⟩, ⟨by repeat (first | (with_reducible first | exact HK7.out | apply Kept.alloc | apply Kept.drewN | apply Kept.drew) | exact HK7.out)⟩, ⟨by repeat (first | (with_reducible first | exact HB7.out | apply below_alloc | apply pw_below_drewN | apply below_drew1) | exact HB7.out)⟩⟩
          · (with_reducible repeat (first | apply Kd.R_alloc | apply Kd.R_drewN | apply Kd.R_drew))
            have h7 := HO7.out
            have e2 : setB l1 l2 kp (n + 1) = (setB l1 l2 kp n).take lo ++ y.f1 ++ (setB l1 l2 kp n).drop (lo + y.f1.length) := by
              rw [show setB l1 l2 kp (n + 1) = if kp n then putB (setB l1 l2 kp n) ((rd_T67 l2 (n : Int)).f0 * 128).toNat (rd_T67 l2 (n : Int)).f1 else setB l1 l2 kp n from rfl, if_pos hkp, HYE.out]
              unfold putB
              have := HLO.out
              rw [show (y.f0 * 128).toNat = lo by omega]
            rw [e2]
            exact h7
          · (with_reducible repeat (first | refine blk_drewN ?_ _ | refine blk_drew ?_ | refine blk_alloc ?_ _))
            exact BK7.out
    · have D0 : decide ((n : Int) < (l2.length : Int)) = false := decide_eq_false hn
      have D2 : decide (n < l2.length) = false := decide_eq_false (by omega)
      have D3 := Aside0.mk (show n = l2.length by have := HL.out; omega)
      clear hn
      go_wp2
      refine bodyPost_end (results_none rfl _ _ _) rfl ?_
      have h3 := D3.out
      subst h3
      exact ⟨rfl, blk_put BK.out 2 _ rfl, Kd.R_set HO.out BK.out (by decide) 2 _, below_set HB.out HG.out, Kept.setCell (Kept.mono HK.out (fun _ h => .inl h)) (.inl (.inr rfl)) _⟩

/-! ### impl.DevCrash$1: whether write i is kept -/
def keepB (l : List Int) (n : Nat) : Bool := decide (((n / 8 : Nat) : Int) < (l.length : Int)) && (Go.bits .and .u8 (l[n / 8]?.getD 0 / 2 ^ (n % 8)) 1 == 1)
set_option maxHeartbeats 8000000 in
set_option maxRecDepth 100000 in
theorem impl_DevCrash.keep (i : Nat) (hi : i ≤ 9223372036854775807) (gk : Nat) (A1 : Option Addr) (c1 : Nat) (l1 : List Int) (w : World) (hb : w.heap[gk]? = some (.cells #[.slice A1 l1.length c1] 38 (0, 0))) (hr : Kd.C (Kd.int .u8) w A1 l1.length l1) :
    Calls Try.prog 83 #[.int .i64 (i : Int), .pointer (some ⟨gk, 0, none⟩)] w fun e w' => e = .returned (.bool (keepB l1 i)) ∧ Below w.heap.size w w' := by
  have hc0 : w.cell? ⟨gk, 0, none⟩ = some (.slice A1 l1.length c1) := (blk_cell hb 0).trans rfl
  have hf0 := blk_frozen hb 0
  have hb0 : w.heap.size ≤ w.heap.size := Nat.le_refl _
  by_cases hl : ((i / 8 : Nat) : Int) < (l1.length : Int)
  · have D0 : decide ((i : Int) / 8 < (l1.length : Int)) = true := decide_eq_true (by omega)
    obtain ⟨ad, hA, hcell⟩ := (Kd.reads_of_C (enc := Value.int .u8) (d := (0 : Int)) (h1 := fun _ => rfl) hr).2.2 (by omega)
    have hx := hcell (i / 8) (by omega)
    subst hA
    go_enter Try.func83, Try.ntmps83
    go_wp2
    go_ret
    refine ⟨?_, by repeat (first | (with_reducible first | exact Below.refl _ _ | apply below_alloc | apply pw_below_drewN | apply below_drew1) | exact Below.refl _ _)⟩
    have e_ : keepB l1 i = (Go.bits .and .u8 (l1[i / 8]?.getD 0 / 2 ^ (i % 8)) 1 == 1) := by unfold keepB; rw [decide_eq_true hl, Bool.true_and]
    rw [e_]
    rfl
  · have D0 : decide ((i : Int) / 8 < (l1.length : Int)) = false := decide_eq_false (by omega)
    go_enter Try.func83, Try.ntmps83
    go_wp2
    go_ret
    have e_ : keepB l1 i = false := by unfold keepB; rw [decide_eq_false (show ¬ (((i / 8 : Nat) : Int) < (l1.length : Int)) by omega), Bool.false_and]
    rw [e_]
    exact ⟨rfl, by repeat (first | (with_reducible first | exact Below.refl _ _ | apply below_alloc | apply pw_below_drewN | apply below_drew1) | exact Below.refl _ _)⟩

/-! ### impl.DevCrash -/
set_option maxHeartbeats 16000000 in
set_option maxRecDepth 100000 in
theorem impl_DevCrash.walk0 (a0_0 : Int) (A0_1 : Option Addr) (c0_1 : Nat) (l0_1 : List Int) (A0_2 : Option Addr) (c0_2 : Nat) (l0_2 : List S67) (A1 : Option Addr) (c1 : Nat) (l1 : List Int) (W : World) (hr0_1 : Kd.C (Kd.int .u8) W A0_1 l0_1.length l0_1) (hc0_1 : l0_1.length ≤ c0_1) (hr0_2 : Kd.C k67 W A0_2 l0_2.length l0_2) (hc0_2 : l0_2.length ≤ c0_2) (hr1 : Kd.C (Kd.int .u8) W A1 l1.length l1) (hc1 : l1.length ≤ c1) (k : Nat) (E10 : impl_validDevice.f k a0_0 l0_1 l0_2 = some false)  :
    Calls Try.prog 39 #[.agg #[.int .i64 a0_0, .slice A0_1 l0_1.length c0_1, .slice A0_2 l0_2.length c0_2], .slice A1 l1.length c1] W fun e w' => e = .returned (.tuple #[.agg #[.int .i64 0, .slice none 0 0, .slice none 0 0], .int .i64 1]) ∧ Below W.heap.size W w' := by
  have HB := Aside0.mk (Below.refl W.heap.size W)
  have I : Law.Inv [] W := trivial
  
  have hu38 := Try.underlying38
  have hu47 := Try.underlying47
  replace E10 := Aside0.mk E10
  go_enter Try.func39, Try.ntmps39
  go_wp2_with (first
    | ((with_reducible refine gate_dst (N := 2) rfl ?_)
       refine box_event ?hg (N := 2) ?hd (cs := #[.int .i64 a0_0, .slice A0_1 l0_1.length c0_1, .slice A0_2 l0_2.length c0_2]) (t := 47) ?hr ?_
       (case hd => rfl)
       (case hg => rfl)
       (case hr => first | (go_simp; done) | (go_simp; rfl))
       intro gb1 hg w2 hbox hb
       have I1 : Law.Inv [] w2 := Law.Inv.below (by (with_reducible repeat (first | apply Law.Inv.alloc | apply Law.Inv.drewN | apply Law.Inv.drew)); exact I) hb
       have HB1 := Aside0.mk (below_step (by repeat (first | (with_reducible first | exact HB.out | apply below_alloc | apply pw_below_drewN | apply below_drew1) | exact HB.out)) hb)
       have SZ3 := Aside0.mk (show W.heap.size ≤ gb1 ∧ gb1 + 1 ≤ w2.heap.size from ⟨by rw [hg]; exact (by repeat (first | (with_reducible first | exact HB.out | apply below_alloc | apply pw_below_drewN | apply below_drew1) | exact HB.out) : Below W.heap.size W _).size, blk_lt hbox⟩)
       have I2 : Law.Inv (Law.boxI gb1 #[.int .i64 a0_0, .slice A0_1 l0_1.length c0_1, .slice A0_2 l0_2.length c0_2] 47 :: []) w2 := ⟨⟨hbox, blk_lt hbox⟩, I1⟩
       clear I HB hbox hb hg I1
       have I := I2
       have HB := HB1
       clear I2 HB1
       have hcz_gb1_w2_0 : w2.cell? ⟨gb1, 0, none⟩ = some (.int .i64 a0_0) := (blk_cell (Law.blk_of (I.1.1)) 0).trans rfl
       have hfz_gb1_w2_0 := blk_frozen (Law.blk_of (I.1.1)) 0
       have hcz_gb1_w2_1 : w2.cell? ⟨gb1, 1, none⟩ = some (.slice A0_1 l0_1.length c0_1) := (blk_cell (Law.blk_of (I.1.1)) 1).trans rfl
       have hfz_gb1_w2_1 := blk_frozen (Law.blk_of (I.1.1)) 1
       have hcz_gb1_w2_2 : w2.cell? ⟨gb1, 2, none⟩ = some (.slice A0_2 l0_2.length c0_2) := (blk_cell (Law.blk_of (I.1.1)) 2).trans rfl
       have hfz_gb1_w2_2 := blk_frozen (Law.blk_of (I.1.1)) 2)
    | ((with_reducible refine gate_dst (N := 3) rfl ?_)
       refine box_event ?hg (N := 3) ?hd (cs := #[.slice A1 l1.length c1]) (t := 38) ?hr ?_
       (case hd => rfl)
       (case hg => rfl)
       (case hr => first | (go_simp; done) | (go_simp; rfl))
       intro gb4 hg w5 hbox hb
       have I1 : Law.Inv [Law.boxI gb1 #[.int .i64 a0_0, .slice A0_1 l0_1.length c0_1, .slice A0_2 l0_2.length c0_2] 47] w5 := Law.Inv.below (by (with_reducible repeat (first | apply Law.Inv.alloc | apply Law.Inv.drewN | apply Law.Inv.drew)); exact I) hb
       have HB1 := Aside0.mk (below_step (by repeat (first | (with_reducible first | exact HB.out | apply below_alloc | apply pw_below_drewN | apply below_drew1) | exact HB.out)) hb)
       have SZ6 := Aside0.mk (show W.heap.size ≤ gb4 ∧ gb1 + 1 ≤ gb4 ∧ gb4 + 1 ≤ w5.heap.size from ⟨by rw [hg]; exact (by repeat (first | (with_reducible first | exact HB.out | apply below_alloc | apply pw_below_drewN | apply below_drew1) | exact HB.out) : Below W.heap.size W _).size, by rw [hg]; exact (by (with_reducible repeat (first | apply Law.Inv.alloc | apply Law.Inv.drewN | apply Law.Inv.drew)); exact I : Law.Inv [Law.boxI gb1 #[.int .i64 a0_0, .slice A0_1 l0_1.length c0_1, .slice A0_2 l0_2.length c0_2] 47] _).1.2, blk_lt hbox⟩)
       have I2 : Law.Inv (Law.boxI gb4 #[.slice A1 l1.length c1] 38 :: [Law.boxI gb1 #[.int .i64 a0_0, .slice A0_1 l0_1.length c0_1, .slice A0_2 l0_2.length c0_2] 47]) w5 := ⟨⟨hbox, blk_lt hbox⟩, I1⟩
       clear I HB hbox hb hg I1
       have I := I2
       have HB := HB1
       clear I2 HB1
       have hne_gb4_gb1 : gb4 ≠ gb1 := (by have := SZ3.out; have := SZ6.out; first | omega | (simp only [Law.rowI, Law.rowsI, Law.boxI]; omega))
       have hne_gb1_gb4 : gb1 ≠ gb4 := (by have := SZ3.out; have := SZ6.out; first | omega | (simp only [Law.rowI, Law.rowsI, Law.boxI]; omega))
       have hcz_gb1_w5_0 : w5.cell? ⟨gb1, 0, none⟩ = some (.int .i64 a0_0) := (blk_cell (Law.blk_of (I.2.1.1)) 0).trans rfl
       have hfz_gb1_w5_0 := blk_frozen (Law.blk_of (I.2.1.1)) 0
       have hcz_gb1_w5_1 : w5.cell? ⟨gb1, 1, none⟩ = some (.slice A0_1 l0_1.length c0_1) := (blk_cell (Law.blk_of (I.2.1.1)) 1).trans rfl
       have hfz_gb1_w5_1 := blk_frozen (Law.blk_of (I.2.1.1)) 1
       have hcz_gb1_w5_2 : w5.cell? ⟨gb1, 2, none⟩ = some (.slice A0_2 l0_2.length c0_2) := (blk_cell (Law.blk_of (I.2.1.1)) 2).trans rfl
       have hfz_gb1_w5_2 := blk_frozen (Law.blk_of (I.2.1.1)) 2
       have hcz_gb4_w5_0 : w5.cell? ⟨gb4, 0, none⟩ = some (.slice A1 l1.length c1) := (blk_cell (Law.blk_of (I.1.1)) 0).trans rfl
       have hfz_gb4_w5_0 := blk_frozen (Law.blk_of (I.1.1)) 0)
    | ((with_reducible refine gate_dst (N := 4) rfl ?_)
       refine box_event ?hg (N := 4) ?hd (cs := #[.int .i64 0, .slice none 0 0, .slice none 0 0]) (t := 47) ?hr ?_
       (case hd => rfl)
       (case hg => rfl)
       (case hr => first | (go_simp; done) | (go_simp; rfl))
       intro gb7 hg w8 hbox hb
       have I1 : Law.Inv [Law.boxI gb4 #[.slice A1 l1.length c1] 38, Law.boxI gb1 #[.int .i64 a0_0, .slice A0_1 l0_1.length c0_1, .slice A0_2 l0_2.length c0_2] 47] w8 := Law.Inv.below (by (with_reducible repeat (first | apply Law.Inv.alloc | apply Law.Inv.drewN | apply Law.Inv.drew)); exact I) hb
       have HB1 := Aside0.mk (below_step (by repeat (first | (with_reducible first | exact HB.out | apply below_alloc | apply pw_below_drewN | apply below_drew1) | exact HB.out)) hb)
       have SZ9 := Aside0.mk (show W.heap.size ≤ gb7 ∧ gb4 + 1 ≤ gb7 ∧ gb1 + 1 ≤ gb7 ∧ gb7 + 1 ≤ w8.heap.size from ⟨by rw [hg]; exact (by repeat (first | (with_reducible first | exact HB.out | apply below_alloc | apply pw_below_drewN | apply below_drew1) | exact HB.out) : Below W.heap.size W _).size, by rw [hg]; exact (by (with_reducible repeat (first | apply Law.Inv.alloc | apply Law.Inv.drewN | apply Law.Inv.drew)); exact I : Law.Inv [Law.boxI gb4 #[.slice A1 l1.length c1] 38, Law.boxI gb1 #[.int .i64 a0_0, .slice A0_1 l0_1.length c0_1, .slice A0_2 l0_2.length c0_2] 47] _).1.2, by rw [hg]; exact (by (with_reducible repeat (first | apply Law.Inv.alloc | apply Law.Inv.drewN | apply Law.Inv.drew)); exact I : Law.Inv [Law.boxI gb4 #[.slice A1 l1.length c1] 38, Law.boxI gb1 #[.int .i64 a0_0, .slice A0_1 l0_1.length c0_1, .slice A0_2 l0_2.length c0_2] 47] _).2.1.2, blk_lt hbox⟩)
       have I2 : Law.Inv (Law.boxI gb7 #[.int .i64 0, .slice none 0 0, .slice none 0 0] 47 :: [Law.boxI gb4 #[.slice A1 l1.length c1] 38, Law.boxI gb1 #[.int .i64 a0_0, .slice A0_1 l0_1.length c0_1, .slice A0_2 l0_2.length c0_2] 47]) w8 := ⟨⟨hbox, blk_lt hbox⟩, I1⟩
       clear I HB hbox hb hg I1
       have I := I2
       have HB := HB1
       clear I2 HB1
       have hne_gb7_gb1 : gb7 ≠ gb1 := (by have := SZ3.out; have := SZ6.out; have := SZ9.out; first | omega | (simp only [Law.rowI, Law.rowsI, Law.boxI]; omega))
       have hne_gb1_gb7 : gb1 ≠ gb7 := (by have := SZ3.out; have := SZ6.out; have := SZ9.out; first | omega | (simp only [Law.rowI, Law.rowsI, Law.boxI]; omega))
       have hne_gb7_gb4 : gb7 ≠ gb4 := (by have := SZ3.out; have := SZ6.out; have := SZ9.out; first | omega | (simp only [Law.rowI, Law.rowsI, Law.boxI]; omega))
       have hne_gb4_gb7 : gb4 ≠ gb7 := (by have := SZ3.out; have := SZ6.out; have := SZ9.out; first | omega | (simp only [Law.rowI, Law.rowsI, Law.boxI]; omega))
       have hcz_gb1_w8_0 : w8.cell? ⟨gb1, 0, none⟩ = some (.int .i64 a0_0) := (blk_cell (Law.blk_of (I.2.2.1.1)) 0).trans rfl
       have hfz_gb1_w8_0 := blk_frozen (Law.blk_of (I.2.2.1.1)) 0
       have hcz_gb1_w8_1 : w8.cell? ⟨gb1, 1, none⟩ = some (.slice A0_1 l0_1.length c0_1) := (blk_cell (Law.blk_of (I.2.2.1.1)) 1).trans rfl
       have hfz_gb1_w8_1 := blk_frozen (Law.blk_of (I.2.2.1.1)) 1
       have hcz_gb1_w8_2 : w8.cell? ⟨gb1, 2, none⟩ = some (.slice A0_2 l0_2.length c0_2) := (blk_cell (Law.blk_of (I.2.2.1.1)) 2).trans rfl
       have hfz_gb1_w8_2 := blk_frozen (Law.blk_of (I.2.2.1.1)) 2
       have hcz_gb4_w8_0 : w8.cell? ⟨gb4, 0, none⟩ = some (.slice A1 l1.length c1) := (blk_cell (Law.blk_of (I.2.1.1)) 0).trans rfl
       have hfz_gb4_w8_0 := blk_frozen (Law.blk_of (I.2.1.1)) 0
       have hcz_gb7_w8_0 : w8.cell? ⟨gb7, 0, none⟩ = some (.int .i64 0) := (blk_cell (Law.blk_of (I.1.1)) 0).trans rfl
       have hfz_gb7_w8_0 := blk_frozen (Law.blk_of (I.1.1)) 0
       have hcz_gb7_w8_1 : w8.cell? ⟨gb7, 1, none⟩ = some (.slice none 0 0) := (blk_cell (Law.blk_of (I.1.1)) 1).trans rfl
       have hfz_gb7_w8_1 := blk_frozen (Law.blk_of (I.1.1)) 1
       have hcz_gb7_w8_2 : w8.cell? ⟨gb7, 2, none⟩ = some (.slice none 0 0) := (blk_cell (Law.blk_of (I.1.1)) 2).trans rfl
       have hfz_gb7_w8_2 := blk_frozen (Law.blk_of (I.1.1)) 2)
    | ((with_reducible refine gate_callee (f := 74) rfl ?_)
       refine goesL_ (some 8) rfl rfl Try.func74 (by kernel_rfl) rfl #[.agg #[.int .i64 a0_0, .slice A0_1 l0_1.length c0_1, .slice A0_2 l0_2.length c0_2]] rfl (by (try simp only [List.map_toArray, List.map_cons, List.map_nil]); first | done | rfl) ?_
       refine Law.at_world (fun w11 hw1 => ?_)
       have I1 : Law.Inv [Law.boxI gb7 #[.int .i64 0, .slice none 0 0, .slice none 0 0] 47, Law.boxI gb4 #[.slice A1 l1.length c1] 38, Law.boxI gb1 #[.int .i64 a0_0, .slice A0_1 l0_1.length c0_1, .slice A0_2 l0_2.length c0_2] 47] w11 := by rw [hw1]; (with_reducible repeat (first | apply Law.Inv.alloc | apply Law.Inv.drewN | apply Law.Inv.drew)); exact I
       have HB1 := Aside0.mk (show Below W.heap.size W w11 by rw [hw1]; repeat (first | (with_reducible first | exact HB.out | apply below_alloc | apply pw_below_drewN | apply below_drew1) | exact HB.out))
       clear I HB hw1
       have I := I1
       have HB := HB1
       clear I1 HB1
       refine (impl_validDevice.calls k a0_0 A0_1 c0_1 l0_1 A0_2 c0_2 l0_2 false w11 ?_ ?_ ?_ ?_ E10.out).mono ?_
       · exact Kd.C_below hr0_1 HB.out
       · exact hc0_1
       · exact Kd.C_below hr0_2 HB.out
       · exact hc0_2
       rintro e w12 ⟨rfl, hq0⟩
       refine ⟨_, rfl, ?_⟩
       have I1 : Law.Inv [Law.boxI gb7 #[.int .i64 0, .slice none 0 0, .slice none 0 0] 47, Law.boxI gb4 #[.slice A1 l1.length c1] 38, Law.boxI gb1 #[.int .i64 a0_0, .slice A0_1 l0_1.length c0_1, .slice A0_2 l0_2.length c0_2] 47] w12 := Law.Inv.below I hq0
       have HB1 := Aside0.mk (below_step HB.out hq0)
       have SZ13 := Aside0.mk (show W.heap.size ≤ w11.heap.size ∧ gb7 + 1 ≤ w11.heap.size ∧ gb4 + 1 ≤ w11.heap.size ∧ gb1 + 1 ≤ w11.heap.size ∧ w11.heap.size ≤ w12.heap.size from ⟨HB.out.size, I.1.2, I.2.1.2, I.2.2.1.2, hq0.size⟩)
       clear I HB
       have I := I1
       have HB := HB1
       clear I1 HB1
       have hcz_gb1_w12_0 : w12.cell? ⟨gb1, 0, none⟩ = some (.int .i64 a0_0) := (blk_cell (Law.blk_of (I.2.2.1.1)) 0).trans rfl
       have hfz_gb1_w12_0 := blk_frozen (Law.blk_of (I.2.2.1.1)) 0
       have hcz_gb1_w12_1 : w12.cell? ⟨gb1, 1, none⟩ = some (.slice A0_1 l0_1.length c0_1) := (blk_cell (Law.blk_of (I.2.2.1.1)) 1).trans rfl
       have hfz_gb1_w12_1 := blk_frozen (Law.blk_of (I.2.2.1.1)) 1
       have hcz_gb1_w12_2 : w12.cell? ⟨gb1, 2, none⟩ = some (.slice A0_2 l0_2.length c0_2) := (blk_cell (Law.blk_of (I.2.2.1.1)) 2).trans rfl
       have hfz_gb1_w12_2 := blk_frozen (Law.blk_of (I.2.2.1.1)) 2
       have hcz_gb4_w12_0 : w12.cell? ⟨gb4, 0, none⟩ = some (.slice A1 l1.length c1) := (blk_cell (Law.blk_of (I.2.1.1)) 0).trans rfl
       have hfz_gb4_w12_0 := blk_frozen (Law.blk_of (I.2.1.1)) 0
       have hcz_gb7_w12_0 : w12.cell? ⟨gb7, 0, none⟩ = some (.int .i64 0) := (blk_cell (Law.blk_of (I.1.1)) 0).trans rfl
       have hfz_gb7_w12_0 := blk_frozen (Law.blk_of (I.1.1)) 0
       have hcz_gb7_w12_1 : w12.cell? ⟨gb7, 1, none⟩ = some (.slice none 0 0) := (blk_cell (Law.blk_of (I.1.1)) 1).trans rfl
       have hfz_gb7_w12_1 := blk_frozen (Law.blk_of (I.1.1)) 1
       have hcz_gb7_w12_2 : w12.cell? ⟨gb7, 2, none⟩ = some (.slice none 0 0) := (blk_cell (Law.blk_of (I.1.1)) 2).trans rfl
       have hfz_gb7_w12_2 := blk_frozen (Law.blk_of (I.1.1)) 2))
  try go_wp2
  refine Law.post_world (fun wE hwE => ?_)
  have I1 : Law.Inv [Law.boxI gb7 #[.int .i64 0, .slice none 0 0, .slice none 0 0] 47, Law.boxI gb4 #[.slice A1 l1.length c1] 38, Law.boxI gb1 #[.int .i64 a0_0, .slice A0_1 l0_1.length c0_1, .slice A0_2 l0_2.length c0_2] 47] wE := by rw [hwE]; (with_reducible repeat (first | apply Law.Inv.alloc | apply Law.Inv.drewN | apply Law.Inv.drew)); refine Law.Inv.put (cs := #[.int .i64 0, .slice none 0 0, .slice none 0 0]) ?_ (by have := SZ3.out; have := SZ6.out; have := SZ9.out; have := SZ13.out; refine ⟨?_, ?_, trivial⟩ <;> simp only [Law.rowI, Law.rowsI, Law.boxI] <;> omega) rfl; (with_reducible repeat (first | apply Law.Inv.alloc | apply Law.Inv.drewN | apply Law.Inv.drew)); refine Law.Inv.put (cs := #[.int .i64 0, .slice none 0 0, .slice none 0 0]) ?_ (by have := SZ3.out; have := SZ6.out; have := SZ9.out; have := SZ13.out; refine ⟨?_, ?_, trivial⟩ <;> simp only [Law.rowI, Law.rowsI, Law.boxI] <;> omega) rfl; (with_reducible repeat (first | apply Law.Inv.alloc | apply Law.Inv.drewN | apply Law.Inv.drew)); refine Law.Inv.put (cs := #[.int .i64 0, .slice none 0 0, .slice none 0 0]) ?_ (by have := SZ3.out; have := SZ6.out; have := SZ9.out; have := SZ13.out; refine ⟨?_, ?_, trivial⟩ <;> simp only [Law.rowI, Law.rowsI, Law.boxI] <;> omega) rfl; (with_reducible repeat (first | apply Law.Inv.alloc | apply Law.Inv.drewN | apply Law.Inv.drew)); exact I
  have HB1 : Below W.heap.size W wE := by rw [hwE]; repeat (first | (with_reducible first | exact HB.out | apply below_alloc | apply pw_below_drewN | apply below_drew1 | refine below_set ?_ (by have := SZ3.out; have := SZ6.out; have := SZ9.out; have := SZ13.out; first | omega | (simp only [Law.rowI, Law.rowsI, Law.boxI]; omega))) | exact HB.out)
  clear hwE I HB
  have I := I1
  have HB := Aside0.mk HB1
  clear I1 HB1
  have hcz_gb1_wE_0 : wE.cell? ⟨gb1, 0, none⟩ = some (.int .i64 a0_0) := (blk_cell (Law.blk_of (I.2.2.1.1)) 0).trans rfl
  have hfz_gb1_wE_0 := blk_frozen (Law.blk_of (I.2.2.1.1)) 0
  have hcz_gb1_wE_1 : wE.cell? ⟨gb1, 1, none⟩ = some (.slice A0_1 l0_1.length c0_1) := (blk_cell (Law.blk_of (I.2.2.1.1)) 1).trans rfl
  have hfz_gb1_wE_1 := blk_frozen (Law.blk_of (I.2.2.1.1)) 1
  have hcz_gb1_wE_2 : wE.cell? ⟨gb1, 2, none⟩ = some (.slice A0_2 l0_2.length c0_2) := (blk_cell (Law.blk_of (I.2.2.1.1)) 2).trans rfl
  have hfz_gb1_wE_2 := blk_frozen (Law.blk_of (I.2.2.1.1)) 2
  have hcz_gb4_wE_0 : wE.cell? ⟨gb4, 0, none⟩ = some (.slice A1 l1.length c1) := (blk_cell (Law.blk_of (I.2.1.1)) 0).trans rfl
  have hfz_gb4_wE_0 := blk_frozen (Law.blk_of (I.2.1.1)) 0
  have hcz_gb7_wE_0 : wE.cell? ⟨gb7, 0, none⟩ = some (.int .i64 0) := (blk_cell (Law.blk_of (I.1.1)) 0).trans rfl
  have hfz_gb7_wE_0 := blk_frozen (Law.blk_of (I.1.1)) 0
  have hcz_gb7_wE_1 : wE.cell? ⟨gb7, 1, none⟩ = some (.slice none 0 0) := (blk_cell (Law.blk_of (I.1.1)) 1).trans rfl
  have hfz_gb7_wE_1 := blk_frozen (Law.blk_of (I.1.1)) 1
  have hcz_gb7_wE_2 : wE.cell? ⟨gb7, 2, none⟩ = some (.slice none 0 0) := (blk_cell (Law.blk_of (I.1.1)) 2).trans rfl
  have hfz_gb7_wE_2 := blk_frozen (Law.blk_of (I.1.1)) 2
  refine bodyPost_ret (v := .tuple #[.agg #[.int .i64 0, .slice none 0 0, .slice none 0 0], .int .i64 1]) ?_ rfl ?_
  · simp [results, Try.f39, go_sem, *]
  · exact ⟨rfl, HB.out⟩
set_option maxHeartbeats 16000000 in
set_option maxRecDepth 100000 in
theorem impl_DevCrash.walk1 (a0_0 : Int) (A0_1 : Option Addr) (c0_1 : Nat) (l0_1 : List Int) (A0_2 : Option Addr) (c0_2 : Nat) (l0_2 : List S67) (A1 : Option Addr) (c1 : Nat) (l1 : List Int) (W : World) (hr0_1 : Kd.C (Kd.int .u8) W A0_1 l0_1.length l0_1) (hc0_1 : l0_1.length ≤ c0_1) (hr0_2 : Kd.C k67 W A0_2 l0_2.length l0_2) (hc0_2 : l0_2.length ≤ c0_2) (hr1 : Kd.C (Kd.int .u8) W A1 l1.length l1) (hc1 : l1.length ≤ c1) (k : Nat) (r14 : Int) (r15 : List Int) (r16 : List (S67)) (E10 : impl_validDevice.f k a0_0 l0_1 l0_2 = some true) (E17 : impl_copyDevice.f k a0_0 l0_1 l0_2 = some (r14, r15, r16)) (EFIT : fitB r15 r16) :
    Calls Try.prog 39 #[.agg #[.int .i64 a0_0, .slice A0_1 l0_1.length c0_1, .slice A0_2 l0_2.length c0_2], .slice A1 l1.length c1] W fun e w' => ∃ v1_ : Value, e = .returned (.tuple #[.agg #[.int .i64 r14, v1_, .slice none 0 0], .int .i64 0]) ∧ Kd.R (Kd.int .u8) 5 w' W.heap.size (fun _ => True) v1_ (setB r15 r16 (keepB l1) r16.length) ∧ Below W.heap.size W w' := by
  have HB := Aside0.mk (Below.refl W.heap.size W)
  have I : Law.Inv [] W := trivial
  replace EFIT := Aside0.mk EFIT
  have hu38 := Try.underlying38
  have hu47 := Try.underlying47
  replace E10 := Aside0.mk E10
  replace E17 := Aside0.mk E17
  go_enter Try.func39, Try.ntmps39
  go_wp2_with (first
    | ((with_reducible refine gate_dst (N := 2) rfl ?_)
       refine box_event ?hg (N := 2) ?hd (cs := #[.int .i64 a0_0, .slice A0_1 l0_1.length c0_1, .slice A0_2 l0_2.length c0_2]) (t := 47) ?hr ?_
       (case hd => rfl)
       (case hg => rfl)
       (case hr => first | (go_simp; done) | (go_simp; rfl))
       intro gb1 hg w2 hbox hb
       have I1 : Law.Inv [] w2 := Law.Inv.below (by (with_reducible repeat (first | apply Law.Inv.alloc | apply Law.Inv.drewN | apply Law.Inv.drew)); exact I) hb
       have HB1 := Aside0.mk (below_step (by repeat (first | (with_reducible first | exact HB.out | apply below_alloc | apply pw_below_drewN | apply below_drew1) | exact HB.out)) hb)
       have SZ3 := Aside0.mk (show W.heap.size ≤ gb1 ∧ gb1 + 1 ≤ w2.heap.size from ⟨by rw [hg]; exact (by repeat (first | (with_reducible first | exact HB.out | apply below_alloc | apply pw_below_drewN | apply below_drew1) | exact HB.out) : Below W.heap.size W _).size, blk_lt hbox⟩)
       have I2 : Law.Inv (Law.boxI gb1 #[.int .i64 a0_0, .slice A0_1 l0_1.length c0_1, .slice A0_2 l0_2.length c0_2] 47 :: []) w2 := ⟨⟨hbox, blk_lt hbox⟩, I1⟩
       clear I HB hbox hb hg I1
       have I := I2
       have HB := HB1
       clear I2 HB1
       have hcz_gb1_w2_0 : w2.cell? ⟨gb1, 0, none⟩ = some (.int .i64 a0_0) := (blk_cell (Law.blk_of (I.1.1)) 0).trans rfl
       have hfz_gb1_w2_0 := blk_frozen (Law.blk_of (I.1.1)) 0
       have hcz_gb1_w2_1 : w2.cell? ⟨gb1, 1, none⟩ = some (.slice A0_1 l0_1.length c0_1) := (blk_cell (Law.blk_of (I.1.1)) 1).trans rfl
       have hfz_gb1_w2_1 := blk_frozen (Law.blk_of (I.1.1)) 1
       have hcz_gb1_w2_2 : w2.cell? ⟨gb1, 2, none⟩ = some (.slice A0_2 l0_2.length c0_2) := (blk_cell (Law.blk_of (I.1.1)) 2).trans rfl
       have hfz_gb1_w2_2 := blk_frozen (Law.blk_of (I.1.1)) 2)
    | ((with_reducible refine gate_dst (N := 3) rfl ?_)
       refine box_event ?hg (N := 3) ?hd (cs := #[.slice A1 l1.length c1]) (t := 38) ?hr ?_
       (case hd => rfl)
       (case hg => rfl)
       (case hr => first | (go_simp; done) | (go_simp; rfl))
       intro gb4 hg w5 hbox hb
       have I1 : Law.Inv [Law.boxI gb1 #[.int .i64 a0_0, .slice A0_1 l0_1.length c0_1, .slice A0_2 l0_2.length c0_2] 47] w5 := Law.Inv.below (by (with_reducible repeat (first | apply Law.Inv.alloc | apply Law.Inv.drewN | apply Law.Inv.drew)); exact I) hb
       have HB1 := Aside0.mk (below_step (by repeat (first | (with_reducible first | exact HB.out | apply below_alloc | apply pw_below_drewN | apply below_drew1) | exact HB.out)) hb)
       have SZ6 := Aside0.mk (show W.heap.size ≤ gb4 ∧ gb1 + 1 ≤ gb4 ∧ gb4 + 1 ≤ w5.heap.size from ⟨by rw [hg]; exact (by repeat (first | (with_reducible first | exact HB.out | apply below_alloc | apply pw_below_drewN | apply below_drew1) | exact HB.out) : Below W.heap.size W _).size, by rw [hg]; exact (by (with_reducible repeat (first | apply Law.Inv.alloc | apply Law.Inv.drewN | apply Law.Inv.drew)); exact I : Law.Inv [Law.boxI gb1 #[.int .i64 a0_0, .slice A0_1 l0_1.length c0_1, .slice A0_2 l0_2.length c0_2] 47] _).1.2, blk_lt hbox⟩)
       have I2 : Law.Inv (Law.boxI gb4 #[.slice A1 l1.length c1] 38 :: [Law.boxI gb1 #[.int .i64 a0_0, .slice A0_1 l0_1.length c0_1, .slice A0_2 l0_2.length c0_2] 47]) w5 := ⟨⟨hbox, blk_lt hbox⟩, I1⟩
       clear I HB hbox hb hg I1
       have I := I2
       have HB := HB1
       clear I2 HB1
       have hne_gb4_gb1 : gb4 ≠ gb1 := (by have := SZ3.out; have := SZ6.out; first | omega | (simp only [Law.rowI, Law.rowsI, Law.boxI]; omega))
       have hne_gb1_gb4 : gb1 ≠ gb4 := (by have := SZ3.out; have := SZ6.out; first | omega | (simp only [Law.rowI, Law.rowsI, Law.boxI]; omega))
       have hcz_gb1_w5_0 : w5.cell? ⟨gb1, 0, none⟩ = some (.int .i64 a0_0) := (blk_cell (Law.blk_of (I.2.1.1)) 0).trans rfl
       have hfz_gb1_w5_0 := blk_frozen (Law.blk_of (I.2.1.1)) 0
       have hcz_gb1_w5_1 : w5.cell? ⟨gb1, 1, none⟩ = some (.slice A0_1 l0_1.length c0_1) := (blk_cell (Law.blk_of (I.2.1.1)) 1).trans rfl
       have hfz_gb1_w5_1 := blk_frozen (Law.blk_of (I.2.1.1)) 1
       have hcz_gb1_w5_2 : w5.cell? ⟨gb1, 2, none⟩ = some (.slice A0_2 l0_2.length c0_2) := (blk_cell (Law.blk_of (I.2.1.1)) 2).trans rfl
       have hfz_gb1_w5_2 := blk_frozen (Law.blk_of (I.2.1.1)) 2
       have hcz_gb4_w5_0 : w5.cell? ⟨gb4, 0, none⟩ = some (.slice A1 l1.length c1) := (blk_cell (Law.blk_of (I.1.1)) 0).trans rfl
       have hfz_gb4_w5_0 := blk_frozen (Law.blk_of (I.1.1)) 0)
    | ((with_reducible refine gate_dst (N := 4) rfl ?_)
       refine box_event ?hg (N := 4) ?hd (cs := #[.int .i64 0, .slice none 0 0, .slice none 0 0]) (t := 47) ?hr ?_
       (case hd => rfl)
       (case hg => rfl)
       (case hr => first | (go_simp; done) | (go_simp; rfl))
       intro gb7 hg w8 hbox hb
       have I1 : Law.Inv [Law.boxI gb4 #[.slice A1 l1.length c1] 38, Law.boxI gb1 #[.int .i64 a0_0, .slice A0_1 l0_1.length c0_1, .slice A0_2 l0_2.length c0_2] 47] w8 := Law.Inv.below (by (with_reducible repeat (first | apply Law.Inv.alloc | apply Law.Inv.drewN | apply Law.Inv.drew)); exact I) hb
       have HB1 := Aside0.mk (below_step (by repeat (first | (with_reducible first | exact HB.out | apply below_alloc | apply pw_below_drewN | apply below_drew1) | exact HB.out)) hb)
       have SZ9 := Aside0.mk (show W.heap.size ≤ gb7 ∧ gb4 + 1 ≤ gb7 ∧ gb1 + 1 ≤ gb7 ∧ gb7 + 1 ≤ w8.heap.size from ⟨by rw [hg]; exact (by repeat (first | (with_reducible first | exact HB.out | apply below_alloc | apply pw_below_drewN | apply below_drew1) | exact HB.out) : Below W.heap.size W _).size, by rw [hg]; exact (by (with_reducible repeat (first | apply Law.Inv.alloc | apply Law.Inv.drewN | apply Law.Inv.drew)); exact I : Law.Inv [Law.boxI gb4 #[.slice A1 l1.length c1] 38, Law.boxI gb1 #[.int .i64 a0_0, .slice A0_1 l0_1.length c0_1, .slice A0_2 l0_2.length c0_2] 47] _).1.2, by rw [hg]; exact (by (with_reducible repeat (first | apply Law.Inv.alloc | apply Law.Inv.drewN | apply Law.Inv.drew)); exact I : Law.Inv [Law.boxI gb4 #[.slice A1 l1.length c1] 38, Law.boxI gb1 #[.int .i64 a0_0, .slice A0_1 l0_1.length c0_1, .slice A0_2 l0_2.length c0_2] 47] _).2.1.2, blk_lt hbox⟩)
       have I2 : Law.Inv (Law.boxI gb7 #[.int .i64 0, .slice none 0 0, .slice none 0 0] 47 :: [Law.boxI gb4 #[.slice A1 l1.length c1] 38, Law.boxI gb1 #[.int .i64 a0_0, .slice A0_1 l0_1.length c0_1, .slice A0_2 l0_2.length c0_2] 47]) w8 := ⟨⟨hbox, blk_lt hbox⟩, I1⟩
       clear I HB hbox hb hg I1
       have I := I2
       have HB := HB1
       clear I2 HB1
       have hne_gb7_gb1 : gb7 ≠ gb1 := (by have := SZ3.out; have := SZ6.out; have := SZ9.out; first | omega | (simp only [Law.rowI, Law.rowsI, Law.boxI]; omega))
       have hne_gb1_gb7 : gb1 ≠ gb7 := (by have := SZ3.out; have := SZ6.out; have := SZ9.out; first | omega | (simp only [Law.rowI, Law.rowsI, Law.boxI]; omega))
       have hne_gb7_gb4 : gb7 ≠ gb4 := (by have := SZ3.out; have := SZ6.out; have := SZ9.out; first | omega | (simp only [Law.rowI, Law.rowsI, Law.boxI]; omega))
       have hne_gb4_gb7 : gb4 ≠ gb7 := (by have := SZ3.out; have := SZ6.out; have := SZ9.out; first | omega | (simp only [Law.rowI, Law.rowsI, Law.boxI]; omega))
       have hcz_gb1_w8_0 : w8.cell? ⟨gb1, 0, none⟩ = some (.int .i64 a0_0) := (blk_cell (Law.blk_of (I.2.2.1.1)) 0).trans rfl
       have hfz_gb1_w8_0 := blk_frozen (Law.blk_of (I.2.2.1.1)) 0
       have hcz_gb1_w8_1 : w8.cell? ⟨gb1, 1, none⟩ = some (.slice A0_1 l0_1.length c0_1) := (blk_cell (Law.blk_of (I.2.2.1.1)) 1).trans rfl
       have hfz_gb1_w8_1 := blk_frozen (Law.blk_of (I.2.2.1.1)) 1
       have hcz_gb1_w8_2 : w8.cell? ⟨gb1, 2, none⟩ = some (.slice A0_2 l0_2.length c0_2) := (blk_cell (Law.blk_of (I.2.2.1.1)) 2).trans rfl
       have hfz_gb1_w8_2 := blk_frozen (Law.blk_of (I.2.2.1.1)) 2
       have hcz_gb4_w8_0 : w8.cell? ⟨gb4, 0, none⟩ = some (.slice A1 l1.length c1) := (blk_cell (Law.blk_of (I.2.1.1)) 0).trans rfl
       have hfz_gb4_w8_0 := blk_frozen (Law.blk_of (I.2.1.1)) 0
       have hcz_gb7_w8_0 : w8.cell? ⟨gb7, 0, none⟩ = some (.int .i64 0) := (blk_cell (Law.blk_of (I.1.1)) 0).trans rfl
       have hfz_gb7_w8_0 := blk_frozen (Law.blk_of (I.1.1)) 0
       have hcz_gb7_w8_1 : w8.cell? ⟨gb7, 1, none⟩ = some (.slice none 0 0) := (blk_cell (Law.blk_of (I.1.1)) 1).trans rfl
       have hfz_gb7_w8_1 := blk_frozen (Law.blk_of (I.1.1)) 1
       have hcz_gb7_w8_2 : w8.cell? ⟨gb7, 2, none⟩ = some (.slice none 0 0) := (blk_cell (Law.blk_of (I.1.1)) 2).trans rfl
       have hfz_gb7_w8_2 := blk_frozen (Law.blk_of (I.1.1)) 2)
    | ((with_reducible refine gate_callee (f := 74) rfl ?_)
       refine goesL_ (some 8) rfl rfl Try.func74 (by kernel_rfl) rfl #[.agg #[.int .i64 a0_0, .slice A0_1 l0_1.length c0_1, .slice A0_2 l0_2.length c0_2]] rfl (by (try simp only [List.map_toArray, List.map_cons, List.map_nil]); first | done | rfl) ?_
       refine Law.at_world (fun w11 hw1 => ?_)
       have I1 : Law.Inv [Law.boxI gb7 #[.int .i64 0, .slice none 0 0, .slice none 0 0] 47, Law.boxI gb4 #[.slice A1 l1.length c1] 38, Law.boxI gb1 #[.int .i64 a0_0, .slice A0_1 l0_1.length c0_1, .slice A0_2 l0_2.length c0_2] 47] w11 := by rw [hw1]; (with_reducible repeat (first | apply Law.Inv.alloc | apply Law.Inv.drewN | apply Law.Inv.drew)); exact I
       have HB1 := Aside0.mk (show Below W.heap.size W w11 by rw [hw1]; repeat (first | (with_reducible first | exact HB.out | apply below_alloc | apply pw_below_drewN | apply below_drew1) | exact HB.out))
       clear I HB hw1
       have I := I1
       have HB := HB1
       clear I1 HB1
       refine (impl_validDevice.calls k a0_0 A0_1 c0_1 l0_1 A0_2 c0_2 l0_2 true w11 ?_ ?_ ?_ ?_ E10.out).mono ?_
       · exact Kd.C_below hr0_1 HB.out
       · exact hc0_1
       · exact Kd.C_below hr0_2 HB.out
       · exact hc0_2
       rintro e w12 ⟨rfl, hq0⟩
       refine ⟨_, rfl, ?_⟩
       have I1 : Law.Inv [Law.boxI gb7 #[.int .i64 0, .slice none 0 0, .slice none 0 0] 47, Law.boxI gb4 #[.slice A1 l1.length c1] 38, Law.boxI gb1 #[.int .i64 a0_0, .slice A0_1 l0_1.length c0_1, .slice A0_2 l0_2.length c0_2] 47] w12 := Law.Inv.below I hq0
       have HB1 := Aside0.mk (below_step HB.out hq0)
       have SZ13 := Aside0.mk (show W.heap.size ≤ w11.heap.size ∧ gb7 + 1 ≤ w11.heap.size ∧ gb4 + 1 ≤ w11.heap.size ∧ gb1 + 1 ≤ w11.heap.size ∧ w11.heap.size ≤ w12.heap.size from ⟨HB.out.size, I.1.2, I.2.1.2, I.2.2.1.2, hq0.size⟩)
       clear I HB
       have I := I1
       have HB := HB1
       clear I1 HB1
       have hcz_gb1_w12_0 : w12.cell? ⟨gb1, 0, none⟩ = some (.int .i64 a0_0) := (blk_cell (Law.blk_of (I.2.2.1.1)) 0).trans rfl
       have hfz_gb1_w12_0 := blk_frozen (Law.blk_of (I.2.2.1.1)) 0
       have hcz_gb1_w12_1 : w12.cell? ⟨gb1, 1, none⟩ = some (.slice A0_1 l0_1.length c0_1) := (blk_cell (Law.blk_of (I.2.2.1.1)) 1).trans rfl
       have hfz_gb1_w12_1 := blk_frozen (Law.blk_of (I.2.2.1.1)) 1
       have hcz_gb1_w12_2 : w12.cell? ⟨gb1, 2, none⟩ = some (.slice A0_2 l0_2.length c0_2) := (blk_cell (Law.blk_of (I.2.2.1.1)) 2).trans rfl
       have hfz_gb1_w12_2 := blk_frozen (Law.blk_of (I.2.2.1.1)) 2
       have hcz_gb4_w12_0 : w12.cell? ⟨gb4, 0, none⟩ = some (.slice A1 l1.length c1) := (blk_cell (Law.blk_of (I.2.1.1)) 0).trans rfl
       have hfz_gb4_w12_0 := blk_frozen (Law.blk_of (I.2.1.1)) 0
       have hcz_gb7_w12_0 : w12.cell? ⟨gb7, 0, none⟩ = some (.int .i64 0) := (blk_cell (Law.blk_of (I.1.1)) 0).trans rfl
       have hfz_gb7_w12_0 := blk_frozen (Law.blk_of (I.1.1)) 0
       have hcz_gb7_w12_1 : w12.cell? ⟨gb7, 1, none⟩ = some (.slice none 0 0) := (blk_cell (Law.blk_of (I.1.1)) 1).trans rfl
       have hfz_gb7_w12_1 := blk_frozen (Law.blk_of (I.1.1)) 1
       have hcz_gb7_w12_2 : w12.cell? ⟨gb7, 2, none⟩ = some (.slice none 0 0) := (blk_cell (Law.blk_of (I.1.1)) 2).trans rfl
       have hfz_gb7_w12_2 := blk_frozen (Law.blk_of (I.1.1)) 2)
    | ((with_reducible refine gate_callee (f := 81) rfl ?_)
       refine goesL_ (some 12) rfl rfl Try.func81 (by kernel_rfl) rfl #[.agg #[.int .i64 a0_0, .slice A0_1 l0_1.length c0_1, .slice A0_2 l0_2.length c0_2]] rfl (by (try simp only [List.map_toArray, List.map_cons, List.map_nil]); first | done | rfl) ?_
       refine Law.at_world (fun w18 hw1 => ?_)
       have I1 : Law.Inv [Law.boxI gb7 #[.int .i64 0, .slice none 0 0, .slice none 0 0] 47, Law.boxI gb4 #[.slice A1 l1.length c1] 38, Law.boxI gb1 #[.int .i64 a0_0, .slice A0_1 l0_1.length c0_1, .slice A0_2 l0_2.length c0_2] 47] w18 := by rw [hw1]; (with_reducible repeat (first | apply Law.Inv.alloc | apply Law.Inv.drewN | apply Law.Inv.drew)); exact I
       have HB1 := Aside0.mk (show Below W.heap.size W w18 by rw [hw1]; repeat (first | (with_reducible first | exact HB.out | apply below_alloc | apply pw_below_drewN | apply below_drew1) | exact HB.out))
       clear I HB hw1
       have I := I1
       have HB := HB1
       clear I1 HB1
       refine (impl_copyDevice.calls k a0_0 A0_1 c0_1 l0_1 A0_2 c0_2 l0_2 r14 r15 r16 w18 ?_ ?_ ?_ ?_ E17.out).mono ?_
       · exact Kd.C_below hr0_1 HB.out
       · exact hc0_1
       · exact Kd.C_below hr0_2 HB.out
       · exact hc0_2
       rintro e w19 ⟨v20, v21, rfl, hq0, hq1, hq2⟩
       refine ⟨_, rfl, ?_⟩
       obtain ⟨Ao22, co23, eo24⟩ := Kd.R_slice hq0
       subst eo24
       obtain ⟨Ao25, co26, eo27⟩ := Kd.S_slice hq1
       subst eo27
       have I1 : Law.Inv [Law.boxI gb7 #[.int .i64 0, .slice none 0 0, .slice none 0 0] 47, Law.boxI gb4 #[.slice A1 l1.length c1] 38, Law.boxI gb1 #[.int .i64 a0_0, .slice A0_1 l0_1.length c0_1, .slice A0_2 l0_2.length c0_2] 47] w19 := Law.Inv.below I hq2
       have HB1 := Aside0.mk (below_step HB.out hq2)
       have SZ28 := Aside0.mk (show W.heap.size ≤ w18.heap.size ∧ gb7 + 1 ≤ w18.heap.size ∧ gb4 + 1 ≤ w18.heap.size ∧ gb1 + 1 ≤ w18.heap.size ∧ w18.heap.size ≤ w19.heap.size from ⟨HB.out.size, I.1.2, I.2.1.2, I.2.2.1.2, hq2.size⟩)
       have I1 : Law.Inv (Law.rowI (Kd.int .u8) 5 w18.heap.size w18.heap.size w19.heap.size (fun _ => True) (.slice Ao22 r15.length co23) r15 :: [Law.boxI gb7 #[.int .i64 0, .slice none 0 0, .slice none 0 0] 47, Law.boxI gb4 #[.slice A1 l1.length c1] 38, Law.boxI gb1 #[.int .i64 a0_0, .slice A0_1 l0_1.length c0_1, .slice A0_2 l0_2.length c0_2] 47]) w19 := ⟨Law.rowI_new hq0 (fun _ h => h), I1⟩
       have I1 : Law.Inv (Law.rowsI k67 67 w18.heap.size w18.heap.size w19.heap.size (fun k_ => some k_ ≠ (.slice Ao22 r15.length co23 : Value).ownBlock) (.slice Ao25 r16.length co26) r16 :: [Law.rowI (Kd.int .u8) 5 w18.heap.size w18.heap.size w19.heap.size (fun _ => True) (.slice Ao22 r15.length co23) r15, Law.boxI gb7 #[.int .i64 0, .slice none 0 0, .slice none 0 0] 47, Law.boxI gb4 #[.slice A1 l1.length c1] 38, Law.boxI gb1 #[.int .i64 a0_0, .slice A0_1 l0_1.length c0_1, .slice A0_2 l0_2.length c0_2] 47]) w19 := ⟨Law.rowsI_new hq1 (fun _ h => h), I1⟩
       clear I HB
       have I := I1
       have HB := HB1
       clear I1 HB1
       have hcz_gb1_w19_0 : w19.cell? ⟨gb1, 0, none⟩ = some (.int .i64 a0_0) := (blk_cell (Law.blk_of (I.2.2.2.2.1.1)) 0).trans rfl
       have hfz_gb1_w19_0 := blk_frozen (Law.blk_of (I.2.2.2.2.1.1)) 0
       have hcz_gb1_w19_1 : w19.cell? ⟨gb1, 1, none⟩ = some (.slice A0_1 l0_1.length c0_1) := (blk_cell (Law.blk_of (I.2.2.2.2.1.1)) 1).trans rfl
       have hfz_gb1_w19_1 := blk_frozen (Law.blk_of (I.2.2.2.2.1.1)) 1
       have hcz_gb1_w19_2 : w19.cell? ⟨gb1, 2, none⟩ = some (.slice A0_2 l0_2.length c0_2) := (blk_cell (Law.blk_of (I.2.2.2.2.1.1)) 2).trans rfl
       have hfz_gb1_w19_2 := blk_frozen (Law.blk_of (I.2.2.2.2.1.1)) 2
       have hcz_gb4_w19_0 : w19.cell? ⟨gb4, 0, none⟩ = some (.slice A1 l1.length c1) := (blk_cell (Law.blk_of (I.2.2.2.1.1)) 0).trans rfl
       have hfz_gb4_w19_0 := blk_frozen (Law.blk_of (I.2.2.2.1.1)) 0
       have hcz_gb7_w19_0 : w19.cell? ⟨gb7, 0, none⟩ = some (.int .i64 0) := (blk_cell (Law.blk_of (I.2.2.1.1)) 0).trans rfl
       have hfz_gb7_w19_0 := blk_frozen (Law.blk_of (I.2.2.1.1)) 0
       have hcz_gb7_w19_1 : w19.cell? ⟨gb7, 1, none⟩ = some (.slice none 0 0) := (blk_cell (Law.blk_of (I.2.2.1.1)) 1).trans rfl
       have hfz_gb7_w19_1 := blk_frozen (Law.blk_of (I.2.2.1.1)) 1
       have hcz_gb7_w19_2 : w19.cell? ⟨gb7, 2, none⟩ = some (.slice none 0 0) := (blk_cell (Law.blk_of (I.2.2.1.1)) 2).trans rfl
       have hfz_gb7_w19_2 := blk_frozen (Law.blk_of (I.2.2.1.1)) 2)
    | ((with_reducible refine gate_dst (N := 6) rfl ?_)
       refine box_event ?hg (N := 6) ?hd (cs := #[.int .i64 0, .slice none 0 0, .slice none 0 0]) (t := 47) ?hr ?_
       (case hd => rfl)
       (case hg => rfl)
       (case hr => first | (go_simp; done) | (go_simp; rfl))
       intro gb29 hg w30 hbox hb
       have I1 : Law.Inv [Law.rowsI k67 67 w18.heap.size w18.heap.size w19.heap.size (fun k_ => some k_ ≠ (.slice Ao22 r15.length co23 : Value).ownBlock) (.slice Ao25 r16.length co26) r16, Law.rowI (Kd.int .u8) 5 w18.heap.size w18.heap.size w19.heap.size (fun _ => True) (.slice Ao22 r15.length co23) r15, Law.boxI gb7 #[.int .i64 0, .slice none 0 0, .slice none 0 0] 47, Law.boxI gb4 #[.slice A1 l1.length c1] 38, Law.boxI gb1 #[.int .i64 a0_0, .slice A0_1 l0_1.length c0_1, .slice A0_2 l0_2.length c0_2] 47] w30 := Law.Inv.below (by (with_reducible repeat (first | apply Law.Inv.alloc | apply Law.Inv.drewN | apply Law.Inv.drew)); exact I) hb
       have HB1 := Aside0.mk (below_step (by repeat (first | (with_reducible first | exact HB.out | apply below_alloc | apply pw_below_drewN | apply below_drew1) | exact HB.out)) hb)
       have SZ31 := Aside0.mk (show W.heap.size ≤ gb29 ∧ w19.heap.size ≤ gb29 ∧ w19.heap.size ≤ gb29 ∧ gb7 + 1 ≤ gb29 ∧ gb4 + 1 ≤ gb29 ∧ gb1 + 1 ≤ gb29 ∧ gb29 + 1 ≤ w30.heap.size from ⟨by rw [hg]; exact (by repeat (first | (with_reducible first | exact HB.out | apply below_alloc | apply pw_below_drewN | apply below_drew1) | exact HB.out) : Below W.heap.size W _).size, by rw [hg]; exact (by (with_reducible repeat (first | apply Law.Inv.alloc | apply Law.Inv.drewN | apply Law.Inv.drew)); exact I : Law.Inv [Law.rowsI k67 67 w18.heap.size w18.heap.size w19.heap.size (fun k_ => some k_ ≠ (.slice Ao22 r15.length co23 : Value).ownBlock) (.slice Ao25 r16.length co26) r16, Law.rowI (Kd.int .u8) 5 w18.heap.size w18.heap.size w19.heap.size (fun _ => True) (.slice Ao22 r15.length co23) r15, Law.boxI gb7 #[.int .i64 0, .slice none 0 0, .slice none 0 0] 47, Law.boxI gb4 #[.slice A1 l1.length c1] 38, Law.boxI gb1 #[.int .i64 a0_0, .slice A0_1 l0_1.length c0_1, .slice A0_2 l0_2.length c0_2] 47] _).1.2, by rw [hg]; exact (by (with_reducible repeat (first | apply Law.Inv.alloc | apply Law.Inv.drewN | apply Law.Inv.drew)); exact I : Law.Inv [Law.rowsI k67 67 w18.heap.size w18.heap.size w19.heap.size (fun k_ => some k_ ≠ (.slice Ao22 r15.length co23 : Value).ownBlock) (.slice Ao25 r16.length co26) r16, Law.rowI (Kd.int .u8) 5 w18.heap.size w18.heap.size w19.heap.size (fun _ => True) (.slice Ao22 r15.length co23) r15, Law.boxI gb7 #[.int .i64 0, .slice none 0 0, .slice none 0 0] 47, Law.boxI gb4 #[.slice A1 l1.length c1] 38, Law.boxI gb1 #[.int .i64 a0_0, .slice A0_1 l0_1.length c0_1, .slice A0_2 l0_2.length c0_2] 47] _).2.1.2, by rw [hg]; exact (by (with_reducible repeat (first | apply Law.Inv.alloc | apply Law.Inv.drewN | apply Law.Inv.drew)); exact I : Law.Inv [Law.rowsI k67 67 w18.heap.size w18.heap.size w19.heap.size (fun k_ => some k_ ≠ (.slice Ao22 r15.length co23 : Value).ownBlock) (.slice Ao25 r16.length co26) r16, Law.rowI (Kd.int .u8) 5 w18.heap.size w18.heap.size w19.heap.size (fun _ => True) (.slice Ao22 r15.length co23) r15, Law.boxI gb7 #[.int .i64 0, .slice none 0 0, .slice none 0 0] 47, Law.boxI gb4 #[.slice A1 l1.length c1] 38, Law.boxI gb1 #[.int .i64 a0_0, .slice A0_1 l0_1.length c0_1, .slice A0_2 l0_2.length c0_2] 47] _).2.2.1.2, by rw [hg]; exact (by (with_reducible repeat (first | apply Law.Inv.alloc | apply Law.Inv.drewN | apply Law.Inv.drew)); exact I : Law.Inv [Law.rowsI k67 67 w18.heap.size w18.heap.size w19.heap.size (fun k_ => some k_ ≠ (.slice Ao22 r15.length co23 : Value).ownBlock) (.slice Ao25 r16.length co26) r16, Law.rowI (Kd.int .u8) 5 w18.heap.size w18.heap.size w19.heap.size (fun _ => True) (.slice Ao22 r15.length co23) r15, Law.boxI gb7 #[.int .i64 0, .slice none 0 0, .slice none 0 0] 47, Law.boxI gb4 #[.slice A1 l1.length c1] 38, Law.boxI gb1 #[.int .i64 a0_0, .slice A0_1 l0_1.length c0_1, .slice A0_2 l0_2.length c0_2] 47] _).2.2.2.1.2, by rw [hg]; exact (by (with_reducible repeat (first | apply Law.Inv.alloc | apply Law.Inv.drewN | apply Law.Inv.drew)); exact I : Law.Inv [Law.rowsI k67 67 w18.heap.size w18.heap.size w19.heap.size (fun k_ => some k_ ≠ (.slice Ao22 r15.length co23 : Value).ownBlock) (.slice Ao25 r16.length co26) r16, Law.rowI (Kd.int .u8) 5 w18.heap.size w18.heap.size w19.heap.size (fun _ => True) (.slice Ao22 r15.length co23) r15, Law.boxI gb7 #[.int .i64 0, .slice none 0 0, .slice none 0 0] 47, Law.boxI gb4 #[.slice A1 l1.length c1] 38, Law.boxI gb1 #[.int .i64 a0_0, .slice A0_1 l0_1.length c0_1, .slice A0_2 l0_2.length c0_2] 47] _).2.2.2.2.1.2, blk_lt hbox⟩)
       have I2 : Law.Inv (Law.boxI gb29 #[.int .i64 0, .slice none 0 0, .slice none 0 0] 47 :: [Law.rowsI k67 67 w18.heap.size w18.heap.size w19.heap.size (fun k_ => some k_ ≠ (.slice Ao22 r15.length co23 : Value).ownBlock) (.slice Ao25 r16.length co26) r16, Law.rowI (Kd.int .u8) 5 w18.heap.size w18.heap.size w19.heap.size (fun _ => True) (.slice Ao22 r15.length co23) r15, Law.boxI gb7 #[.int .i64 0, .slice none 0 0, .slice none 0 0] 47, Law.boxI gb4 #[.slice A1 l1.length c1] 38, Law.boxI gb1 #[.int .i64 a0_0, .slice A0_1 l0_1.length c0_1, .slice A0_2 l0_2.length c0_2] 47]) w30 := ⟨⟨hbox, blk_lt hbox⟩, I1⟩
       clear I HB hbox hb hg I1
       have I := I2
       have HB := HB1
       clear I2 HB1
       have hne_gb29_gb1 : gb29 ≠ gb1 := (by have := SZ3.out; have := SZ6.out; have := SZ9.out; have := SZ13.out; have := SZ28.out; have := SZ31.out; first | omega | (simp only [Law.rowI, Law.rowsI, Law.boxI]; omega))
       have hne_gb1_gb29 : gb1 ≠ gb29 := (by have := SZ3.out; have := SZ6.out; have := SZ9.out; have := SZ13.out; have := SZ28.out; have := SZ31.out; first | omega | (simp only [Law.rowI, Law.rowsI, Law.boxI]; omega))
       have hne_gb29_gb4 : gb29 ≠ gb4 := (by have := SZ3.out; have := SZ6.out; have := SZ9.out; have := SZ13.out; have := SZ28.out; have := SZ31.out; first | omega | (simp only [Law.rowI, Law.rowsI, Law.boxI]; omega))
       have hne_gb4_gb29 : gb4 ≠ gb29 := (by have := SZ3.out; have := SZ6.out; have := SZ9.out; have := SZ13.out; have := SZ28.out; have := SZ31.out; first | omega | (simp only [Law.rowI, Law.rowsI, Law.boxI]; omega))
       have hne_gb29_gb7 : gb29 ≠ gb7 := (by have := SZ3.out; have := SZ6.out; have := SZ9.out; have := SZ13.out; have := SZ28.out; have := SZ31.out; first | omega | (simp only [Law.rowI, Law.rowsI, Law.boxI]; omega))
       have hne_gb7_gb29 : gb7 ≠ gb29 := (by have := SZ3.out; have := SZ6.out; have := SZ9.out; have := SZ13.out; have := SZ28.out; have := SZ31.out; first | omega | (simp only [Law.rowI, Law.rowsI, Law.boxI]; omega))
       have hcz_gb1_w30_0 : w30.cell? ⟨gb1, 0, none⟩ = some (.int .i64 a0_0) := (blk_cell (Law.blk_of (I.2.2.2.2.2.1.1)) 0).trans rfl
       have hfz_gb1_w30_0 := blk_frozen (Law.blk_of (I.2.2.2.2.2.1.1)) 0
       have hcz_gb1_w30_1 : w30.cell? ⟨gb1, 1, none⟩ = some (.slice A0_1 l0_1.length c0_1) := (blk_cell (Law.blk_of (I.2.2.2.2.2.1.1)) 1).trans rfl
       have hfz_gb1_w30_1 := blk_frozen (Law.blk_of (I.2.2.2.2.2.1.1)) 1
       have hcz_gb1_w30_2 : w30.cell? ⟨gb1, 2, none⟩ = some (.slice A0_2 l0_2.length c0_2) := (blk_cell (Law.blk_of (I.2.2.2.2.2.1.1)) 2).trans rfl
       have hfz_gb1_w30_2 := blk_frozen (Law.blk_of (I.2.2.2.2.2.1.1)) 2
       have hcz_gb4_w30_0 : w30.cell? ⟨gb4, 0, none⟩ = some (.slice A1 l1.length c1) := (blk_cell (Law.blk_of (I.2.2.2.2.1.1)) 0).trans rfl
       have hfz_gb4_w30_0 := blk_frozen (Law.blk_of (I.2.2.2.2.1.1)) 0
       have hcz_gb7_w30_0 : w30.cell? ⟨gb7, 0, none⟩ = some (.int .i64 0) := (blk_cell (Law.blk_of (I.2.2.2.1.1)) 0).trans rfl
       have hfz_gb7_w30_0 := blk_frozen (Law.blk_of (I.2.2.2.1.1)) 0
       have hcz_gb7_w30_1 : w30.cell? ⟨gb7, 1, none⟩ = some (.slice none 0 0) := (blk_cell (Law.blk_of (I.2.2.2.1.1)) 1).trans rfl
       have hfz_gb7_w30_1 := blk_frozen (Law.blk_of (I.2.2.2.1.1)) 1
       have hcz_gb7_w30_2 : w30.cell? ⟨gb7, 2, none⟩ = some (.slice none 0 0) := (blk_cell (Law.blk_of (I.2.2.2.1.1)) 2).trans rfl
       have hfz_gb7_w30_2 := blk_frozen (Law.blk_of (I.2.2.2.1.1)) 2
       have hcz_gb29_w30_0 : w30.cell? ⟨gb29, 0, none⟩ = some (.int .i64 0) := (blk_cell (Law.blk_of (I.1.1)) 0).trans rfl
       have hfz_gb29_w30_0 := blk_frozen (Law.blk_of (I.1.1)) 0
       have hcz_gb29_w30_1 : w30.cell? ⟨gb29, 1, none⟩ = some (.slice none 0 0) := (blk_cell (Law.blk_of (I.1.1)) 1).trans rfl
       have hfz_gb29_w30_1 := blk_frozen (Law.blk_of (I.1.1)) 1
       have hcz_gb29_w30_2 : w30.cell? ⟨gb29, 2, none⟩ = some (.slice none 0 0) := (blk_cell (Law.blk_of (I.1.1)) 2).trans rfl
       have hfz_gb29_w30_2 := blk_frozen (Law.blk_of (I.1.1)) 2)
    | ((with_reducible refine gate_callee (f := 82) rfl ?_)
       refine goesL_ (some 14) rfl rfl Try.func82 (by kernel_rfl) rfl #[.pointer (some ⟨gb29, 0, none⟩), .func (.func 83) #[] #[.pointer (some ⟨gb4, 0, none⟩)]] rfl (by (try simp only [List.map_toArray, List.map_cons, List.map_nil]); first | done | rfl) ?_
       refine Law.at_world (fun w32 hw1 => ?_)
       have I1 : Law.Inv [Law.boxI gb29 #[.int .i64 r14, .slice Ao22 r15.length co23, .slice Ao25 r16.length co26] 47, Law.rowsI k67 67 w18.heap.size w18.heap.size w19.heap.size (fun k_ => some k_ ≠ (.slice Ao22 r15.length co23 : Value).ownBlock) (.slice Ao25 r16.length co26) r16, Law.rowI (Kd.int .u8) 5 w18.heap.size w18.heap.size w19.heap.size (fun _ => True) (.slice Ao22 r15.length co23) r15, Law.boxI gb7 #[.int .i64 0, .slice none 0 0, .slice none 0 0] 47, Law.boxI gb4 #[.slice A1 l1.length c1] 38, Law.boxI gb1 #[.int .i64 a0_0, .slice A0_1 l0_1.length c0_1, .slice A0_2 l0_2.length c0_2] 47] w32 := by rw [hw1]; (with_reducible repeat (first | apply Law.Inv.alloc | apply Law.Inv.drewN | apply Law.Inv.drew)); refine Law.Inv.put (cs := #[.int .i64 r14, .slice Ao22 r15.length co23, .slice none 0 0]) ?_ (by have := SZ3.out; have := SZ6.out; have := SZ9.out; have := SZ13.out; have := SZ28.out; have := SZ31.out; refine ⟨?_, ?_, ?_, ?_, ?_, trivial⟩ <;> simp only [Law.rowI, Law.rowsI, Law.boxI] <;> omega) rfl; (with_reducible repeat (first | apply Law.Inv.alloc | apply Law.Inv.drewN | apply Law.Inv.drew)); refine Law.Inv.put (cs := #[.int .i64 r14, .slice none 0 0, .slice none 0 0]) ?_ (by have := SZ3.out; have := SZ6.out; have := SZ9.out; have := SZ13.out; have := SZ28.out; have := SZ31.out; refine ⟨?_, ?_, ?_, ?_, ?_, trivial⟩ <;> simp only [Law.rowI, Law.rowsI, Law.boxI] <;> omega) rfl; (with_reducible repeat (first | apply Law.Inv.alloc | apply Law.Inv.drewN | apply Law.Inv.drew)); refine Law.Inv.put (cs := #[.int .i64 0, .slice none 0 0, .slice none 0 0]) ?_ (by have := SZ3.out; have := SZ6.out; have := SZ9.out; have := SZ13.out; have := SZ28.out; have := SZ31.out; refine ⟨?_, ?_, ?_, ?_, ?_, trivial⟩ <;> simp only [Law.rowI, Law.rowsI, Law.boxI] <;> omega) rfl; (with_reducible repeat (first | apply Law.Inv.alloc | apply Law.Inv.drewN | apply Law.Inv.drew)); exact I
       have HB1 := Aside0.mk (show Below W.heap.size W w32 by rw [hw1]; repeat (first | (with_reducible first | exact HB.out | apply below_alloc | apply pw_below_drewN | apply below_drew1 | refine below_set ?_ (by have := SZ3.out; have := SZ6.out; have := SZ9.out; have := SZ13.out; have := SZ28.out; have := SZ31.out; first | omega | (simp only [Law.rowI, Law.rowsI, Law.boxI]; omega))) | exact HB.out))
       clear I HB hw1
       have I := I1
       have HB := HB1
       clear I1 HB1
       have HT := Kd.R_tight rfl (I.2.2.1.1)
       have hap : ∀ W_, Kept w32 W_ (fun k_ => some k_ = ((.slice Ao22 r15.length co23) : Value).ownBlock) → Kd.C k67 W_ Ao25 r16.length r16 := fun W_ hk_ => (Kd.S_reads' (Kd.S_kept (I.2.1.1) hk_ (fun k_ h_ e_ => h_.2 e_))).2.2
       have hne_ : ¬ some gb29 = ((.slice Ao22 r15.length co23) : Value).ownBlock := fun e_ => by have := (I.2.2.1.1).1 _ e_.symm; have := SZ3.out; have := SZ6.out; have := SZ9.out; have := SZ13.out; have := SZ28.out; have := SZ31.out; omega
       have hlow_ : ∀ k_, some k_ = ((.slice Ao22 r15.length co23) : Value).ownBlock → W.heap.size ≤ k_ := fun k_ e_ => by have := (I.2.2.1.1).1 _ e_.symm; have := SZ3.out; have := SZ6.out; have := SZ9.out; have := SZ13.out; have := SZ28.out; have := SZ31.out; omega
       have hbk0_ := Law.blk_of (I.2.2.2.2.1.1)
       have hnk0_ : ¬ some gb4 = ((.slice Ao22 r15.length co23) : Value).ownBlock := fun e_ => by have := (I.2.2.1.1).1 _ e_.symm; have := SZ3.out; have := SZ6.out; have := SZ9.out; have := SZ13.out; have := SZ28.out; have := SZ31.out; omega
       refine (impl_settle.own 83 #[.pointer (some ⟨gb4, 0, none⟩)] (keepB l1) gb29 r14 (.slice Ao22 r15.length co23) Ao25 co26 r15 r16 (fun k_ => some k_ = ((.slice Ao22 r15.length co23) : Value).ownBlock) W w32 HB.out (I.1.1) (by have := SZ3.out; have := SZ6.out; have := SZ9.out; have := SZ13.out; have := SZ28.out; have := SZ31.out; first | omega | (simp only [Law.rowI, Law.rowsI, Law.boxI]; omega)) (Kd.R_lower HT (by have := SZ3.out; have := SZ6.out; have := SZ9.out; have := SZ13.out; have := SZ28.out; have := SZ31.out; first | omega | (simp only [Law.rowI, Law.rowsI, Law.boxI]; omega))) hap hne_ EFIT.out (fun args_ W_ => enters_ Try.func83 (by kernel_rfl) rfl args_ W_) (fun i W_ hi_ hk_ => by simpa using impl_DevCrash.keep i (by have z_ := (hap W_ hk_).2.1; omega) gb4 A1 c1 l1 W_ (blk_kept hbk0_ hk_ hnk0_) (Kd.C_kept_came (Kd.heap_int .u8) hr1 HB.out hlow_ W_ hk_))).mono ?_
       rintro e w33 ⟨rfl, hq0, hq1, hq2, hq3⟩
       refine ⟨_, rfl, ?_⟩
       have SZ34 := Aside0.mk (show W.heap.size ≤ w32.heap.size ∧ gb29 + 1 ≤ w32.heap.size ∧ w19.heap.size ≤ w32.heap.size ∧ w19.heap.size ≤ w32.heap.size ∧ gb7 + 1 ≤ w32.heap.size ∧ gb4 + 1 ≤ w32.heap.size ∧ gb1 + 1 ≤ w32.heap.size ∧ w32.heap.size ≤ w33.heap.size from ⟨HB.out.size, I.1.2, I.2.1.2, I.2.2.1.2, I.2.2.2.1.2, I.2.2.2.2.1.2, I.2.2.2.2.2.1.2, hq3.1⟩)
       have I1 : Law.Inv [Law.boxI gb7 #[.int .i64 0, .slice none 0 0, .slice none 0 0] 47, Law.boxI gb4 #[.slice A1 l1.length c1] 38, Law.boxI gb1 #[.int .i64 a0_0, .slice A0_1 l0_1.length c0_1, .slice A0_2 l0_2.length c0_2] 47] w33 := Law.Inv.kept2 hq3 (lo := w18.heap.size) (hi := w19.heap.size) (g := gb29) (fun k_ h_ => h_.imp (fun e_ => ((I.2.2.1.1).1 _ e_.symm).1) id) (show Law.Inv [Law.boxI gb7 #[.int .i64 0, .slice none 0 0, .slice none 0 0] 47, Law.boxI gb4 #[.slice A1 l1.length c1] 38, Law.boxI gb1 #[.int .i64 a0_0, .slice A0_1 l0_1.length c0_1, .slice A0_2 l0_2.length c0_2] 47] w32 from ⟨I.2.2.2.1, I.2.2.2.2.1, I.2.2.2.2.2.1, trivial⟩) (by have := SZ3.out; have := SZ6.out; have := SZ9.out; have := SZ13.out; have := SZ28.out; have := SZ31.out; have := SZ34.out; refine ⟨?_, ?_, ?_, trivial⟩ <;> simp only [Law.rowI, Law.rowsI, Law.boxI] <;> omega) (by have := SZ3.out; have := SZ6.out; have := SZ9.out; have := SZ13.out; have := SZ28.out; have := SZ31.out; have := SZ34.out; refine ⟨?_, ?_, ?_, trivial⟩ <;> simp only [Law.rowI, Law.rowsI, Law.boxI] <;> omega)
       have I1 : Law.Inv (Law.rowI (Kd.int .u8) 5 W.heap.size w18.heap.size w19.heap.size (fun _ => True) (.slice Ao22 r15.length co23) (setB r15 r16 (keepB l1) r16.length) :: [Law.boxI gb7 #[.int .i64 0, .slice none 0 0, .slice none 0 0] 47, Law.boxI gb4 #[.slice A1 l1.length c1] 38, Law.boxI gb1 #[.int .i64 a0_0, .slice A0_1 l0_1.length c0_1, .slice A0_2 l0_2.length c0_2] 47]) w33 := ⟨⟨Kd.R_reok rfl hq1 (fun k_ e_ => ⟨((I.2.2.1.1).1 k_ e_).1, trivial⟩), (by have := SZ3.out; have := SZ6.out; have := SZ9.out; have := SZ13.out; have := SZ28.out; have := SZ31.out; have := SZ34.out; first | omega | (simp only [Law.rowI, Law.rowsI, Law.boxI]; omega))⟩, I1⟩
       have I1 : Law.Inv (Law.boxI gb29 #[.int .i64 r14, .slice Ao22 r15.length co23, .slice none 0 0] 47 :: [Law.rowI (Kd.int .u8) 5 W.heap.size w18.heap.size w19.heap.size (fun _ => True) (.slice Ao22 r15.length co23) (setB r15 r16 (keepB l1) r16.length), Law.boxI gb7 #[.int .i64 0, .slice none 0 0, .slice none 0 0] 47, Law.boxI gb4 #[.slice A1 l1.length c1] 38, Law.boxI gb1 #[.int .i64 a0_0, .slice A0_1 l0_1.length c0_1, .slice A0_2 l0_2.length c0_2] 47]) w33 := ⟨⟨hq0, (by have := SZ3.out; have := SZ6.out; have := SZ9.out; have := SZ13.out; have := SZ28.out; have := SZ31.out; have := SZ34.out; first | omega | (simp only [Law.rowI, Law.rowsI, Law.boxI]; omega))⟩, I1⟩
       have HB1 := Aside0.mk hq2
       clear I HB hap hne_ HT hlow_ hbk0_ hnk0_
       have I := I1
       have HB := HB1
       clear I1 HB1
       have hcz_gb1_w33_0 : w33.cell? ⟨gb1, 0, none⟩ = some (.int .i64 a0_0) := (blk_cell (Law.blk_of (I.2.2.2.2.1.1)) 0).trans rfl
       have hfz_gb1_w33_0 := blk_frozen (Law.blk_of (I.2.2.2.2.1.1)) 0
       have hcz_gb1_w33_1 : w33.cell? ⟨gb1, 1, none⟩ = some (.slice A0_1 l0_1.length c0_1) := (blk_cell (Law.blk_of (I.2.2.2.2.1.1)) 1).trans rfl
       have hfz_gb1_w33_1 := blk_frozen (Law.blk_of (I.2.2.2.2.1.1)) 1
       have hcz_gb1_w33_2 : w33.cell? ⟨gb1, 2, none⟩ = some (.slice A0_2 l0_2.length c0_2) := (blk_cell (Law.blk_of (I.2.2.2.2.1.1)) 2).trans rfl
       have hfz_gb1_w33_2 := blk_frozen (Law.blk_of (I.2.2.2.2.1.1)) 2
       have hcz_gb4_w33_0 : w33.cell? ⟨gb4, 0, none⟩ = some (.slice A1 l1.length c1) := (blk_cell (Law.blk_of (I.2.2.2.1.1)) 0).trans rfl
       have hfz_gb4_w33_0 := blk_frozen (Law.blk_of (I.2.2.2.1.1)) 0
       have hcz_gb7_w33_0 : w33.cell? ⟨gb7, 0, none⟩ = some (.int .i64 0) := (blk_cell (Law.blk_of (I.2.2.1.1)) 0).trans rfl
       have hfz_gb7_w33_0 := blk_frozen (Law.blk_of (I.2.2.1.1)) 0
       have hcz_gb7_w33_1 : w33.cell? ⟨gb7, 1, none⟩ = some (.slice none 0 0) := (blk_cell (Law.blk_of (I.2.2.1.1)) 1).trans rfl
       have hfz_gb7_w33_1 := blk_frozen (Law.blk_of (I.2.2.1.1)) 1
       have hcz_gb7_w33_2 : w33.cell? ⟨gb7, 2, none⟩ = some (.slice none 0 0) := (blk_cell (Law.blk_of (I.2.2.1.1)) 2).trans rfl
       have hfz_gb7_w33_2 := blk_frozen (Law.blk_of (I.2.2.1.1)) 2
       have hcz_gb29_w33_0 : w33.cell? ⟨gb29, 0, none⟩ = some (.int .i64 r14) := (blk_cell (Law.blk_of (I.1.1)) 0).trans rfl
       have hfz_gb29_w33_0 := blk_frozen (Law.blk_of (I.1.1)) 0
       have hcz_gb29_w33_1 : w33.cell? ⟨gb29, 1, none⟩ = some (.slice Ao22 r15.length co23) := (blk_cell (Law.blk_of (I.1.1)) 1).trans rfl
       have hfz_gb29_w33_1 := blk_frozen (Law.blk_of (I.1.1)) 1
       have hcz_gb29_w33_2 : w33.cell? ⟨gb29, 2, none⟩ = some (.slice none 0 0) := (blk_cell (Law.blk_of (I.1.1)) 2).trans rfl
       have hfz_gb29_w33_2 := blk_frozen (Law.blk_of (I.1.1)) 2
       have I1 : Law.Inv [Law.boxI gb7 #[.int .i64 0, .slice none 0 0, .slice none 0 0] 47, Law.boxI gb29 #[.int .i64 r14, .slice Ao22 r15.length co23, .slice none 0 0] 47, Law.rowI (Kd.int .u8) 5 W.heap.size w18.heap.size w19.heap.size (fun _ => True) (.slice Ao22 r15.length co23) (setB r15 r16 (keepB l1) r16.length), Law.boxI gb4 #[.slice A1 l1.length c1] 38, Law.boxI gb1 #[.int .i64 a0_0, .slice A0_1 l0_1.length c0_1, .slice A0_2 l0_2.length c0_2] 47] w33 := ⟨I.2.2.1, I.1, I.2.1, I.2.2.2.1, I.2.2.2.2.1, trivial⟩
       clear I
       have I := I1
       clear I1))
  try go_wp2
  refine Law.post_world (fun wE hwE => ?_)
  have I1 : Law.Inv [Law.boxI gb7 #[.int .i64 r14, .slice Ao22 r15.length co23, .slice none 0 0] 47, Law.boxI gb29 #[.int .i64 r14, .slice Ao22 r15.length co23, .slice none 0 0] 47, Law.rowI (Kd.int .u8) 5 W.heap.size w18.heap.size w19.heap.size (fun _ => True) (.slice Ao22 r15.length co23) (setB r15 r16 (keepB l1) r16.length), Law.boxI gb4 #[.slice A1 l1.length c1] 38, Law.boxI gb1 #[.int .i64 a0_0, .slice A0_1 l0_1.length c0_1, .slice A0_2 l0_2.length c0_2] 47] wE := by rw [hwE]; (with_reducible repeat (first | apply Law.Inv.alloc | apply Law.Inv.drewN | apply Law.Inv.drew)); refine Law.Inv.put (cs := #[.int .i64 r14, .slice Ao22 r15.length co23, .slice none 0 0]) ?_ (by have := SZ3.out; have := SZ6.out; have := SZ9.out; have := SZ13.out; have := SZ28.out; have := SZ31.out; have := SZ34.out; refine ⟨?_, ?_, ?_, ?_, trivial⟩ <;> simp only [Law.rowI, Law.rowsI, Law.boxI] <;> omega) rfl; (with_reducible repeat (first | apply Law.Inv.alloc | apply Law.Inv.drewN | apply Law.Inv.drew)); refine Law.Inv.put (cs := #[.int .i64 r14, .slice none 0 0, .slice none 0 0]) ?_ (by have := SZ3.out; have := SZ6.out; have := SZ9.out; have := SZ13.out; have := SZ28.out; have := SZ31.out; have := SZ34.out; refine ⟨?_, ?_, ?_, ?_, trivial⟩ <;> simp only [Law.rowI, Law.rowsI, Law.boxI] <;> omega) rfl; (with_reducible repeat (first | apply Law.Inv.alloc | apply Law.Inv.drewN | apply Law.Inv.drew)); refine Law.Inv.put (cs := #[.int .i64 0, .slice none 0 0, .slice none 0 0]) ?_ (by have := SZ3.out; have := SZ6.out; have := SZ9.out; have := SZ13.out; have := SZ28.out; have := SZ31.out; have := SZ34.out; refine ⟨?_, ?_, ?_, ?_, trivial⟩ <;> simp only [Law.rowI, Law.rowsI, Law.boxI] <;> omega) rfl; (with_reducible repeat (first | apply Law.Inv.alloc | apply Law.Inv.drewN | apply Law.Inv.drew)); exact I
  have HB1 : Below W.heap.size W wE := by rw [hwE]; repeat (first | (with_reducible first | exact HB.out | apply below_alloc | apply pw_below_drewN | apply below_drew1 | refine below_set ?_ (by have := SZ3.out; have := SZ6.out; have := SZ9.out; have := SZ13.out; have := SZ28.out; have := SZ31.out; have := SZ34.out; first | omega | (simp only [Law.rowI, Law.rowsI, Law.boxI]; omega))) | exact HB.out)
  clear hwE I HB
  have I := I1
  have HB := Aside0.mk HB1
  clear I1 HB1
  have hcz_gb1_wE_0 : wE.cell? ⟨gb1, 0, none⟩ = some (.int .i64 a0_0) := (blk_cell (Law.blk_of (I.2.2.2.2.1.1)) 0).trans rfl
  have hfz_gb1_wE_0 := blk_frozen (Law.blk_of (I.2.2.2.2.1.1)) 0
  have hcz_gb1_wE_1 : wE.cell? ⟨gb1, 1, none⟩ = some (.slice A0_1 l0_1.length c0_1) := (blk_cell (Law.blk_of (I.2.2.2.2.1.1)) 1).trans rfl
  have hfz_gb1_wE_1 := blk_frozen (Law.blk_of (I.2.2.2.2.1.1)) 1
  have hcz_gb1_wE_2 : wE.cell? ⟨gb1, 2, none⟩ = some (.slice A0_2 l0_2.length c0_2) := (blk_cell (Law.blk_of (I.2.2.2.2.1.1)) 2).trans rfl
  have hfz_gb1_wE_2 := blk_frozen (Law.blk_of (I.2.2.2.2.1.1)) 2
  have hcz_gb4_wE_0 : wE.cell? ⟨gb4, 0, none⟩ = some (.slice A1 l1.length c1) := (blk_cell (Law.blk_of (I.2.2.2.1.1)) 0).trans rfl
  have hfz_gb4_wE_0 := blk_frozen (Law.blk_of (I.2.2.2.1.1)) 0
  have hcz_gb7_wE_0 : wE.cell? ⟨gb7, 0, none⟩ = some (.int .i64 r14) := (blk_cell (Law.blk_of (I.1.1)) 0).trans rfl
  have hfz_gb7_wE_0 := blk_frozen (Law.blk_of (I.1.1)) 0
  have hcz_gb7_wE_1 : wE.cell? ⟨gb7, 1, none⟩ = some (.slice Ao22 r15.length co23) := (blk_cell (Law.blk_of (I.1.1)) 1).trans rfl
  have hfz_gb7_wE_1 := blk_frozen (Law.blk_of (I.1.1)) 1
  have hcz_gb7_wE_2 : wE.cell? ⟨gb7, 2, none⟩ = some (.slice none 0 0) := (blk_cell (Law.blk_of (I.1.1)) 2).trans rfl
  have hfz_gb7_wE_2 := blk_frozen (Law.blk_of (I.1.1)) 2
  have hcz_gb29_wE_0 : wE.cell? ⟨gb29, 0, none⟩ = some (.int .i64 r14) := (blk_cell (Law.blk_of (I.2.1.1)) 0).trans rfl
  have hfz_gb29_wE_0 := blk_frozen (Law.blk_of (I.2.1.1)) 0
  have hcz_gb29_wE_1 : wE.cell? ⟨gb29, 1, none⟩ = some (.slice Ao22 r15.length co23) := (blk_cell (Law.blk_of (I.2.1.1)) 1).trans rfl
  have hfz_gb29_wE_1 := blk_frozen (Law.blk_of (I.2.1.1)) 1
  have hcz_gb29_wE_2 : wE.cell? ⟨gb29, 2, none⟩ = some (.slice none 0 0) := (blk_cell (Law.blk_of (I.2.1.1)) 2).trans rfl
  have hfz_gb29_wE_2 := blk_frozen (Law.blk_of (I.2.1.1)) 2
  refine bodyPost_ret (v := .tuple #[.agg #[.int .i64 r14, .slice Ao22 r15.length co23, .slice none 0 0], .int .i64 0]) ?_ rfl ?_
  · simp [results, Try.f39, go_sem, *]
  · exact ⟨_, rfl, Kd.R_mono (I.2.2.1.1) (fun _ _ => trivial), HB.out⟩
def impl_DevCrash.f (k : Nat) (a0_0 : Int) (l0_1 : List Int) (l0_2 : List (S67)) (l1 : List Int) : Option (Int × List Int × (List (S67)) × Int) := (impl_validDevice.f k a0_0 l0_1 l0_2).bind fun t => if t = true then ((impl_copyDevice.f k a0_0 l0_1 l0_2).bind fun c => if fitB c.2.1 c.2.2 then some (c.1, setB c.2.1 c.2.2 (keepB l1) c.2.2.length, [], 0) else none) else some (0, [], [], 1)
theorem impl_DevCrash.calls (k : Nat) (a0_0 : Int) (A0_1 : Option Addr) (c0_1 : Nat) (l0_1 : List Int) (A0_2 : Option Addr) (c0_2 : Nat) (l0_2 : List (S67)) (A1 : Option Addr) (c1 : Nat) (l1 : List Int) (r1 : Int) (r2 : List Int) (r3 : List (S67)) (r4 : Int) (w : World) (hr0_1 : Kd.C (Kd.int .u8) w A0_1 l0_1.length l0_1) (hc0_1 : l0_1.length ≤ c0_1) (hr0_2 : Kd.C k67 w A0_2 l0_2.length l0_2) (hc0_2 : l0_2.length ≤ c0_2) (hr1 : Kd.C (Kd.int .u8) w A1 l1.length l1) (hc1 : l1.length ≤ c1) (h : impl_DevCrash.f k a0_0 l0_1 l0_2 l1 = some (r1, r2, r3, r4)) :
    Calls Try.prog 39 #[.agg #[.int .i64 a0_0, .slice A0_1 l0_1.length c0_1, .slice A0_2 l0_2.length c0_2], .slice A1 l1.length c1] w fun e w' => ∃ v1_ v2_ : Value, e = .returned (.tuple #[.agg #[.int .i64 r1, v1_, v2_], .int .i64 r4]) ∧ Kd.R (Kd.int .u8) 5 w' w.heap.size (fun _ => True) v1_ r2 ∧ Kd.S k67 67 w' w.heap.size (fun k_ => some k_ ≠ (v1_ : Value).ownBlock) v2_ r3 ∧ Below w.heap.size w w' := by
  obtain ⟨t, h1, h⟩ := Option.bind_eq_some_iff.mp h
  cases t with
  | false =>
    rw [if_neg (by simp)] at h
    injection h with h
    obtain ⟨rfl, rfl, rfl, rfl⟩ : 0 = r1 ∧ [] = r2 ∧ [] = r3 ∧ 1 = r4 := by simpa using h
    exact (impl_DevCrash.walk0 a0_0 A0_1 c0_1 l0_1 A0_2 c0_2 l0_2 A1 c1 l1 w hr0_1 hc0_1 hr0_2 hc0_2 hr1 hc1 k h1).mono fun e w' hp => ⟨_, _, hp.1, Kd.R_nil _ _ _ _ _, Kd.S_nil _ _ _ _ _, hp.2⟩
  | true =>
    rw [if_pos rfl] at h
    obtain ⟨⟨d1, d2, d3⟩, h2, h⟩ := Option.bind_eq_some_iff.mp h
    by_cases hf : fitB d2 d3
    · rw [if_pos hf] at h
      injection h with h
      obtain ⟨rfl, rfl, rfl, rfl⟩ : d1 = r1 ∧ setB d2 d3 (keepB l1) d3.length = r2 ∧ [] = r3 ∧ 0 = r4 := by simpa using h
      refine (impl_DevCrash.walk1 a0_0 A0_1 c0_1 l0_1 A0_2 c0_2 l0_2 A1 c1 l1 w hr0_1 hc0_1 hr0_2 hc0_2 hr1 hc1 k d1 d2 d3 h1 h2 hf).mono fun e w' hp => ?_
      obtain ⟨v, he, hr, hb⟩ := hp
      exact ⟨v, _, he, hr, Kd.S_nil _ _ _ _ _, hb⟩
    · rw [if_neg hf] at h
      cases h

end Go.Proofs.Ytbimmmmjdimebaa.PFnExactDevCrash
