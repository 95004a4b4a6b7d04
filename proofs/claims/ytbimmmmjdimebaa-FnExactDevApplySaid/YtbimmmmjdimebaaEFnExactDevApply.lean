/- Contracts by hand, beside the printed ones. -/
import Derived.Test.YtbimmmmjdimebaaPFnExactDevApplyx0
import Derived.Test.YtbimmmmjdimebaaPFnExactDevApplyx1
import Derived.Test.YtbimmmmjdimebaaPFnExactDevApplyx2
import Derived.Test.YtbimmmmjdimebaaPFnExactDevApplyx3
import Derived.Test.YtbimmmmjdimebaaPFnExactDevApplyx4
import Derived.Test.YtbimmmmjdimebaaPFnExactDevApplyx5
import Derived.Test.YtbimmmmjdimebaaPFnExactDevApplyx6
import Derived.Test.YtbimmmmjdimebaaPFnExactDevApplyx7
import Derived.Test.YtbimmmmjdimebaaLaw
namespace Go.Proofs.Ytbimmmmjdimebaa.PFnExactDevApply
open Go.RowKit Go.Proofs.YtbimmmmjdimebaaW.PrintWords Go.Proofs.YtbimmmmjdimebaaW.PrintLast Go.Proofs.YtbimmmmjdimebaaW.PrintMore
attribute [local go_sem] max2_int min2_int max_two min_two max_three min_three max_four min_four   -- for this text's walks alone
set_option linter.unusedVariables false
set_option linter.unusedSimpArgs false

/-! ### laws.markPendingS, rows of rows that are the call's own -/
def laws_markPendingS.l0 : Nat → List S67 → Int → Int → Option (Int × List S67)
  | 0, _, _, _ => none
  | k + 1, x0, x1, x5 => if x5 < (x0.length : Int) then (if 0 ≤ x5 then ((laws_markByteS.f k (rd_T67 x0 x5).f1 (wrap64 (x1 + 1))).bind fun b => laws_markPendingS.l0 k (x0.set x5.toNat ⟨x1, b.2⟩) b.1 (wrap64 (x5 + 1))) else none) else some (x1, x0)
def laws_markPendingS.f (k : Nat) (l0 : List S67) (a1 : Int) : Option (Int × List S67) := laws_markPendingS.l0 k l0 a1 0
set_option maxHeartbeats 8000000 in
set_option maxRecDepth 100000 in
theorem laws_markPendingS.calls (k : Nat) (P0_ : Nat → Prop) (u : Value) (l0 : List S67) (a1 r1 : Int) (r2 : List S67) (w0 w : World) (hB : Below w0.heap.size w0 w) (ho0 : Kd.S k67 67 w w0.heap.size P0_ u l0) (h : laws_markPendingS.f k l0 a1 = some (r1, r2)) :
    Calls Try.prog 76 #[u, .int .i64 a1] w fun e w' => e = .returned (.int .i64 r1) ∧ Kd.S k67 67 w' w0.heap.size P0_ u r2 ∧ Below w0.heap.size w0 w' ∧ Kept w w' P0_ := by
  have HO0 := Aside0.mk ho0
  have HK := Aside0.mk (Kept.refl w P0_)
  have HB := Aside0.mk hB
  clear hB ho0
  have H' := Aside0.mk (show laws_markPendingS.l0 k l0 a1 0 = some (r1, r2) from h)
  clear h
  have hu67 := Try.underlying67
  go_enter Try.func76, Try.ntmps76
  go_wp2
  go_loopg [1, 5] k (fun kq v1 v5 w' => ∃ (x0_1 : List S67) (x1_1 : Int) (x5_1 : Int), v1 = .int .i64 x1_1 ∧ v5 = .int .i64 x5_1 ∧ Aside0 (laws_markPendingS.l0 kq x0_1 x1_1 x5_1 = some (r1, r2)) ∧ Aside0 (kq ≤ k) ∧ Aside0 (Kd.S k67 67 w' w0.heap.size P0_ u x0_1) ∧ Aside0 (Kept w w' P0_) ∧ Aside0 (Below w0.heap.size w0 w'))
  case atStart => exact ⟨l0, a1, 0, rfl, rfl, H', ⟨Nat.le_refl _⟩, ⟨by (with_reducible repeat (first | apply Kd.S_alloc | apply Kd.S_drewN | apply Kd.S_drew)); exact HO0.out⟩, ⟨by repeat (first | (with_reducible first | exact HK.out | apply Kept.alloc | apply Kept.drewN | apply Kept.drew) | exact HK.out)⟩, ⟨by repeat (first | (with_reducible first | exact HB.out | apply below_alloc | apply pw_below_drewN | apply below_drew1) | exact HB.out)⟩⟩
  case round =>
    clear H' HO0
    try clear p2
    obtain ⟨x0_1, x1_1, x5_1, rfl, rfl, HA, HK1, HO_0, HK, HB⟩ := hrel
    cases gk with
    | zero => exact absurd HA.out (by simp [laws_markPendingS.l0])
    | succ k1 =>
      have H := HA.out
      clear HA
      simp only [laws_markPendingS.l0] at H
      by_cases c3 : x5_1 < (x0_1.length : Int)
      · rw [if_pos c3] at H
        have c3b0 : decide (x5_1 < (x0_1.length : Int)) = true := decide_eq_true c3
        by_cases c4 : 0 ≤ x5_1
        · rw [if_pos c4] at H
          have c4b0 : decide (0 ≤ x5_1) = true := decide_eq_true c4
          obtain ⟨⟨b1, b2⟩, hbt, H⟩ := Option.bind_eq_some_iff.mp H
          obtain ⟨y0, hy0⟩ : ∃ y0, x0_1.getD x5_1.toNat z67 = y0 := ⟨_, rfl⟩
          have A1 := Aside0.mk (show laws_markByteS.f k1 y0.f1 (wrap64 (x1_1 + 1)) = some (b1, b2) from by rw [← hy0]; exact hbt)
          have H' := Aside0.mk (show laws_markPendingS.l0 k1 (x0_1.set x5_1.toNat ⟨x1_1, b2⟩) b1 (wrap64 (x5_1 + 1)) = some (r1, r2) from H)
          clear H hbt
          obtain ⟨go5, co5, eo5, gb5, gl5, cl5, HG5⟩ := Kd.S_form HO_0.out (by omega)
          subst eo5
          have GB5 := Aside0.mk gb5
          clear gb5 gl5 HG5
          have C3 := Aside0.mk c3
          have C4 := Aside0.mk c4
          have hil : x5_1.toNat < x0_1.length := by omega
          obtain ⟨oki, c, hcl, hM, hcc, hfr, hoki, hH⟩ := Kd.S_elem HO_0.out z67 x5_1 c4 c3
          rw [hy0] at hM
          obtain ⟨v1, rfl, hR⟩ := k67_openM hM
          have hP0g := Aside0.mk (HO_0.out.choose_spec.1 go5 rfl : P0_ go5)
          have E1 := Aside0.mk hR
          have E2 := Aside0.mk hH
          have hx5_0 : wr.cell? ⟨go5, x5_1.toNat * 2, none⟩ = some (.int .i64 y0.f0) := hcc 0 _ rfl
          have hf5_0 : wr.frozen? ⟨go5, x5_1.toNat * 2, none⟩ = false := hfr 0
          have hgd : (x0_1.set x5_1.toNat ⟨x1_1, y0.f1⟩).getD x5_1.toNat z67 = ⟨x1_1, y0.f1⟩ := by simp [hil]
          have HGD := Aside0.mk hgd
          have HL := Aside0.mk (show ((x0_1.set x5_1.toNat ⟨x1_1, y0.f1⟩).length : Int) = (x0_1.length : Int) by simp)
          have Ssz := Aside0.mk (show x5_1.toNat * 2 = x5_1.toNat * k67.sz + 0 from rfl)
          clear hcl hM hcc hfr hH hR hgd hoki hil hy0
          have p5 : 0 ≤ (x5_1 : Int) := c4
          have q5 : (x5_1 : Int) < ((x0_1.length : Int) : Int) := c3
          clear c3 c4
          replace p5 := eq_true p5
          replace q5 := eq_true q5
          go_wp2_with (first
            | ((with_reducible refine gate_store (t := 2) (p := 16) rfl ?_)
               refine Kd.H_store (w0 := w0) k67 w0.heap.size rfl rfl 2 _ _ rfl 67 (g := go5) (o' := x5_1.toNat * 2) x5_1 0 x0_1 ⟨x1_1, y0.f1⟩ (.int .i64 x1_1) [.int .i64 x1_1] _ P0_ oki oki rfl Ssz.out rfl rfl (by kernel_rfl) (by simp [Value.oneCell']) E2.out C4.out C3.out (show 1 ≤ 2 by decide) (k67_mkM _ _ _ ⟨x1_1, y0.f1⟩ E1.out) (fun _ h => h) HB.out ?_
               intro w8 hS8 hB8 hG8
               have HK8 := Aside0.mk (Kept.of_grown (S := P0_) hG8 HK.out (fun k_ e_ => .inl (by injection e_ with e_; rw [← e_]; exact hP0g.out)))
               obtain ⟨oki2, c2, hcl2, hM2, hcc2, hfr2, hoki2, hH2⟩ := Kd.S_elem hS8 z67 x5_1 C4.out C3.out
               obtain ⟨v2, rfl, hR2⟩ := k67_openM hM2
               rw [HGD.out] at hR2 hH2 hcc2
               obtain ⟨Ao2, co2, eo2⟩ := Kd.R_slice hR2
               subst eo2
               have E5 := Aside0.mk hR2
               have E6 := Aside0.mk hH2
               have E7 := Aside0.mk (show ∀ k, oki2 k → P0_ k from fun k hk => (hoki2 k hk).1)
               have HB8 := Aside0.mk hB8
               have hx8_1 : w8.cell? ⟨go5, x5_1.toNat * 2 + 1, none⟩ = some (.slice Ao2 y0.f1.length co2) := hcc2 1 _ rfl
               have hf8_1 : w8.frozen? ⟨go5, x5_1.toNat * 2 + 1, none⟩ = false := hfr2 1
               clear hcl2 hM2 hcc2 hfr2 hH2 hR2 hoki2 hS8 hG8 hB8)
            | ((with_reducible refine gate_callee (f := 33) rfl ?_)
               refine goesL_ (some 25) rfl rfl Try.func33 (by kernel_rfl) rfl #[.slice Ao2 y0.f1.length co2, .int .i64 (wrap64 (x1_1 + 1))] rfl (by (try simp only [List.map_toArray, List.map_cons, List.map_nil]); first | done | rfl) ?_
               (with_reducible refine (laws_markByteS.calls k1 oki2 _ _ _ b1 b2 w0 _ ?side1 ?side2 A1.out).mono ?_)
               (case side1 => repeat (first | (with_reducible first | exact HB8.out | apply below_alloc | apply pw_below_drewN | apply below_drew1) | exact HB8.out))
               (case side2 => (with_reducible repeat (first | apply Kd.R_alloc | apply Kd.R_drewN | apply Kd.R_drew)); exact E5.out)
               rintro e w9 ⟨rfl, hy9, hb9, hk9⟩
               refine ⟨_, rfl, ?_⟩
               have HK9 := Aside0.mk (Kept.then_ (S := P0_) (by repeat (first | (with_reducible first | exact HK8.out | apply Kept.alloc | apply Kept.drewN | apply Kept.drew) | exact HK8.out)) hk9 (fun k hk => .inl (E7.out k hk)))
               have HB9 := Aside0.mk hb9
               have HS9 := Aside0.mk (Kd.H_back (Kd.H_kept (by (with_reducible repeat (first | apply Kd.H_alloc | apply Kd.H_drewN | apply Kd.H_drew)); exact E6.out) hk9 (fun _ _ hn => hn)) (k67_mkM _ _ oki2 ⟨x1_1, b2⟩ (Kd.R_reok rfl hy9 (fun k_ e_ => E5.out.1 k_ e_))) (fun _ h => h))
               clear hy9 hb9 hk9))
          go_roundg k1
          case measure => have := HK1.out; omega
          case rel =>
            refine ⟨x0_1.set x5_1.toNat ⟨x1_1, b2⟩, b1, wrap64 (x5_1 + 1), rfl, rfl, H', ⟨by have := HK1.out; omega⟩, ⟨?_⟩, ⟨by repeat (first | (with_reducible first | exact HK9.out | apply Kept.alloc | apply Kept.drewN | apply Kept.drew) | exact HK9.out)⟩, ⟨by repeat (first | (with_reducible first | exact HB9.out | apply below_alloc | apply pw_below_drewN | apply below_drew1) | exact HB9.out)⟩⟩
            have h9 := HS9.out
            rw [List.set_set] at h9
            (with_reducible repeat (first | apply Kd.S_alloc | apply Kd.S_drewN | apply Kd.S_drew))
            exact h9
        · rw [if_neg c4] at H
          exact absurd H (by simp)
      · rw [if_neg c3] at H
        have c3b0 : decide (x5_1 < (x0_1.length : Int)) = false := decide_eq_false c3
        clear c3
        simp only [Option.some.injEq, Prod.mk.injEq] at H
        obtain ⟨rfl, rfl⟩ := H
        obtain ⟨Ao9, co9, eo9⟩ := Kd.S_slice HO_0.out
        subst eo9
        go_wp2
        go_ret
        exact ⟨rfl, by (with_reducible repeat (first | apply Kd.S_alloc | apply Kd.S_drewN | apply Kd.S_drew)); exact HO_0.out, by repeat (first | (with_reducible first | exact HB.out | apply below_alloc | apply pw_below_drewN | apply below_drew1) | exact HB.out), by repeat (first | (with_reducible first | exact HK.out | apply Kept.alloc | apply Kept.drewN | apply Kept.drew) | exact HK.out)⟩

/-! ### laws.markDevice, of the call's own -/
def laws_markDevice.f (k : Nat) (a0 : Int) (l1 : List Int) (l2 : List S67) (a1 : Int) : Option (Int × List Int × List S67) := (laws_markByteS.f k l1 a1).bind fun b => (laws_markPendingS.f k l2 b.1).bind fun c => some (c.1, b.2, c.2)
set_option maxHeartbeats 8000000 in
set_option maxRecDepth 100000 in
theorem laws_markDevice.calls (k : Nat) (P0_ : Nat → Prop) (a0 : Int) (u1 : Value) (l1 : List Int) (u2 : Value) (l2 : List S67) (a1 : Int) (r1 : Int) (r2 : List Int) (r3 : List S67) (w0 w : World) (hB : Below w0.heap.size w0 w) (h1 : Kd.R (Kd.int .u8) 5 w w0.heap.size P0_ u1 l1) (h2 : Kd.S k67 67 w w0.heap.size (fun k_ => P0_ k_ ∧ some k_ ≠ (u1 : Value).ownBlock) u2 l2) (h : laws_markDevice.f k a0 l1 l2 a1 = some (r1, r2, r3)) :
    Calls Try.prog 32 #[.agg #[.int .i64 a0, u1, u2], .int .i64 a1] w fun e w' => e = .returned (.int .i64 r1) ∧ Kd.R (Kd.int .u8) 5 w' w0.heap.size (fun k_ => P0_ k_) u1 r2 ∧ Kd.S k67 67 w' w0.heap.size (fun k_ => P0_ k_ ∧ some k_ ≠ (u1 : Value).ownBlock) u2 r3 ∧ Below w0.heap.size w0 w' ∧ Kept w w' (fun k_ => P0_ k_) := by
  obtain ⟨⟨b1, b2⟩, hb1, h⟩ := Option.bind_eq_some_iff.mp h
  obtain ⟨⟨c1, c2⟩, hc1, h⟩ := Option.bind_eq_some_iff.mp h
  simp only [Option.some.injEq, Prod.mk.injEq] at h
  obtain ⟨rfl, rfl, rfl⟩ := h
  obtain ⟨A1, z1, e1⟩ := Kd.R_slice h1
  subst e1
  obtain ⟨A2, z2, e2⟩ := Kd.S_slice h2
  subst e2
  have E1 := Aside0.mk (show laws_markByteS.f k l1 a1 = some (b1, b2) from hb1)
  have E2 := Aside0.mk (show laws_markPendingS.f k l2 b1 = some (c1, c2) from hc1)
  have HO := Aside0.mk h1
  have HS := Aside0.mk h2
  have HK := Aside0.mk (Kept.refl w P0_)
  have HB := Aside0.mk hB
  clear h1 h2 hB hb1 hc1
  have hu47 := Try.underlying47
  go_enter Try.func32, Try.ntmps32
  go_wp2_with (first
    | ((with_reducible refine gate_dst (N := 2) rfl ?_)
       refine box_event ?hg (N := 2) ?hd (cs := #[.int .i64 a0, .slice A1 l1.length z1, .slice A2 l2.length z2]) (t := 47) ?hr ?_
       (case hd => rfl)
       (case hg => rfl)
       (case hr => first | (go_simp; done) | (go_simp; rfl))
       intro gb hg w2 hbox hb
       have n0 := Aside0.mk (Kd.R_below (by (with_reducible repeat (first | apply Kd.R_alloc | apply Kd.R_drewN | apply Kd.R_drew)); exact HO.out) hb)
       have n1 := Aside0.mk (Kd.S_below (by (with_reducible repeat (first | apply Kd.S_alloc | apply Kd.S_drewN | apply Kd.S_drew)); exact HS.out) hb)
       have n2 := Aside0.mk (Kept.below (S := P0_) (by repeat (first | (with_reducible first | exact HK.out | apply Kept.alloc | apply Kept.drewN | apply Kept.drew) | exact HK.out)) hb)
       have n3 := Aside0.mk (below_step (by repeat (first | (with_reducible first | exact HB.out | apply below_alloc | apply pw_below_drewN | apply below_drew1) | exact HB.out)) hb)
       have BK := Aside0.mk hbox
       clear HO HS HK HB hb hbox hg
       have HO := n0
       have HS := n1
       have HK := n2
       have HB := n3
       clear n0 n1 n2 n3
       have hc0 : w2.cell? ⟨gb, 0, none⟩ = some (.int .i64 a0) := (blk_cell BK.out 0).trans rfl
       have hc1 : w2.cell? ⟨gb, 1, none⟩ = some (.slice A1 l1.length z1) := (blk_cell BK.out 1).trans rfl
       have hc2 : w2.cell? ⟨gb, 2, none⟩ = some (.slice A2 l2.length z2) := (blk_cell BK.out 2).trans rfl
       have hf0 := blk_frozen BK.out 0
       have hf1 := blk_frozen BK.out 1
       have hf2 := blk_frozen BK.out 2)
    | ((with_reducible refine gate_callee (f := 33) rfl ?_)
       refine goesL_ (some 8) rfl rfl Try.func33 (by kernel_rfl) rfl #[.slice A1 l1.length z1, .int .i64 a1] rfl (by (try simp only [List.map_toArray, List.map_cons, List.map_nil]); first | done | rfl) ?_
       refine (laws_markByteS.calls k (fun k_ => some k_ = (.slice A1 l1.length z1 : Value).ownBlock) _ l1 a1 b1 b2 w0 _ ?s1 ?s2 E1.out).mono ?_
       (case s1 => repeat (first | (with_reducible first | exact HB.out | apply below_alloc | apply pw_below_drewN | apply below_drew1) | exact HB.out))
       (case s2 => (with_reducible repeat (first | apply Kd.R_alloc | apply Kd.R_drewN | apply Kd.R_drew)); exact Kd.R_tight rfl HO.out)
       rintro e w4 ⟨rfl, hy, hb, hk⟩
       refine ⟨_, rfl, ?_⟩
       have n0 := Aside0.mk (Kd.R_reok rfl hy (fun k_ e_ => HO.out.1 k_ e_))
       have n1 := Aside0.mk (Kd.S_kept (by (with_reducible repeat (first | apply Kd.S_alloc | apply Kd.S_drewN | apply Kd.S_drew)); exact HS.out) hk (fun k_ (h_ : P0_ k_ ∧ some k_ ≠ (.slice A1 l1.length z1 : Value).ownBlock) e_ => h_.2 e_))
       have n2 := Aside0.mk (Kept.then_ (S := P0_) (by repeat (first | (with_reducible first | exact HK.out | apply Kept.alloc | apply Kept.drewN | apply Kept.drew) | exact HK.out)) hk (fun k_ h_ => .inl (HO.out.1 k_ h_.symm)))
       have n3 := Aside0.mk hb
       have n4 := Aside0.mk (blk_kept (g := gb) (o := .cells #[.int .i64 a0, .slice A1 l1.length z1, .slice A2 l2.length z2] 47 (0, 0)) (by (with_reducible repeat (first | refine blk_drewN ?_ _ | refine blk_drew ?_ | refine blk_alloc ?_ _)); exact BK.out) hk (fun e_ => Kd.R_ne HO.out BK.out (by decide) e_))
       clear HO HS HK HB hb hk hy BK
       have HO := n0
       have HS := n1
       have HK := n2
       have HB := n3
       have BK := n4
       clear n0 n1 n2 n3 n4
       have hd0 : w4.cell? ⟨gb, 0, none⟩ = some (.int .i64 a0) := (blk_cell BK.out 0).trans rfl
       have hd1 : w4.cell? ⟨gb, 1, none⟩ = some (.slice A1 l1.length z1) := (blk_cell BK.out 1).trans rfl
       have hd2 : w4.cell? ⟨gb, 2, none⟩ = some (.slice A2 l2.length z2) := (blk_cell BK.out 2).trans rfl
       have hg0 := blk_frozen BK.out 0
       have hg1 := blk_frozen BK.out 1
       have hg2 := blk_frozen BK.out 2)
    | ((with_reducible refine gate_callee (f := 76) rfl ?_)
       refine goesL_ (some 12) rfl rfl Try.func76 (by kernel_rfl) rfl #[.slice A2 l2.length z2, .int .i64 b1] rfl (by (try simp only [List.map_toArray, List.map_cons, List.map_nil]); first | done | rfl) ?_
       refine (laws_markPendingS.calls k (fun k_ => P0_ k_ ∧ some k_ ≠ (.slice A1 l1.length z1 : Value).ownBlock) _ l2 b1 c1 c2 w0 _ ?s1 ?s2 E2.out).mono ?_
       (case s1 => repeat (first | (with_reducible first | exact HB.out | apply below_alloc | apply pw_below_drewN | apply below_drew1) | exact HB.out))
       (case s2 => (with_reducible repeat (first | apply Kd.S_alloc | apply Kd.S_drewN | apply Kd.S_drew)); exact HS.out)
       rintro e w6 ⟨rfl, hy, hb, hk⟩
       refine ⟨_, rfl, ?_⟩
       have n0 := Aside0.mk (Kd.R_reok (ok := fun k_ => P0_ k_) rfl (Kd.R_kept (by (with_reducible repeat (first | apply Kd.R_alloc | apply Kd.R_drewN | apply Kd.R_drew)); exact Kd.R_tight rfl HO.out) hk (fun k_ e_ (h_ : P0_ k_ ∧ some k_ ≠ (.slice A1 l1.length z1 : Value).ownBlock) => h_.2 e_)) (fun k_ e_ => HO.out.1 k_ e_))
       have n1 := Aside0.mk hy
       have n2 := Aside0.mk (Kept.then_ (S := P0_) (by repeat (first | (with_reducible first | exact HK.out | apply Kept.alloc | apply Kept.drewN | apply Kept.drew) | exact HK.out)) hk (fun k_ h_ => .inl h_.1))
       have n3 := Aside0.mk hb
       clear HO HS HK HB hb hk hy
       have HO := n0
       have HS := n1
       have HK := n2
       have HB := n3
       clear n0 n1 n2 n3))
  go_ret
  exact ⟨rfl, by (with_reducible repeat (first | apply Kd.R_alloc | apply Kd.R_drewN | apply Kd.R_drew)); exact HO.out, by (with_reducible repeat (first | apply Kd.S_alloc | apply Kd.S_drewN | apply Kd.S_drew)); exact HS.out, by repeat (first | (with_reducible first | exact HB.out | apply below_alloc | apply pw_below_drewN | apply below_drew1) | exact HB.out), by repeat (first | (with_reducible first | exact HK.out | apply Kept.alloc | apply Kept.drewN | apply Kept.drew) | exact HK.out)⟩

/-! ### laws.markStepS, rows of rows that are the call's own -/
def laws_markStepS.l0 : Nat → List S71 → Int → Int → Option (Int × List S71)
  | 0, _, _, _ => none
  | k + 1, x0, x1, x5 => if x5 < (x0.length : Int) then (if 0 ≤ x5 then ((laws_markByteS.f k (rd_T71 x0 x5).f2 (wrap64 (wrap64 (x1 + 1) + 1))).bind fun b => laws_markStepS.l0 k (x0.set x5.toNat ⟨x1, wrap64 (x1 + 1), b.2⟩) b.1 (wrap64 (x5 + 1))) else none) else some (x1, x0)
def laws_markStepS.f (k : Nat) (l0 : List S71) (a1 : Int) : Option (Int × List S71) := laws_markStepS.l0 k l0 a1 0
set_option maxHeartbeats 8000000 in
set_option maxRecDepth 100000 in
theorem laws_markStepS.calls (k : Nat) (P0_ : Nat → Prop) (u : Value) (l0 : List S71) (a1 r1 : Int) (r2 : List S71) (w0 w : World) (hB : Below w0.heap.size w0 w) (ho0 : Kd.S k71 71 w w0.heap.size P0_ u l0) (h : laws_markStepS.f k l0 a1 = some (r1, r2)) :
    Calls Try.prog 58 #[u, .int .i64 a1] w fun e w' => e = .returned (.int .i64 r1) ∧ Kd.S k71 71 w' w0.heap.size P0_ u r2 ∧ Below w0.heap.size w0 w' ∧ Kept w w' P0_ := by
  have HO0 := Aside0.mk ho0
  have HK := Aside0.mk (Kept.refl w P0_)
  have HB := Aside0.mk hB
  clear hB ho0
  have H' := Aside0.mk (show laws_markStepS.l0 k l0 a1 0 = some (r1, r2) from h)
  clear h
  have hu67 := Try.underlying71
  go_enter Try.func58, Try.ntmps58
  go_wp2
  go_loopg [1, 5] k (fun kq v1 v5 w' => ∃ (x0_1 : List S71) (x1_1 : Int) (x5_1 : Int), v1 = .int .i64 x1_1 ∧ v5 = .int .i64 x5_1 ∧ Aside0 (laws_markStepS.l0 kq x0_1 x1_1 x5_1 = some (r1, r2)) ∧ Aside0 (kq ≤ k) ∧ Aside0 (Kd.S k71 71 w' w0.heap.size P0_ u x0_1) ∧ Aside0 (Kept w w' P0_) ∧ Aside0 (Below w0.heap.size w0 w'))
  case atStart => exact ⟨l0, a1, 0, rfl, rfl, H', ⟨Nat.le_refl _⟩, ⟨by (with_reducible repeat (first | apply Kd.S_alloc | apply Kd.S_drewN | apply Kd.S_drew)); exact HO0.out⟩, ⟨by repeat (first | (with_reducible first | exact HK.out | apply Kept.alloc | apply Kept.drewN | apply Kept.drew) | exact HK.out)⟩, ⟨by repeat (first | (with_reducible first | exact HB.out | apply below_alloc | apply pw_below_drewN | apply below_drew1) | exact HB.out)⟩⟩
  case round =>
    clear H' HO0
    try clear p2
    obtain ⟨x0_1, x1_1, x5_1, rfl, rfl, HA, HK1, HO_0, HK, HB⟩ := hrel
    cases gk with
    | zero => exact absurd HA.out (by simp [laws_markStepS.l0])
    | succ k1 =>
      have H := HA.out
      clear HA
      simp only [laws_markStepS.l0] at H
      by_cases c3 : x5_1 < (x0_1.length : Int)
      · rw [if_pos c3] at H
        have c3b0 : decide (x5_1 < (x0_1.length : Int)) = true := decide_eq_true c3
        by_cases c4 : 0 ≤ x5_1
        · rw [if_pos c4] at H
          have c4b0 : decide (0 ≤ x5_1) = true := decide_eq_true c4
          obtain ⟨⟨b1, b2⟩, hbt, H⟩ := Option.bind_eq_some_iff.mp H
          obtain ⟨y0, hy0⟩ : ∃ y0, x0_1.getD x5_1.toNat z71 = y0 := ⟨_, rfl⟩
          have A1 := Aside0.mk (show laws_markByteS.f k1 y0.f2 (wrap64 (wrap64 (x1_1 + 1) + 1)) = some (b1, b2) from by rw [← hy0]; exact hbt)
          have H' := Aside0.mk (show laws_markStepS.l0 k1 (x0_1.set x5_1.toNat ⟨x1_1, wrap64 (x1_1 + 1), b2⟩) b1 (wrap64 (x5_1 + 1)) = some (r1, r2) from H)
          clear H hbt
          obtain ⟨go5, co5, eo5, gb5, gl5, cl5, HG5⟩ := Kd.S_form HO_0.out (by omega)
          subst eo5
          have GB5 := Aside0.mk gb5
          clear gb5 gl5 HG5
          have C3 := Aside0.mk c3
          have C4 := Aside0.mk c4
          have hil : x5_1.toNat < x0_1.length := by omega
          obtain ⟨oki, c, hcl, hM, hcc, hfr, hoki, hH⟩ := Kd.S_elem HO_0.out z71 x5_1 c4 c3
          rw [hy0] at hM
          obtain ⟨v1, rfl, hR⟩ := k71_openM hM
          have hP0g := Aside0.mk (HO_0.out.choose_spec.1 go5 rfl : P0_ go5)
          have E1 := Aside0.mk hR
          have E2 := Aside0.mk hH
          have hx5_0 : wr.cell? ⟨go5, x5_1.toNat * 3, none⟩ = some (.int .i64 y0.f0) := hcc 0 _ rfl
          have hf5_0 : wr.frozen? ⟨go5, x5_1.toNat * 3, none⟩ = false := hfr 0
          have hgd : (x0_1.set x5_1.toNat ⟨x1_1, y0.f1, y0.f2⟩).getD x5_1.toNat z71 = ⟨x1_1, y0.f1, y0.f2⟩ := by simp [hil]
          have HGD := Aside0.mk hgd
          have hgd2 : ((x0_1.set x5_1.toNat ⟨x1_1, y0.f1, y0.f2⟩).set x5_1.toNat ⟨x1_1, wrap64 (x1_1 + 1), y0.f2⟩).getD x5_1.toNat z71 = ⟨x1_1, wrap64 (x1_1 + 1), y0.f2⟩ := by simp [hil]
          have HGD2 := Aside0.mk hgd2
          have HL := Aside0.mk (show ((x0_1.set x5_1.toNat ⟨x1_1, y0.f1, y0.f2⟩).length : Int) = (x0_1.length : Int) by simp)
          have Ssz := Aside0.mk (show x5_1.toNat * 3 = x5_1.toNat * k71.sz + 0 from rfl)
          have Ssz1 := Aside0.mk (show x5_1.toNat * 3 + 1 = x5_1.toNat * k71.sz + 1 from rfl)
          clear hcl hM hcc hfr hH hR hgd hgd2 hoki hil hy0
          have p5 : 0 ≤ (x5_1 : Int) := c4
          have q5 : (x5_1 : Int) < ((x0_1.length : Int) : Int) := c3
          clear c3 c4
          replace p5 := eq_true p5
          replace q5 := eq_true q5
          go_wp2_with (first
            | ((with_reducible refine gate_store (t := 2) (p := 16) rfl ?_)
               refine Kd.H_store (w0 := w0) k71 w0.heap.size rfl rfl 2 _ _ rfl 71 (g := go5) (o' := x5_1.toNat * 3) x5_1 0 x0_1 ⟨x1_1, y0.f1, y0.f2⟩ (.int .i64 x1_1) [.int .i64 x1_1] _ P0_ oki oki rfl Ssz.out rfl rfl (by kernel_rfl) (by simp [Value.oneCell']) E2.out C4.out C3.out (show 1 ≤ 3 by decide) (k71_mkM _ _ _ ⟨x1_1, y0.f1, y0.f2⟩ E1.out) (fun _ h => h) HB.out ?_
               intro w8 hS8 hB8 hG8
               have HK7 := Aside0.mk (Kept.of_grown (S := P0_) hG8 HK.out (fun k_ e_ => .inl (by injection e_ with e_; rw [← e_]; exact hP0g.out)))
               obtain ⟨oki2, c2, hcl2, hM2, hcc2, hfr2, hoki2, hH2⟩ := Kd.S_elem hS8 z71 x5_1 C4.out C3.out
               obtain ⟨v2, rfl, hR2⟩ := k71_openM hM2
               rw [HGD.out] at hR2 hH2 hcc2
               have E5a := Aside0.mk hR2
               have E6a := Aside0.mk hH2
               have E7a := Aside0.mk (show ∀ k, oki2 k → P0_ k from fun k hk => (hoki2 k hk).1)
               have HB7 := Aside0.mk hB8
               have hx8_1 : w8.cell? ⟨go5, x5_1.toNat * 3 + 1, none⟩ = some (.int .i64 y0.f1) := hcc2 1 _ rfl
               have hf8_1 : w8.frozen? ⟨go5, x5_1.toNat * 3 + 1, none⟩ = false := hfr2 1
               clear hcl2 hM2 hcc2 hfr2 hH2 hR2 hoki2 hS8 hG8 hB8)
            | ((with_reducible refine gate_store (t := 2) (p := 23) rfl ?_)
               refine Kd.H_store (w0 := w0) k71 w0.heap.size rfl rfl 2 _ _ rfl 71 (g := go5) (o' := x5_1.toNat * 3 + 1) x5_1 1 (x0_1.set x5_1.toNat ⟨x1_1, y0.f1, y0.f2⟩) ⟨x1_1, wrap64 (x1_1 + 1), y0.f2⟩ (.int .i64 (wrap64 (x1_1 + 1))) [.int .i64 (wrap64 (x1_1 + 1))] _ P0_ oki2 oki2 rfl Ssz1.out rfl rfl (by kernel_rfl) (by simp [Value.oneCell']) E6a.out C4.out (by first | exact C3.out | (simp only [List.length_set]; exact C3.out)) (show 2 ≤ 3 by decide) (k71_mkM _ _ _ ⟨x1_1, wrap64 (x1_1 + 1), y0.f2⟩ E5a.out) (fun _ h => h) HB7.out ?_
               intro w9 hS8 hB8 hG8
               have HK8 := Aside0.mk (Kept.of_grown (S := P0_) hG8 HK7.out (fun k_ e_ => .inl (by injection e_ with e_; rw [← e_]; exact hP0g.out)))
               obtain ⟨oki3, c2, hcl2, hM2, hcc2, hfr2, hoki2, hH2⟩ := Kd.S_elem hS8 z71 x5_1 C4.out (by first | exact C3.out | (simp only [List.length_set]; exact C3.out))
               obtain ⟨v2, rfl, hR2⟩ := k71_openM hM2
               rw [HGD2.out] at hR2 hH2 hcc2
               obtain ⟨Ao2, co2, eo2⟩ := Kd.R_slice hR2
               subst eo2
               have E5 := Aside0.mk hR2
               have E6 := Aside0.mk hH2
               have E7 := Aside0.mk (show ∀ k, oki3 k → P0_ k from fun k hk => (hoki2 k hk).1)
               have HB8 := Aside0.mk hB8
               have hx9_2 : w9.cell? ⟨go5, x5_1.toNat * 3 + 2, none⟩ = some (.slice Ao2 y0.f2.length co2) := hcc2 2 _ rfl
               have hf9_2 : w9.frozen? ⟨go5, x5_1.toNat * 3 + 2, none⟩ = false := hfr2 2
               clear hcl2 hM2 hcc2 hfr2 hH2 hR2 hoki2 hS8 hG8 hB8)
            | ((with_reducible refine gate_callee (f := 33) rfl ?_)
               refine goesL_ (some 32) rfl rfl Try.func33 (by kernel_rfl) rfl #[.slice Ao2 y0.f2.length co2, .int .i64 (wrap64 (wrap64 (x1_1 + 1) + 1))] rfl (by (try simp only [List.map_toArray, List.map_cons, List.map_nil]); first | done | rfl) ?_
               (with_reducible refine (laws_markByteS.calls k1 oki3 _ _ _ b1 b2 w0 _ ?side1 ?side2 A1.out).mono ?_)
               (case side1 => repeat (first | (with_reducible first | exact HB8.out | apply below_alloc | apply pw_below_drewN | apply below_drew1) | exact HB8.out))
               (case side2 => (with_reducible repeat (first | apply Kd.R_alloc | apply Kd.R_drewN | apply Kd.R_drew)); exact E5.out)
               rintro e w10 ⟨rfl, hy9, hb9, hk9⟩
               refine ⟨_, rfl, ?_⟩
               have HK9 := Aside0.mk (Kept.then_ (S := P0_) (by repeat (first | (with_reducible first | exact HK8.out | apply Kept.alloc | apply Kept.drewN | apply Kept.drew) | exact HK8.out)) hk9 (fun k hk => .inl (E7.out k hk)))
               have HB9 := Aside0.mk hb9
               have HS9 := Aside0.mk (Kd.H_back (Kd.H_kept (by (with_reducible repeat (first | apply Kd.H_alloc | apply Kd.H_drewN | apply Kd.H_drew)); exact E6.out) hk9 (fun _ _ hn => hn)) (k71_mkM _ _ oki3 ⟨x1_1, wrap64 (x1_1 + 1), b2⟩ (Kd.R_reok rfl hy9 (fun k_ e_ => E5.out.1 k_ e_))) (fun _ h => h))
               clear hy9 hb9 hk9))
          go_roundg k1
          case measure => have := HK1.out; omega
          case rel =>
            refine ⟨x0_1.set x5_1.toNat ⟨x1_1, wrap64 (x1_1 + 1), b2⟩, b1, wrap64 (x5_1 + 1), rfl, rfl, H', ⟨by have := HK1.out; omega⟩, ⟨?_⟩, ⟨by repeat (first | (with_reducible first | exact HK9.out | apply Kept.alloc | apply Kept.drewN | apply Kept.drew) | exact HK9.out)⟩, ⟨by repeat (first | (with_reducible first | exact HB9.out | apply below_alloc | apply pw_below_drewN | apply below_drew1) | exact HB9.out)⟩⟩
            have h9 := HS9.out
            rw [List.set_set, List.set_set] at h9
            (with_reducible repeat (first | apply Kd.S_alloc | apply Kd.S_drewN | apply Kd.S_drew))
            exact h9
        · rw [if_neg c4] at H
          exact absurd H (by simp)
      · rw [if_neg c3] at H
        have c3b0 : decide (x5_1 < (x0_1.length : Int)) = false := decide_eq_false c3
        clear c3
        simp only [Option.some.injEq, Prod.mk.injEq] at H
        obtain ⟨rfl, rfl⟩ := H
        obtain ⟨Ao9, co9, eo9⟩ := Kd.S_slice HO_0.out
        subst eo9
        go_wp2
        go_ret
        exact ⟨rfl, by (with_reducible repeat (first | apply Kd.S_alloc | apply Kd.S_drewN | apply Kd.S_drew)); exact HO_0.out, by repeat (first | (with_reducible first | exact HB.out | apply below_alloc | apply pw_below_drewN | apply below_drew1) | exact HB.out), by repeat (first | (with_reducible first | exact HK.out | apply Kept.alloc | apply Kept.drewN | apply Kept.drew) | exact HK.out)⟩

/-! ### impl.Device.settle: the writes that keep says are put onto the disk -/
def putB (l : List Int) (o : Nat) (ys : List Int) : List Int := l.take o ++ ys ++ l.drop (o + ys.length)
/-- The disk behind the first n writes. -/
def setB (l1 : List Int) (l2 : List S67) (kp : Nat → Bool) : Nat → List Int
  | 0 => l1
  | n + 1 => if kp n then putB (setB l1 l2 kp n) ((rd_T67 l2 (n : Int)).f0 * 128).toNat (rd_T67 l2 (n : Int)).f1 else setB l1 l2 kp n
/-- What the writes must be for that. -/
def fitB (l1 : List Int) (l2 : List S67) : Prop := l1.length ≤ 1048576 ∧ ∀ n : Nat, n < l2.length → 0 ≤ (rd_T67 l2 (n : Int)).f0 ∧ (rd_T67 l2 (n : Int)).f1.length = 128 ∧ (rd_T67 l2 (n : Int)).f0 * 128 + 128 ≤ (l1.length : Int)
instance (l1 : List Int) (l2 : List S67) : Decidable (fitB l1 l2) := by unfold fitB; infer_instance
theorem setB_length (l1 : List Int) (l2 : List S67) (kp : Nat → Bool) (hf : fitB l1 l2) : ∀ n, n ≤ l2.length → (setB l1 l2 kp n).length = l1.length
  | 0, _ => rfl
  | n + 1, h => by
    have ih := setB_length l1 l2 kp hf n (by omega)
    obtain ⟨h0, h1, h2⟩ := hf.2 n (by omega)
    unfold setB
    split
    · unfold putB
      simp only [List.length_append, List.length_take, List.length_drop, ih]
      omega
    · exact ih
/-- copy onto the middle of a row of one's own. -/
theorem run_copy_at {P : Program} {W : World} {base e t t' : Nat} {ty : TypeId} {ok : Nat → Prop} {g cap : Nat} {xs ys : List Int} {A : Option Addr} {c lo : Nat} (ht : P.underlying t = some (.slice e)) (hinfo : (P.info? e).map (·.size) = some 1)
    (HO : (Kd.int .u8).R e W base ok (.slice (some ⟨g, 0, none⟩) xs.length cap) xs) (HR : (Kd.int .u8).C W A ys.length ys) (hlo : lo + ys.length ≤ xs.length) (hp : 0 < ys.length) :
    (Builtin.copy_ #[t, t'] ty #[.slice (some ⟨g, lo, none⟩) (xs.length - lo) (cap - lo), .slice A ys.length c]).run P W = .ok (goInt (ys.length : Int)) (W.setCells g lo (nums .u8 ys)) ∧
      (Kd.int .u8).R e (W.setCells g lo (nums .u8 ys)) base ok (.slice (some ⟨g, 0, none⟩) xs.length cap) (xs.take lo ++ ys ++ xs.drop (lo + ys.length)) ∧ W.grownBy (W.setCells g lo (nums .u8 ys)) (some g) := by
  have hR := Kd.reads_of_C (enc := Value.int .u8) (d := (0 : Int)) (h1 := fun _ => rfl) HR
  have hown := Kd.own_of_R (enc := Value.int .u8) (h1 := fun _ => rfl) HO
  obtain ⟨ad, hA, hc⟩ := hR.2.2 hp
  rcases hown.2 with ⟨_, hx0⟩ | ⟨g', cap', cur, hv, hb, hh, hnc, hcm, hcs, htake⟩
  · omega
  injection hv with hv1 hv2 hv3
  injection hv1 with hv1
  injection hv1 with hv1
  subst hv1
  subst hv3
  have hcs1 : cur.size = cap := by omega
  have hkl : (nums .u8 ys).length = ys.length := nums_length _ _
  have hsrc : ∀ j u, (nums .u8 ys)[j]? = some u → W.cell? (ad.add j) = some u := by
    intro j u hu
    have hj : j < ys.length := by
      rcases Nat.lt_or_ge j ys.length with h | h
      · exact h
      · rw [List.getElem?_eq_none (by rw [hkl]; exact h)] at hu; cases hu
    rw [hc j hj]
    rw [← hu]
    simp [nums, hj]
  have hr := run_copy_cells (P := P) W t t' ty e g lo (xs.length - lo) (cap - lo) ad ys.length c (nums .u8 ys) ht hinfo (by rw [hkl]; first | exact (Nat.min_eq_left (show ys.length ≤ xs.length - lo by omega)).symm | exact (Nat.min_eq_right (show ys.length ≤ xs.length - lo by omega)).symm) hsrc
    (fun j hj => by rw [cell_of_row W g _ cur e (0, 0) hh]; simp; omega) (fun j _ => blk_frozen hh _) (by intro u hu; simp only [nums, List.mem_map] at hu; obtain ⟨q, _, rfl⟩ := hu; rfl)
  obtain ⟨cur', h3, h4, h5⟩ := setCells_row (nums .u8 ys) lo W cur hh (by rw [hkl]; omega)
  obtain ⟨s1, s2, s3, s4⟩ := setCells_same g (nums .u8 ys) lo W
  refine ⟨by rw [hA, hr, hkl], Kd.R_of_own (enc := Value.int .u8) (h1 := fun _ => rfl) ?_ HO.1, ⟨s1, s2, s3, by rw [s4]; exact Nat.le_refl _, fun k _ hk => setCells_far _ _ k (fun he => hk (by rw [he]))⟩⟩
  have hln : (xs.take lo ++ ys ++ xs.drop (lo + ys.length)).length = xs.length := by
    simp only [List.length_append, List.length_take, List.length_drop]; omega
  rw [hln]
  refine ⟨by rw [encs_length, hln, Nat.mul_one], .inr ⟨g, cap, cur', rfl, hb, h3, hnc, hcm, by rw [h4, hcs], ?_⟩⟩
  have htk : cur.toList.take xs.length = encs (Value.int .u8) xs := by rw [← htake, Nat.mul_one]
  have e1 : cur.toList.take lo = encs (Value.int .u8) (xs.take lo) := by
    have : cur.toList.take lo = (cur.toList.take xs.length).take lo := by rw [List.take_take]; congr 1; omega
    rw [this, htk]; simp [encs, List.map_take]
  have e2 : (cur.toList.drop (lo + ys.length)).take (xs.length - (lo + ys.length)) = encs (Value.int .u8) (xs.drop (lo + ys.length)) := by
    rw [← List.drop_take, htk]; simp [encs, List.map_drop]
  rw [h5, hkl, Nat.mul_one, encs_append, encs_append, e1]
  have e3 : (encs (Value.int .u8) (xs.take lo) ++ nums .u8 ys).length = lo + ys.length := by rw [List.length_append, encs_length, hkl, List.length_take]; omega
  rw [List.take_append, e3, e2, List.take_of_length_le (by rw [e3]; omega)]
  rfl
theorem run_copy_op {P : Program} {W W1 : World} {a : Act} {o : Oper} {s x : Operand} {t t' : TypeId} {v1 v2 v : Value} (ho : o.op = .call { callee := .builtin .copy, args := #[s, x], argTypes := #[t, t'] }) (hs : a.eval s = v1) (hx : a.eval x = v2)
    (hr : (Builtin.copy_ #[t, t'] o.type #[v1, v2]).run P W = .ok v W1) : (execOp a.eval o).run P W = .ok (.value v) W1 := by
  unfold execOp
  simp only [ho, resolve, invoke, builtin, Sem.run_bind, Sem.run_pure, Result.andThen_ok, List.map_toArray, List.map_cons, List.map_nil, hs, hx, hr]
/-- settle on a device in a variable: kp says which writes are kept (what the function handed in answers, at any world that keeps all but the disk's row). -/
def settleGoal : Prop := True
set_option maxHeartbeats 16000000 in
set_option maxRecDepth 100000 in
theorem impl_settle.own (F : FuncId) (fr : Array Value) (kp : Nat → Bool) (g : Nat) (a0 : Int) (u : Value) (A2 : Option Addr) (c2 : Nat) (l1 : List Int) (l2 : List S67) (P0_ : Nat → Prop) (w0 w : World) (hB : Below w0.heap.size w0 w)
    (hbox : w.heap[g]? = some (.cells #[.int .i64 a0, u, .slice A2 l2.length c2] 47 (0, 0))) (hg : w0.heap.size ≤ g) (ho : Kd.R (Kd.int .u8) 5 w w0.heap.size P0_ u l1) (hr : ∀ W_, Kept w W_ P0_ → Kd.C k67 W_ A2 l2.length l2) (hgP : ¬ P0_ g) (hfit : fitB l1 l2)
    (hF : ∀ (args : Array Value) (W_ : World), (callFunc F args).run Try.prog W_ = .ok (.enter F args) W_) (hkeep : ∀ (i : Nat) (W_ : World), i < l2.length → Kept w W_ P0_ → Calls Try.prog F (#[Value.int .i64 (i : Int)] ++ fr) W_ fun e W' => e = .returned (.bool (kp i)) ∧ Below W_.heap.size W_ W') :
    Calls Try.prog 82 #[.pointer (some ⟨g, 0, none⟩), .func (.func F) #[] fr] w fun e w' => e = .returned (.tuple #[]) ∧ w'.heap[g]? = some (.cells #[.int .i64 a0, u, .slice none 0 0] 47 (0, 0)) ∧ Kd.R (Kd.int .u8) 5 w' w0.heap.size P0_ u (setB l1 l2 kp l2.length) ∧ Below w0.heap.size w0 w' ∧ Kept w w' (fun k => P0_ k ∨ k = g) := by
  have hu47 := Try.underlying47
  have hu67 := Try.underlying67
  have HO := Aside0.mk ho
  have HR := Aside0.mk hr
  have HK := Aside0.mk (Kept.refl w P0_)
  have HB := Aside0.mk hB
  have BK := Aside0.mk hbox
  have HF := Aside0.mk hfit
  have HG := Aside0.mk hg
  have HN := Aside0.mk hgP
  have HY := Aside0.mk hkeep
  have HX := Aside0.mk hF
  have HS := Aside0.mk (show l2.length ≤ maxLen from (HR.out w (Kept.refl w P0_)).2.1)
  clear ho hr hB hbox hfit hg hgP hkeep hF
  have hc0 : w.cell? ⟨g, 0, none⟩ = some (.int .i64 a0) := (blk_cell BK.out 0).trans rfl
  have hc1 : w.cell? ⟨g, 1, none⟩ = some u := (blk_cell BK.out 1).trans rfl
  have hc2 : w.cell? ⟨g, 2, none⟩ = some (.slice A2 l2.length c2) := (blk_cell BK.out 2).trans rfl
  have hf0 := blk_frozen BK.out 0
  have hf1 := blk_frozen BK.out 1
  have hf2 := blk_frozen BK.out 2
  go_enter Try.func82, Try.ntmps82
  go_wp2
  go_loopg [11] (l2.length + 1) (fun kq v11 w' => ∃ n : Nat, v11 = .int .i64 (n : Int) ∧ Aside0 (kq + n = l2.length + 1) ∧ Aside0 (n ≤ l2.length) ∧ Aside0 (Kd.R (Kd.int .u8) 5 w' w0.heap.size P0_ u (setB l1 l2 kp n)) ∧ Aside0 (w'.heap[g]? = some (.cells #[.int .i64 a0, u, .slice A2 l2.length c2] 47 (0, 0))) ∧ Aside0 (Kept w w' P0_) ∧ Aside0 (Below w0.heap.size w0 w'))
  case atStart => exact ⟨0, rfl, ⟨by omega⟩, ⟨Nat.zero_le _⟩, ⟨by (with_reducible repeat (first | apply Kd.R_alloc | apply Kd.R_drewN | apply Kd.R_drew)); exact HO.out⟩, ⟨by (with_reducible repeat (first | refine blk_drewN ?_ _ | refine blk_drew ?_ | refine blk_alloc ?_ _)); exact BK.out⟩, ⟨by repeat (first | (with_reducible first | exact HK.out | apply Kept.alloc | apply Kept.drewN | apply Kept.drew) | exact HK.out)⟩, ⟨by repeat (first | (with_reducible first | exact HB.out | apply below_alloc | apply pw_below_drewN | apply below_drew1) | exact HB.out)⟩⟩
  case round =>
    clear HO HK HB BK hc0 hc1 hc2 hf0 hf1 hf2
    obtain ⟨n, rfl, HA, HL, HO, BK, HK, HB⟩ := hrel
    have hc0 : wr.cell? ⟨g, 0, none⟩ = some (.int .i64 a0) := (blk_cell BK.out 0).trans rfl
    have hc1 : wr.cell? ⟨g, 1, none⟩ = some u := (blk_cell BK.out 1).trans rfl
    have hc2 : wr.cell? ⟨g, 2, none⟩ = some (.slice A2 l2.length c2) := (blk_cell BK.out 2).trans rfl
    have hf0 := blk_frozen BK.out 0
    have hf1 := blk_frozen BK.out 1
    have hf2 := blk_frozen BK.out 2
    by_cases hn : (n : Int) < (l2.length : Int)
    · have D0 : decide ((n : Int) < (l2.length : Int)) = true := decide_eq_true hn
      have D2 : decide (n < l2.length) = true := decide_eq_true (by omega)
      have D3 : n < l2.length := by omega
      have D1 : decide (0 ≤ (n : Int)) = true := decide_eq_true (by omega)
      have HC := Kd.C_kept_now HR.out HK.out
      obtain ⟨ad, A1, c1, eA, hx0, hx1, hl1, hi1⟩ := at_T67 HC (n : Int) (by omega) hn
      subst eA
      simp only [Int.toNat_natCast] at hx0 hx1
      obtain ⟨hq0, hq1, hq2⟩ := HF.out.2 n (by omega)
      have HN1 := Aside0.mk hn
      have HI := Aside0.mk hi1
      have HL1 := Aside0.mk hl1
      generalize hy : rd_T67 l2 (n : Int) = y at *
      have HYE := Aside0.mk hy
      clear hy
      have HQ := Aside0.mk (And.intro hq0 (And.intro hq1 hq2))
      clear hq0 hq1 hq2 HC hi1 hl1 hn
      go_wp2
      obtain ⟨gp, hgp⟩ : ∃ gp, gp = wr.heap.size := ⟨_, rfl⟩
      obtain ⟨w3, hw3⟩ : ∃ w3, w3 = wr.alloc (Obj.cells #[Value.int IntKind.i64 y.f0, Value.slice A1 y.f1.length c1] 67) := ⟨_, rfl⟩
      have HO3 := Aside0.mk (show Kd.R (Kd.int .u8) 5 w3 w0.heap.size P0_ u (setB l1 l2 kp n) by rw [hw3]; exact Kd.R_alloc HO.out _)
      have HK3 := Aside0.mk (show Kept w w3 P0_ by rw [hw3]; exact Kept.alloc HK.out _)
      have HZ3 := Aside0.mk (show Below wr.heap.size wr w3 by rw [hw3]; exact below_alloc (Below.refl _ _) _)
      have HB3 := Aside0.mk (show Below w0.heap.size w0 w3 by rw [hw3]; exact below_alloc HB.out _)
      have BK3 := Aside0.mk (show w3.heap[g]? = some (.cells #[.int .i64 a0, u, .slice (some ad) l2.length c2] 47 (0, 0)) by rw [hw3]; exact blk_alloc BK.out _)
      have BP3 := Aside0.mk (show w3.heap[gp]? = some (.cells #[.int .i64 y.f0, .slice A1 y.f1.length c1] 67 (0, 0)) by rw [hw3, hgp]; exact heap_alloc_new wr _)
      rw [← hgp, ← hw3]
      rw [HX.out, Oper.upon_enter]
      refine (HY.out n w3 (by have := HN1.out; omega) HK3.out).mono ?_
      rintro e w4 ⟨rfl, hb4⟩
      have HO4 := Aside0.mk (Kd.R_below HO3.out hb4)
      have HK4 := Aside0.mk (Kept.below HK3.out hb4)
      have HB4 := Aside0.mk (below_step HB3.out hb4)
      have HZ4 := Aside0.mk (below_step HZ3.out hb4)
      have BK4 := Aside0.mk (blk_below BK3.out hb4)
      have BP4 := Aside0.mk (blk_below BP3.out hb4)
      have hgne := Aside0.mk (show g < gp ∧ w.heap.size ≤ gp from ⟨by rw [hgp]; exact blk_lt BK.out, by rw [hgp]; exact HK.out.1⟩)
      clear hb4 hw3 hgp
      cases hkp : kp n with
      | false =>
        go_wp2
        go_roundg (l2.length - n)
        case measure => have := HA.out; have := HN1.out; omega
        case rel => exact ⟨n + 1, by have e_ : wrap64 ((n : Int) + 1) = ((n + 1 : Nat) : Int) := (by have := HS.out; have := HN1.out; simp only [maxLen] at *; unfold wrap64; omega); first | rw [e_] | (rw [i64_w, e_]), ⟨by have := HA.out; have := HN1.out; omega⟩, ⟨by have := HN1.out; omega⟩, ⟨by (with_reducible repeat (first | apply Kd.R_alloc | apply Kd.R_drewN | apply Kd.R_drew)); have h4 := HO4.out; unfold setB; rw [if_neg (by rw [hkp]; simp)]; exact h4⟩, ⟨by (with_reducible repeat (first | refine blk_drewN ?_ _ | refine blk_drew ?_ | refine blk_alloc ?_ _)); exact BK4.out⟩, ⟨by repeat (first | (with_reducible first | exact HK4.out | apply Kept.alloc | apply Kept.drewN | apply Kept.drew) | exact HK4.out)⟩, ⟨by repeat (first | (with_reducible first | exact HB4.out | apply below_alloc | apply pw_below_drewN | apply below_drew1) | exact HB4.out)⟩⟩
      | true =>
        have hln := setB_length l1 l2 kp HF.out n (by omega)
        have HLN := Aside0.mk hln
        have hq := HQ.out
        obtain ⟨go, co, eu, gb, gl, cl, HGo⟩ := Kd.R_form HO4.out (by rw [hln]; omega)
        have hq1 : 0 ≤ y.f0 * 128 := by omega
        have hq2 : y.f0 * 128 + 128 ≤ ((setB l1 l2 kp n).length : Int) := by rw [hln]; omega
        have HQ1 := Aside0.mk hq1
        have HQ2 := Aside0.mk hq2
        subst eu
        obtain ⟨lo, hlo⟩ : ∃ lo : Nat, (lo : Int) = y.f0 * 128 := ⟨(y.f0 * 128).toNat, by omega⟩
        have HLO := Aside0.mk hlo
        clear hq gb gl HGo hq1 hq2 hln
        go_wp2
        refine Law.region_world (fun w5 hw5 => ?_)
        obtain ⟨w6, hw6⟩ : ∃ w6 : World, w6 = w5.drew := ⟨_, rfl⟩
        have HO6 := Aside0.mk (show Kd.R (Kd.int .u8) 5 w6 w0.heap.size P0_ (.slice (some ⟨go, 0, none⟩) (setB l1 l2 kp n).length co) (setB l1 l2 kp n) by rw [hw6, hw5]; (with_reducible repeat (first | apply Kd.R_alloc | apply Kd.R_drewN | apply Kd.R_drew)); exact HO4.out)
        have HK6 := Aside0.mk (show Kept w w6 P0_ by rw [hw6, hw5]; repeat (first | (with_reducible first | exact HK4.out | apply Kept.alloc | apply Kept.drewN | apply Kept.drew) | exact HK4.out))
        have HB6 := Aside0.mk (show Below w0.heap.size w0 w6 by rw [hw6, hw5]; repeat (first | (with_reducible first | exact HB4.out | apply below_alloc | apply pw_below_drewN | apply below_drew1) | exact HB4.out))
        have HZ6 := Aside0.mk (show Below wr.heap.size wr w6 by rw [hw6, hw5]; repeat (first | (with_reducible first | exact HZ4.out | apply below_alloc | apply pw_below_drewN | apply below_drew1) | exact HZ4.out))
        have BK6 := Aside0.mk (show w6.heap[g]? = some (.cells #[.int .i64 a0, .slice (some ⟨go, 0, none⟩) (setB l1 l2 kp n).length co, .slice (some ad) l2.length c2] 47 (0, 0)) by rw [hw6, hw5]; (with_reducible repeat (first | refine blk_drewN ?_ _ | refine blk_drew ?_ | refine blk_alloc ?_ _)); exact BK4.out)
        have BP6 := Aside0.mk (show w6.heap[gp]? = some (.cells #[.int .i64 y.f0, .slice A1 y.f1.length c1] 67 (0, 0)) by rw [hw6, hw5]; (with_reducible repeat (first | refine blk_drewN ?_ _ | refine blk_drew ?_ | refine blk_alloc ?_ _)); exact BP4.out)
        refine start_ (n := 11) (S := fun w' => w'.cell? ⟨g, 1, none⟩ = some (.slice (some ⟨go, 0, none⟩) (setB l1 l2 kp n).length co) ∧ w'.cell? ⟨gp, 0, none⟩ = some (.int .i64 y.f0) ∧ w'.cell? ⟨gp, 1, none⟩ = some (.slice A1 y.f1.length c1)) (ds := []) #[false, false, false, false, false, false, false, false, false, false, false] (by kernel_rfl) rfl rfl (by rw [← hw6]; exact ⟨(blk_cell BK6.out 1).trans rfl, (blk_cell BP6.out 0).trans rfl, (blk_cell BP6.out 1).trans rfl⟩) ?_
        rw [← hw6]
        intro hHeld
        clear hw6 hw5
        refine pure_ (i := 0) (N := some 19) (v := ?_) (a' := ?_) #[true, false, false, false, false, false, false, false, false, false, false] rfl rfl (by kernel_rfl) (fun _ _ _ h => h) (Or.inl ⟨by rfl, ?_⟩) ?_ ?_
        rotate_left
        · intro w'
          go_simp
          with_reducible rfl
        rotate_left
        · simp only [Act.put, List.setIfInBounds_toArray, List.set_cons_zero, List.set_cons_succ, i64_w, i32_w]
          rfl
        refine pure_ (i := 1) (N := some 20) (v := ?_) (a' := ?_) #[true, true, false, false, false, false, false, false, false, false, false] rfl rfl (by kernel_rfl) (fun _ _ _ h => h) (Or.inl ⟨by rfl, ?_⟩) ?_ ?_
        rotate_left
        · intro w'
          go_simp
          with_reducible rfl
        rotate_left
        · simp only [Act.put, List.setIfInBounds_toArray, List.set_cons_zero, List.set_cons_succ, i64_w, i32_w]
          rfl
        refine pure_ (i := 2) (N := some 21) (v := ?_) (a' := ?_) #[true, true, true, false, false, false, false, false, false, false, false] rfl rfl (by kernel_rfl) (fun _ _ _ h => h) (Or.inl ⟨by rfl, ?_⟩) ?_ ?_
        rotate_left
        · intro w'
          go_simp
          with_reducible rfl
        rotate_left
        · simp only [Act.put, List.setIfInBounds_toArray, List.set_cons_zero, List.set_cons_succ, i64_w, i32_w]
          rfl
        refine take_ (i := 3) (N := some 22) (v := ?_) (a' := ?_) #[true, true, true, true, false, false, false, false, false, false, false] rfl rfl (by kernel_rfl) (fun _ _ _ h => h) (Or.inl ⟨by rfl, ?_⟩) hHeld ?_ ?_
        rotate_left
        · rintro w' ⟨s0, s1, s2⟩
          go_simp
          with_reducible rfl
        rotate_left
        · simp only [Act.put, List.setIfInBounds_toArray, List.set_cons_zero, List.set_cons_succ, i64_w, i32_w]
          rfl
        refine pure_ (i := 4) (N := some 23) (v := ?_) (a' := ?_) #[true, true, true, true, true, false, false, false, false, false, false] rfl rfl (by kernel_rfl) (fun _ _ _ h => h) (Or.inl ⟨by rfl, ?_⟩) ?_ ?_
        rotate_left
        · intro w'
          go_simp
          with_reducible rfl
        rotate_left
        · simp only [Act.put, List.setIfInBounds_toArray, List.set_cons_zero, List.set_cons_succ, i64_w, i32_w]
          rfl
        refine take_ (i := 5) (N := some 24) (v := ?_) (a' := ?_) #[true, true, true, true, true, true, false, false, false, false, false] rfl rfl (by kernel_rfl) (fun _ _ _ h => h) (Or.inl ⟨by rfl, ?_⟩) hHeld ?_ ?_
        rotate_left
        · rintro w' ⟨s0, s1, s2⟩
          go_simp
          with_reducible rfl
        rotate_left
        · simp only [Act.put, List.setIfInBounds_toArray, List.set_cons_zero, List.set_cons_succ, i64_w, i32_w]
          rfl
        refine pure_ (i := 6) (N := some 25) (v := ?_) (a' := ?_) #[true, true, true, true, true, true, true, false, false, false, false] rfl rfl (by kernel_rfl) (fun _ _ _ h => h) (Or.inl ⟨by rfl, ?_⟩) ?_ ?_
        rotate_left
        · intro w'
          go_simp
          with_reducible rfl
        rotate_left
        · simp only [Act.put, List.setIfInBounds_toArray, List.set_cons_zero, List.set_cons_succ, i64_w, i32_w]
          rfl
        have hw : wrap64 (y.f0 * 128) = (lo : Int) := by have := HQ.out; have := HLO.out; have := HQ2.out; have := HLN.out; have := HF.out.1; unfold wrap64; omega
        have HW := Aside0.mk hw
        have HCO := Aside0.mk (Kd.R_reads' HO6.out).2.1
        refine pure_ (i := 7) (N := some 26) (v := .slice (some ⟨go, lo, none⟩) ((setB l1 l2 kp n).length - lo) (co - lo)) (a' := ?_) #[true, true, true, true, true, true, true, true, false, false, false] rfl rfl (by kernel_rfl) (fun _ _ _ h => h) (Or.inl ⟨by rfl, ?_⟩) ?_ ?_
        · intro w'
          go_simp
          have h1 := HQ1.out
          have h2 := HQ2.out
          have h3 := HLO.out
          have h4 := HCO.out
          rw [if_pos ⟨by omega, by omega⟩, show (y.f0 * 128).toNat = lo by omega, if_neg (by omega)]
        rotate_left
        · simp only [Act.put, List.setIfInBounds_toArray, List.set_cons_zero, List.set_cons_succ, i64_w, i32_w]
          rfl
        refine pure_ (i := 8) (N := some 27) (v := ?_) (a' := ?_) #[true, true, true, true, true, true, true, true, true, false, false] rfl rfl (by kernel_rfl) (fun _ _ _ h => h) (Or.inl ⟨by rfl, ?_⟩) ?_ ?_
        rotate_left
        · intro w'
          go_simp
          with_reducible rfl
        rotate_left
        · simp only [Act.put, List.setIfInBounds_toArray, List.set_cons_zero, List.set_cons_succ, i64_w, i32_w]
          rfl
        refine take_ (i := 9) (N := some 28) (v := ?_) (a' := ?_) #[true, true, true, true, true, true, true, true, true, true, false] rfl rfl (by kernel_rfl) (fun _ _ _ h => h) (Or.inl ⟨by rfl, ?_⟩) hHeld ?_ ?_
        rotate_left
        · rintro w' ⟨s0, s1, s2⟩
          go_simp
          with_reducible rfl
        rotate_left
        · simp only [Act.put, List.setIfInBounds_toArray, List.set_cons_zero, List.set_cons_succ, i64_w, i32_w]
          rfl
        have HI6 := Aside0.mk (Kd.C_below HI.out HZ6.out)
        obtain ⟨hcp, hro, hgr⟩ := run_copy_at (P := Try.prog) (t := 38) (t' := 38) (ty := 3) (lo := lo) (c := c1) Try.underlying38 (by kernel_rfl) HO6.out HI6.out (by have := HQ.out; have := HQ2.out; have := HLO.out; omega) (by have := HQ.out; omega)
        refine one_ (i := 10) (N := some 29) #[true, true, true, true, true, true, true, true, true, true, true] rfl rfl (by kernel_rfl) (by decide) (fun K hK => ?_)
        refine value_ (by rfl) rfl (run_copy_op rfl rfl rfl hcp) ?_
        obtain ⟨w7, hw7⟩ : ∃ w7 : World, w7 = w6.setCells go lo (nums .u8 y.f1) := ⟨_, rfl⟩
        have hgo : P0_ go := HO6.out.1 go rfl
        have hne : go ≠ g := by rintro rfl; exact HN.out hgo
        have hnp : go ≠ gp := by have := Kd.R_ne HO6.out BP6.out (by decide); intro e_; exact this (by rw [e_]; rfl)
        rw [← hw7] at hro hgr ⊢
        have HO7 := Aside0.mk hro
        have HK7 := Aside0.mk (Kept.of_grown (S := P0_) hgr HK6.out (fun k e_ => .inl (by injection e_ with e_; rw [← e_]; exact hgo)))
        have HB7 := Aside0.mk (HB6.out.grown hgr (HB6.out.size) (fun k e_ => by have := own_base (Kd.own_of_R (enc := Value.int .u8) (h1 := fun _ => rfl) HO6.out) k e_; exact this))
        have BK7 := Aside0.mk (show w7.heap[g]? = some (.cells #[.int .i64 a0, .slice (some ⟨go, 0, none⟩) (setB l1 l2 kp n).length co, .slice (some ad) l2.length c2] 47 (0, 0)) from (hgr.block g (blk_lt BK6.out) (fun e_ => hne (by injection e_ with e_; exact e_.symm))).trans BK6.out)
        have BP7 := Aside0.mk (show w7.heap[gp]? = some (.cells #[.int .i64 y.f0, .slice A1 y.f1.length c1] 67 (0, 0)) from (hgr.block gp (blk_lt BP6.out) (fun e_ => hnp (by injection e_ with e_; exact e_.symm))).trans BP6.out)
        refine hK.out _ _ ⟨(blk_cell BK7.out 1).trans rfl, (blk_cell BP7.out 0).trans rfl, (blk_cell BP7.out 1).trans rfl⟩ (fun hHeld => ?_)
        clear hK K hw7 hcp hro hgr
        refine norm_ (a' := ?_) ?_ ?_
        rotate_left
        · show Act.put _ (some 29) _ = _
          simp only [Act.put, List.setIfInBounds_toArray, List.set_cons_zero, List.set_cons_succ, i64_w, i32_w]
          rfl
        refine done_ (by kernel_rfl) ?_
        go_wp2
        go_roundg (l2.length - n)
        case measure => have := HA.out; have := HN1.out; omega
        case rel =>
          have e_ : wrap64 ((n : Int) + 1) = ((n + 1 : Nat) : Int) := (by have := HS.out; have := HN1.out; simp only [maxLen] at *; unfold wrap64; omega)
          refine ⟨n + 1, by first | rw [e_] | (rw [i64_w, e_]), ⟨by have := HA.out; have := HN1.out; omega⟩, ⟨by have := HN1.out; omega⟩, ⟨?_⟩, ⟨?_⟩, ⟨by repeat (first | (with_reducible first | exact HK7.out | apply Kept.alloc | apply Kept.drewN | apply Kept.drew) | exact HK7.out)⟩, ⟨by repeat (first | (with_reducible first | exact HB7.out | apply below_alloc | apply pw_below_drewN | apply below_drew1) | exact HB7.out)⟩⟩
          · (with_reducible repeat (first | apply Kd.R_alloc | apply Kd.R_drewN | apply Kd.R_drew))
            have h7 := HO7.out
            have e2 : setB l1 l2 kp (n + 1) = (setB l1 l2 kp n).take lo ++ y.f1 ++ (setB l1 l2 kp n).drop (lo + y.f1.length) := by
              rw [show setB l1 l2 kp (n + 1) = if kp n then putB (setB l1 l2 kp n) ((rd_T67 l2 (n : Int)).f0 * 128).toNat (rd_T67 l2 (n : Int)).f1 else setB l1 l2 kp n from rfl, if_pos hkp, HYE.out]
              unfold putB
              have := HLO.out
              rw [show (y.f0 * 128).toNat = lo by omega]
            rw [e2]
            exact h7
          · (with_reducible repeat (first | refine blk_drewN ?_ _ | refine blk_drew ?_ | refine blk_alloc ?_ _))
            exact BK7.out
    · have D0 : decide ((n : Int) < (l2.length : Int)) = false := decide_eq_false hn
      have D2 : decide (n < l2.length) = false := decide_eq_false (by omega)
      have D3 := Aside0.mk (show n = l2.length by have := HL.out; omega)
      clear hn
      go_wp2
      refine bodyPost_end (results_none rfl _ _ _) rfl ?_
      have h3 := D3.out
      subst h3
      exact ⟨rfl, blk_put BK.out 2 _ rfl, Kd.R_set HO.out BK.out (by decide) 2 _, below_set HB.out HG.out, Kept.setCell (Kept.mono HK.out (fun _ h => .inl h)) (.inl (.inr rfl)) _⟩

/-! ### impl.Device.write: one more write at the end of the cache -/
def writeC (a0 b : Int) (l : List Int) (l2 : List S67) : Int := if b < 0 ∨ a0 ≤ b then 2 else if (l.length : Int) ≠ 128 then 3 else if (l2.length : Int) ≥ 2048 then 4 else 0
def writeL (a0 b : Int) (l : List Int) (l2 : List S67) : List S67 := if writeC a0 b l l2 = 0 then l2 ++ [⟨b, l⟩] else l2
def impl_write.T7 : Bool × List (List Nat × List Nat) := (true, [([], []), ([], []), ([1], [1]), ([2], [2]), ([3], [3]), ([], []), ([], []), ([6], [6]), ([5, 7], [5, 7]), ([8], [8]), ([4, 9, 7], [4, 9]), ([0, 0, 1, 2, 3, 4, 5, 6, 7, 8, 9, 10], [0]), ([11, 0, 1, 2, 3, 4, 5, 6, 7, 8, 9, 10], [11]), ([12, 10, 10, 0, 1, 2, 3, 4, 5, 6, 7, 8, 9, 10], [10, 12])])
def impl_write.B7 : List Nat := [0, 0, 2, 6, 14, 0, 0, 64, 224, 480, 1022, 2047, 4095, 8191]
theorem impl_write.tab7 : rtab .any (opsOf Try.f87 7) = impl_write.T7 := by kernel_rfl
theorem impl_write.bits7 : waitsOk impl_write.T7.2 impl_write.B7 = true := by kernel_rfl
set_option maxHeartbeats 16000000 in
set_option maxRecDepth 100000 in
theorem impl_write.own (g : Nat) (a0 b : Int) (A : Option Addr) (c : Nat) (l : List Int) (u1 : Value) (l1 : List Int) (v2 : Value) (l2 : List S67) (P_ : Nat → Prop) (w0 w : World) (hB : Below w0.heap.size w0 w)
    (hbox : w.heap[g]? = some (.cells #[.int .i64 a0, u1, v2] 47 (0, 0))) (hg : w0.heap.size ≤ g) (ho : Kd.R (Kd.int .u8) 5 w w0.heap.size (fun _ => True) u1 l1) (hs : Kd.S k67 67 w w0.heap.size (fun k_ => (some k_ ≠ u1.ownBlock ∧ k_ ≠ g) ∧ P_ k_) v2 l2)
    (hP : ∀ k_, w.heap.size ≤ k_ → P_ k_) (hr : Kd.C (Kd.int .u8) w A l.length l) (hc : l.length ≤ c) :
    Calls Try.prog 87 #[.pointer (some ⟨g, 0, none⟩), .int .i64 b, .slice A l.length c] w fun e w' => ∃ v3 : Value, e = .returned (.int .i64 (writeC a0 b l l2)) ∧ w'.heap[g]? = some (.cells #[.int .i64 a0, u1, v3] 47 (0, 0)) ∧ Kd.R (Kd.int .u8) 5 w' w0.heap.size (fun _ => True) u1 l1 ∧ Kd.S k67 67 w' w0.heap.size (fun k_ => (some k_ ≠ u1.ownBlock ∧ k_ ≠ g) ∧ P_ k_) v3 (writeL a0 b l l2) ∧ Below w0.heap.size w0 w' ∧ Kept w w' (fun k_ => some k_ = v2.ownBlock ∨ k_ = g) := by
  have hu47 := Try.underlying47
  have hu67 := Try.underlying67
  have BK := Aside0.mk hbox
  have HG := Aside0.mk hg
  have HO := Aside0.mk ho
  have HS := Aside0.mk hs
  have HR := Aside0.mk hr
  have HP := Aside0.mk hP
  have HC := Aside0.mk hc
  have HB := Aside0.mk hB
  clear hbox hg ho hs hr hc hB hP
  obtain ⟨A2, c2, e2⟩ := Kd.S_slice HS.out
  subst e2
  obtain ⟨A1, c1, e1⟩ := Kd.R_slice HO.out
  subst e1
  have hc0 : w.cell? ⟨g, 0, none⟩ = some (.int .i64 a0) := (blk_cell BK.out 0).trans rfl
  have hc1 : w.cell? ⟨g, 1, none⟩ = some (.slice A1 l1.length c1) := (blk_cell BK.out 1).trans rfl
  have hc2 : w.cell? ⟨g, 2, none⟩ = some (.slice A2 l2.length c2) := (blk_cell BK.out 2).trans rfl
  have hf0 := blk_frozen BK.out 0
  have hf1 := blk_frozen BK.out 1
  have hf2 := blk_frozen BK.out 2
  by_cases h1 : b < 0
  · have EC : writeC a0 b l l2 = 2 := by unfold writeC; rw [if_pos (.inl h1)]
    have d1 : decide (b < 0) = true := decide_eq_true h1
    clear h1
    have eC : writeC a0 b l l2 = 2 := EC
    have eL : writeL a0 b l l2 = l2 := by unfold writeL; rw [eC]; rfl
    rw [eC, eL]
    clear eC eL EC
    go_enter Try.func87, Try.ntmps87
    go_wp2
    refine bodyPost_ret (v := .int .i64 2) (by simp [results, Try.f87, go_sem, *]) rfl ?_
    exact ⟨_, rfl, by (with_reducible repeat (first | refine blk_drewN ?_ _ | refine blk_drew ?_ | refine blk_alloc ?_ _)); exact BK.out, by (with_reducible repeat (first | apply Kd.R_alloc | apply Kd.R_drewN | apply Kd.R_drew)); exact HO.out, by (with_reducible repeat (first | apply Kd.S_alloc | apply Kd.S_drewN | apply Kd.S_drew)); exact HS.out, by repeat (first | (with_reducible first | exact HB.out | apply below_alloc | apply pw_below_drewN | apply below_drew1) | exact HB.out), by repeat (first | (with_reducible first | exact Kept.refl _ _ | apply Kept.alloc | apply Kept.drewN | apply Kept.drew) | exact Kept.refl _ _)⟩
  have d1 : decide (b < 0) = false := decide_eq_false h1
  by_cases h2 : a0 ≤ b
  · have EC : writeC a0 b l l2 = 2 := by unfold writeC; rw [if_pos (.inr h2)]
    have d2 : decide (b ≥ a0) = true := decide_eq_true h2
    have d2b : decide (a0 ≤ b) = true := decide_eq_true h2
    clear h1 h2
    have eC : writeC a0 b l l2 = 2 := EC
    have eL : writeL a0 b l l2 = l2 := by unfold writeL; rw [eC]; rfl
    rw [eC, eL]
    clear eC eL EC
    go_enter Try.func87, Try.ntmps87
    go_wp2
    refine bodyPost_ret (v := .int .i64 2) (by simp [results, Try.f87, go_sem, *]) rfl ?_
    exact ⟨_, rfl, by (with_reducible repeat (first | refine blk_drewN ?_ _ | refine blk_drew ?_ | refine blk_alloc ?_ _)); exact BK.out, by (with_reducible repeat (first | apply Kd.R_alloc | apply Kd.R_drewN | apply Kd.R_drew)); exact HO.out, by (with_reducible repeat (first | apply Kd.S_alloc | apply Kd.S_drewN | apply Kd.S_drew)); exact HS.out, by repeat (first | (with_reducible first | exact HB.out | apply below_alloc | apply pw_below_drewN | apply below_drew1) | exact HB.out), by repeat (first | (with_reducible first | exact Kept.refl _ _ | apply Kept.alloc | apply Kept.drewN | apply Kept.drew) | exact Kept.refl _ _)⟩
  have d2 : decide (b ≥ a0) = false := decide_eq_false h2
  have d2b : decide (a0 ≤ b) = false := decide_eq_false h2
  by_cases h3 : (l.length : Int) = 128
  case neg =>
    have EC : writeC a0 b l l2 = 3 := by unfold writeC; rw [if_neg (by omega), if_pos h3]
    have d3 : decide ((l.length : Int) ≠ 128) = true := decide_eq_true h3
    have d3b : decide ((l.length : Int) = 128) = false := decide_eq_false h3
    have d3c : ((l.length : Int) != 128) = true := by rw [bne_iff_ne]; exact h3
    clear h1 h2 h3
    have eC : writeC a0 b l l2 = 3 := EC
    have eL : writeL a0 b l l2 = l2 := by unfold writeL; rw [eC]; rfl
    rw [eC, eL]
    clear eC eL EC
    go_enter Try.func87, Try.ntmps87
    go_wp2
    refine bodyPost_ret (v := .int .i64 3) (by simp [results, Try.f87, go_sem, *]) rfl ?_
    exact ⟨_, rfl, by (with_reducible repeat (first | refine blk_drewN ?_ _ | refine blk_drew ?_ | refine blk_alloc ?_ _)); exact BK.out, by (with_reducible repeat (first | apply Kd.R_alloc | apply Kd.R_drewN | apply Kd.R_drew)); exact HO.out, by (with_reducible repeat (first | apply Kd.S_alloc | apply Kd.S_drewN | apply Kd.S_drew)); exact HS.out, by repeat (first | (with_reducible first | exact HB.out | apply below_alloc | apply pw_below_drewN | apply below_drew1) | exact HB.out), by repeat (first | (with_reducible first | exact Kept.refl _ _ | apply Kept.alloc | apply Kept.drewN | apply Kept.drew) | exact Kept.refl _ _)⟩
  have d3 : decide ((l.length : Int) ≠ 128) = false := decide_eq_false (by omega)
  have d3b : decide ((l.length : Int) = 128) = true := decide_eq_true h3
  have d3c : ((l.length : Int) != 128) = false := by rw [h3]; rfl
  by_cases h4 : (l2.length : Int) ≥ 2048
  · have EC : writeC a0 b l l2 = 4 := by unfold writeC; rw [if_neg (by omega), if_neg (by omega), if_pos h4]
    have d4 : decide ((l2.length : Int) ≥ 2048) = true := decide_eq_true h4
    have d4b : decide (2048 ≤ (l2.length : Int)) = true := decide_eq_true h4
    have d4c : decide (2048 ≤ l2.length) = true := decide_eq_true (by omega)
    clear h1 h2 h3 h4
    have eC : writeC a0 b l l2 = 4 := EC
    have eL : writeL a0 b l l2 = l2 := by unfold writeL; rw [eC]; rfl
    rw [eC, eL]
    clear eC eL EC
    go_enter Try.func87, Try.ntmps87
    go_wp2
    refine bodyPost_ret (v := .int .i64 4) (by simp [results, Try.f87, go_sem, *]) rfl ?_
    exact ⟨_, rfl, by (with_reducible repeat (first | refine blk_drewN ?_ _ | refine blk_drew ?_ | refine blk_alloc ?_ _)); exact BK.out, by (with_reducible repeat (first | apply Kd.R_alloc | apply Kd.R_drewN | apply Kd.R_drew)); exact HO.out, by (with_reducible repeat (first | apply Kd.S_alloc | apply Kd.S_drewN | apply Kd.S_drew)); exact HS.out, by repeat (first | (with_reducible first | exact HB.out | apply below_alloc | apply pw_below_drewN | apply below_drew1) | exact HB.out), by repeat (first | (with_reducible first | exact Kept.refl _ _ | apply Kept.alloc | apply Kept.drewN | apply Kept.drew) | exact Kept.refl _ _)⟩
  have d4 : decide ((l2.length : Int) ≥ 2048) = false := decide_eq_false h4
  have d4b : decide (2048 ≤ (l2.length : Int)) = false := decide_eq_false (by omega)
  have d4c : decide (2048 ≤ l2.length) = false := decide_eq_false (by omega)
  have EC : writeC a0 b l l2 = 0 := by unfold writeC; rw [if_neg (by omega), if_neg (by omega), if_neg h4]
  have eL : writeL a0 b l l2 = l2 ++ [⟨b, l⟩] := by unfold writeL; rw [EC]; rfl
  rw [EC, eL]
  have HL3 := Aside0.mk h3
  have HL4 := Aside0.mk h4
  clear EC eL h1 h2 h3 h4
  go_enter Try.func87, Try.ntmps87
  try go_wp2
  refine Law.region_world (fun w1 hw1 => ?_)
  obtain ⟨w2, hw2⟩ : ∃ w2 : World, w2 = w1.drew := ⟨_, rfl⟩
  have HO1 := Aside0.mk (show Kd.R (Kd.int .u8) 5 w2 w0.heap.size (fun _ => True) (.slice A1 l1.length c1) l1 by rw [hw2, hw1]; (with_reducible repeat (first | apply Kd.R_alloc | apply Kd.R_drewN | apply Kd.R_drew)); exact HO.out)
  have HS1 := Aside0.mk (show Kd.S k67 67 w2 w0.heap.size (fun k_ => (some k_ ≠ (Value.slice A1 l1.length c1).ownBlock ∧ k_ ≠ g) ∧ P_ k_) (.slice A2 l2.length c2) l2 by rw [hw2, hw1]; (with_reducible repeat (first | apply Kd.S_alloc | apply Kd.S_drewN | apply Kd.S_drew)); exact HS.out)
  have BK1 := Aside0.mk (show w2.heap[g]? = some (.cells #[.int .i64 a0, .slice A1 l1.length c1, .slice A2 l2.length c2] 47 (0, 0)) by rw [hw2, hw1]; (with_reducible repeat (first | refine blk_drewN ?_ _ | refine blk_drew ?_ | refine blk_alloc ?_ _)); exact BK.out)
  have HB1 := Aside0.mk (show Below w0.heap.size w0 w2 by rw [hw2, hw1]; repeat (first | (with_reducible first | exact HB.out | apply below_alloc | apply pw_below_drewN | apply below_drew1) | exact HB.out))
  have HK1 := Aside0.mk (show Kept w w2 (fun k_ => some k_ = (Value.slice A2 l2.length c2).ownBlock ∨ k_ = g) by rw [hw2, hw1]; repeat (first | (with_reducible first | exact Kept.refl _ _ | apply Kept.alloc | apply Kept.drewN | apply Kept.drew) | exact Kept.refl _ _))
  have HZ1 := Aside0.mk (show Below w.heap.size w w2 by rw [hw2, hw1]; repeat (first | (with_reducible first | exact Below.refl _ _ | apply below_alloc | apply pw_below_drewN | apply below_drew1) | exact Below.refl _ _))
  have HR1 := Aside0.mk (Kd.C_below HR.out HZ1.out)
  refine start_ (n := 14) (S := fun w' => w'.cell? ⟨g, 2, none⟩ = some (.slice A2 l2.length c2)) (ds := [13]) #[false, false, false, false, false, false, false, false, false, false, false, false, false, false] (by kernel_rfl) rfl rfl (by rw [← hw2]; exact (blk_cell BK1.out 2).trans rfl) ?_
  rw [← hw2]
  intro hHeld
  clear hw2 hw1 hc0 hc1 hc2 hf0 hf1 hf2 BK HO HS HR HB HZ1
  refine with_tabW impl_write.tab7 impl_write.bits7 (fun HT_ HW_ => ?_)
  refine pure_ (i := 0) (N := some 26) (v := ?_) (a' := ?_) #[true, false, false, false, false, false, false, false, false, false, false, false, false, false] rfl rfl (any_of HT_.out (by kernel_rfl)) (fun _ _ _ h => h) (Or.inl ⟨by rfl, ?_⟩) ?_ ?_
  rotate_left
  · intro w'
    go_simp
    with_reducible rfl
  rotate_left
  · simp only [Act.put, List.setIfInBounds_toArray, List.set_cons_zero, List.set_cons_succ, i64_w, i32_w]
    rfl
  refine pure_ (i := 1) (N := some 27) (v := ?_) (a' := ?_) #[true, true, false, false, false, false, false, false, false, false, false, false, false, false] rfl rfl (any_of HT_.out (by kernel_rfl)) (fun _ _ _ h => h) (Or.inl ⟨by rfl, ?_⟩) ?_ ?_
  rotate_left
  · intro w'
    go_simp
    with_reducible rfl
  rotate_left
  · simp only [Act.put, List.setIfInBounds_toArray, List.set_cons_zero, List.set_cons_succ, i64_w, i32_w]
    rfl
  refine pure_ (i := 2) (N := some 28) (v := ?_) (a' := ?_) #[true, true, true, false, false, false, false, false, false, false, false, false, false, false] rfl rfl (any_of HT_.out (by kernel_rfl)) (fun _ _ _ h => h) (Or.inl ⟨by rfl, ?_⟩) ?_ ?_
  rotate_left
  · intro w'
    go_simp
    with_reducible rfl
  rotate_left
  · simp only [Act.put, List.setIfInBounds_toArray, List.set_cons_zero, List.set_cons_succ, i64_w, i32_w]
    rfl
  refine pure_ (i := 3) (N := some 29) (v := ?_) (a' := ?_) #[true, true, true, true, false, false, false, false, false, false, false, false, false, false] rfl rfl (any_of HT_.out (by kernel_rfl)) (fun _ _ _ h => h) (Or.inl ⟨by rfl, ?_⟩) ?_ ?_
  rotate_left
  · intro w'
    go_simp
    with_reducible rfl
  rotate_left
  · simp only [Act.put, List.setIfInBounds_toArray, List.set_cons_zero, List.set_cons_succ, i64_w, i32_w]
    rfl
  refine pure_ (i := 5) (N := some 31) (v := ?_) (a' := ?_) #[true, true, true, true, false, true, false, false, false, false, false, false, false, false] rfl rfl (any_of HT_.out (by kernel_rfl)) (fun _ _ _ h => h) (Or.inl ⟨by rfl, ?_⟩) ?_ ?_
  rotate_left
  · intro w'
    go_simp
    with_reducible rfl
  rotate_left
  · simp only [Act.put, List.setIfInBounds_toArray, List.set_cons_zero, List.set_cons_succ, i64_w, i32_w]
    rfl
  refine pure_ (i := 6) (N := some 32) (v := ?_) (a' := ?_) #[true, true, true, true, false, true, true, false, false, false, false, false, false, false] rfl rfl (any_of HT_.out (by kernel_rfl)) (fun _ _ _ h => h) (Or.inl ⟨by rfl, ?_⟩) ?_ ?_
  rotate_left
  · intro w'
    go_simp
    with_reducible rfl
  rotate_left
  · simp only [Act.put, List.setIfInBounds_toArray, List.set_cons_zero, List.set_cons_succ, i64_w, i32_w]
    rfl
  refine take_ (i := 4) (N := some 30) (v := ?_) (a' := ?_) #[true, true, true, true, true, true, true, false, false, false, false, false, false, false] rfl rfl (take_ofW HT_.out HW_.out (by kernel_rfl)) (fun _ _ _ h => h) (Or.inl ⟨by rfl, ?_⟩) hHeld ?_ ?_
  rotate_left
  · intro w' s0
    go_simp
    with_reducible rfl
  rotate_left
  · simp only [Act.put, List.setIfInBounds_toArray, List.set_cons_zero, List.set_cons_succ, i64_w, i32_w]
    rfl
  refine one_ (i := 7) (N := some 33) #[true, true, true, true, true, true, true, true, false, false, false, false, false, false] rfl rfl (one_of HT_.out (by kernel_rfl)) (by decide) (fun K hK => ?_)
  obtain ⟨y, hy⟩ : ∃ y : List Int, y = ([] : List Int) ++ l := ⟨_, rfl⟩
  have HY := Aside0.mk hy
  clear hy
  refine Kd.R_append_rows_step (Kd.int .u8) (w0 := w0) w0.heap.size (by rfl) (.const (.slice none 0 0)) (.tmp 32) 38 5 (.int .u8 0) 1 rfl Try.underlying38 info5 rfl (by decide) (by omega) (.slice none 0 0) ([] : List Int) l _ _ _ (fun k_ => (some k_ ≠ (.slice A1 l1.length c1 : Value).ownBlock ∧ k_ ≠ g) ∧ P_ k_) (fun _ => False) rfl rfl ?aO ?aR (fun _ _ h => h) (fun _ h => h.elim) ?aF ?aB ?aS ?aL ?_
  (case aR => exact HR1.out)
  (case aB => exact HB1.out)
  (case aF => exact (fun k_ hk => ⟨⟨Kd.fresh' (Kd.R_lt HO1.out) k_ hk, Kd.freshB BK1.out k_ hk⟩, HP.out k_ (Nat.le_trans HK1.out.1 hk)⟩))
  (case aO => exact (Kd.R_nil _ _ _ _ _))
  (case aS => exact below_size HB1.out)
  (case aL => have := HL3.out; simp only [List.length_nil]; omega)
  intro v3 w3 ho hb hg hat
  rw [← HY.out] at ho
  have HO3 := Aside0.mk (Kd.R_after (Kd.R_apart_nil HO1.out) hg hat)
  have HS3 := Aside0.mk (Kd.S_after (Kd.S_apart_nil HS1.out) hg hat)
  have BK3 := Aside0.mk (blk_grown (g := g) BK1.out hg (by simp [Value.ownBlock]))
  have HB3 := Aside0.mk hb
  have HY3 := Aside0.mk ho
  have HK3 := Aside0.mk (Kept.of_grown (S := (fun k_ => some k_ = (Value.slice A2 l2.length c2).ownBlock ∨ k_ = g)) hg HK1.out (fun k e_ => by cases e_))
  clear HO1 HS1 BK1 HB1 HK1 ho hb hg hat HR1
  obtain ⟨Ay, cy, ey⟩ := Kd.R_slice HY3.out
  (first | subst ey | (injection ey with f1_ f2_ f3_; have f4_ := f1_.symm; have f5_ := f3_.symm; clear f1_ f2_ f3_; subst f4_; subst f5_))
  refine hK.out _ _ ((blk_cell BK3.out 2).trans rfl) (fun hHeld => ?_)
  clear hK K
  refine norm_ (a' := ?_) ?_ ?_
  rotate_left
  · show Act.put _ (some 33) _ = _
    simp only [Act.put, List.setIfInBounds_toArray, List.set_cons_zero, List.set_cons_succ, i64_w, i32_w]
    rfl
  refine pure_ (i := 8) (N := some 34) (v := ?_) (a' := ?_) #[true, true, true, true, true, true, true, true, true, false, false, false, false, false] rfl rfl (any_of HT_.out (by kernel_rfl)) (fun _ _ _ h => h) (Or.inl ⟨by rfl, ?_⟩) ?_ ?_
  rotate_left
  · intro w'
    go_simp
    with_reducible rfl
  rotate_left
  · simp only [Act.put, List.setIfInBounds_toArray, List.set_cons_zero, List.set_cons_succ, i64_w, i32_w]
    rfl
  refine one_ (i := 9) (N := some 35) #[true, true, true, true, true, true, true, true, true, true, false, false, false, false] rfl rfl (one_of HT_.out (by kernel_rfl)) (by decide) (fun K hK => ?_)
  refine value_ (w1 := ?_) (v := ?_) (by rfl) rfl ?_ ?_
  rotate_left 2
  · go_simp
    constructor
    · rfl
    · rfl
  refine hK.out _ _ ((blk_cell (blk_alloc BK3.out _) 2).trans rfl) (fun hHeld => ?_)
  clear hK K
  refine norm_ (a' := ?_) ?_ ?_
  rotate_left
  · show Act.put _ (some 35) _ = _
    simp only [Act.put, List.setIfInBounds_toArray, List.set_cons_zero, List.set_cons_succ, i64_w, i32_w]
    rfl
  refine one_ (i := 10) (N := some 36) #[true, true, true, true, true, true, true, true, true, true, true, false, false, false] rfl rfl (one_of HT_.out (by kernel_rfl)) (by decide) (fun K hK => ?_)
  obtain ⟨z, hz⟩ : ∃ z : List S67, z = l2 ++ [(⟨b, y⟩ : S67)] := ⟨_, rfl⟩
  have HZ := Aside0.mk hz
  clear hz
  refine Kd.S_append_step k67 (w0 := w0) w0.heap.size (by rfl) (.tmp 30) (.tmp 35) 45 67 (.agg #[(.int .i64 0), (.slice none 0 0)]) 32 rfl Try.underlying45 info67 rfl (by decide) (by omega) (.slice A2 l2.length c2) l2 (⟨b, y⟩ : S67) [.int .i64 b, .slice Ay y.length cy] (fun k_ => (some k_ ≠ (.slice A1 l1.length c1 : Value).ownBlock ∧ k_ ≠ g) ∧ P_ k_) (fun k_ => some k_ = (.slice Ay y.length cy : Value).ownBlock) rfl rfl ?aP (fun k_ hk_ => ((Kd.R_mono (ok' := fun k_ => ((fun k_ => (some k_ ≠ (.slice A1 l1.length c1 : Value).ownBlock ∧ k_ ≠ g) ∧ P_ k_) k_) ∧ some k_ ≠ (Value.slice A2 l2.length c2).ownBlock) (Kd.R_apart' (HY3.out) (Kd.S_typed HS3.out) (by decide)) (fun k_ hk => hk))).1 k_ hk_.symm) ?aF ?aO ?aB ?aS ?aL ?_
  (case aP => exact k67_mkM _ _ _ (⟨b, y⟩ : S67) (Kd.R_mono (Kd.R_tight rfl (Kd.R_mono (ok' := fun k_ => ((fun k_ => (some k_ ≠ (.slice A1 l1.length c1 : Value).ownBlock ∧ k_ ≠ g) ∧ P_ k_) k_) ∧ some k_ ≠ (Value.slice A2 l2.length c2).ownBlock) (Kd.R_apart' (HY3.out) (Kd.S_typed HS3.out) (by decide)) (fun k_ hk => hk))) (fun _ h_ => h_)))
  (case aB => exact (by repeat (first | (with_reducible first | exact HB3.out | apply below_alloc | apply pw_below_drewN | apply below_drew1) | exact HB3.out)))
  (case aF => exact (fun k_ hk => ⟨⟨Kd.fresh' (Kd.R_lt (by (with_reducible repeat (first | apply Kd.R_alloc | apply Kd.R_drewN | apply Kd.R_drew)); exact HO3.out)) k_ hk, Kd.freshB (by (with_reducible repeat (first | refine blk_drewN ?_ _ | refine blk_drew ?_ | refine blk_alloc ?_ _)); exact BK3.out) k_ hk⟩, HP.out k_ (Nat.le_trans HK3.out.1 hk)⟩))
  (case aO => exact (by (with_reducible repeat (first | apply Kd.S_alloc | apply Kd.S_drewN | apply Kd.S_drew)); exact Kd.S_mono HS3.out (fun k_ hk => ⟨hk.1, fun e_ => hk.2 e_⟩)))
  (case aS => exact (below_size (by repeat (first | (with_reducible first | exact HB3.out | apply below_alloc | apply pw_below_drewN | apply below_drew1) | exact HB3.out))))
  (case aL => have := HL4.out; omega)
  intro v4 w4 ho hb hg hat
  rw [← HZ.out] at ho
  have HO4 := Aside0.mk (Kd.R_over' (by (with_reducible repeat (first | apply Kd.R_alloc | apply Kd.R_drewN | apply Kd.R_drew)); exact HO3.out) (Kd.S_typed (by (with_reducible repeat (first | apply Kd.S_alloc | apply Kd.S_drewN | apply Kd.S_drew)); exact HS3.out)) (by decide) hg)
  have BK4 := Aside0.mk (blk_grown (g := g) (by (with_reducible repeat (first | refine blk_drewN ?_ _ | refine blk_drew ?_ | refine blk_alloc ?_ _)); exact BK3.out) hg (Kd.S_ne HS3.out BK3.out (by decide)))
  have HB4 := Aside0.mk hb
  have HS4 := Aside0.mk ho
  have HK4 := Aside0.mk (Kept.of_grown (S := (fun k_ => some k_ = (Value.slice A2 l2.length c2).ownBlock ∨ k_ = g)) hg (by (with_reducible repeat (first | apply Kept.alloc | apply Kept.drewN | apply Kept.drew)); exact HK3.out) (fun k e_ => .inl (.inl e_.symm)))
  clear HO3 HS3 BK3 HB3 HK3 ho hb hg hat HY3
  obtain ⟨A4, c4, e4⟩ := Kd.S_slice HS4.out
  (first | subst e4 | (injection e4 with f1_ f2_ f3_; have f4_ := f1_.symm; have f5_ := f3_.symm; clear f1_ f2_ f3_; subst f4_; subst f5_))
  refine hK.out _ _ ((blk_cell BK4.out 2).trans rfl) (fun hHeld => ?_)
  clear hK K
  refine norm_ (a' := ?_) ?_ ?_
  rotate_left
  · show Act.put _ (some 36) _ = _
    simp only [Act.put, List.setIfInBounds_toArray, List.set_cons_zero, List.set_cons_succ, i64_w, i32_w]
    rfl
  refine pure_ (i := 11) (N := some 37) (v := ?_) (a' := ?_) #[true, true, true, true, true, true, true, true, true, true, true, true, false, false] rfl rfl (any_of HT_.out (by kernel_rfl)) (fun _ _ _ h => h) (Or.inl ⟨by rfl, ?_⟩) ?_ ?_
  rotate_left
  · intro w'
    go_simp
    with_reducible rfl
  rotate_left
  · simp only [Act.put, List.setIfInBounds_toArray, List.set_cons_zero, List.set_cons_succ, i64_w, i32_w]
    rfl
  refine pure_ (i := 12) (N := some 38) (v := ?_) (a' := ?_) #[true, true, true, true, true, true, true, true, true, true, true, true, true, false] rfl rfl (any_of HT_.out (by kernel_rfl)) (fun _ _ _ h => h) (Or.inl ⟨by rfl, ?_⟩) ?_ ?_
  rotate_left
  · intro w'
    go_simp
    with_reducible rfl
  rotate_left
  · simp only [Act.put, List.setIfInBounds_toArray, List.set_cons_zero, List.set_cons_succ, i64_w, i32_w]
    rfl
  refine last_ (i := 13) (N := none) #[true, true, true, true, true, true, true, true, true, true, true, true, true, true] rfl rfl (one_of HT_.out (by kernel_rfl)) (by decide) (fun K hK => ?_)
  have hs2 : w4.cell? ⟨g, 2, none⟩ = some (.slice A2 l2.length c2) := (blk_cell BK4.out 2).trans rfl
  have hfs2 := blk_frozen BK4.out 2
  refine skip_ (w1 := ?_) (by rfl) rfl ?_ ?_
  rotate_left
  · go_simp
    rfl
  refine hK.out _ _ ?_
  clear hK K
  refine done_ (done_of HT_.out (by kernel_rfl)) ?_
  try go_wp2
  refine bodyPost_ret (v := .int .i64 0) (by simp [results, Try.f87, go_sem, *]) rfl ?_
  have ez : z = l2 ++ [⟨b, l⟩] := by rw [HZ.out, HY.out, List.nil_append]
  rw [← ez]
  refine ⟨.slice A4 z.length c4, rfl, ?_, ?_, ?_, ?_, ?_⟩
  · (with_reducible repeat (first | refine blk_drewN ?_ _ | refine blk_drew ?_ | refine blk_alloc ?_ _)); exact blk_put (cs := #[.int .i64 a0, .slice A1 l1.length c1, .slice A2 l2.length c2]) BK4.out 2 _ rfl
  · (with_reducible repeat (first | apply Kd.R_alloc | apply Kd.R_drewN | apply Kd.R_drew)); exact Kd.R_mono (Kd.R_far (p := ⟨g, 2, none⟩) (Kd.R_types HO4.out BK4.out (by decide)) (fun _ hk => hk.2) _) (fun _ hk => trivial)
  · (with_reducible repeat (first | apply Kd.S_alloc | apply Kd.S_drewN | apply Kd.S_drew)); exact Kd.S_mono (Kd.S_far (p := ⟨g, 2, none⟩) (Kd.S_types HS4.out BK4.out (by decide)) (fun _ hk => hk.2) _) (fun _ hk => hk.1)
  · repeat (first | (with_reducible first | exact below_set HB4.out HG.out | apply below_alloc | apply pw_below_drewN | apply below_drew1) | exact below_set HB4.out HG.out)
  · repeat (first | (with_reducible first | apply Kept.alloc | apply Kept.drewN | apply Kept.drew) | exact Kept.setCell HK4.out (.inl (.inr rfl)) _)

/-! ### impl.DevApply: the steps one after the other, the first that is refused ends it -/
def applyOne (a : Int) (x1 : List Int) (x2 : List S67) (s : S71) : List Int × List S67 × Int := if s.f0 = 1 then (x1, writeL a s.f1 s.f2 x2, writeC a s.f1 s.f2 x2) else if s.f0 = 2 then (setB x1 x2 (fun _ => true) x2.length, [], 0) else (x1, x2, 5)
def applyF (a : Int) (x1 : List Int) (x2 : List S67) : List S71 → List Int × List S67 × Int
  | [] => (x1, x2, 0)
  | s :: t => if (applyOne a x1 x2 s).2.2 = 0 then applyF a (applyOne a x1 x2 s).1 (applyOne a x1 x2 s).2.1 t else applyOne a x1 x2 s
theorem writeL_fit {a b : Int} {l x1 : List Int} {x2 : List S67} (hf : fitB x1 x2) (hl : (x1.length : Int) = a * 128) : fitB x1 (writeL a b l x2) := by
  unfold writeL
  split
  · rename_i hc
    have hcc : 0 ≤ b ∧ b < a ∧ l.length = 128 := by
      unfold writeC at hc
      split at hc
      · cases hc
      · split at hc
        · cases hc
        · omega
    refine ⟨hf.1, fun n hn => ?_⟩
    simp only [List.length_append, List.length_cons, List.length_nil] at hn
    rcases Nat.lt_or_ge n x2.length with h | h
    · have e : rd_T67 (x2 ++ [⟨b, l⟩]) (n : Int) = rd_T67 x2 (n : Int) := by unfold rd_T67; simp only [List.getD_eq_getElem?_getD, Int.toNat_natCast]; rw [List.getElem?_append_left h]
      rw [e]; exact hf.2 n h
    · obtain rfl : n = x2.length := by omega
      have e : rd_T67 (x2 ++ [⟨b, l⟩]) ((x2.length : Nat) : Int) = ⟨b, l⟩ := by unfold rd_T67; simp
      rw [e]
      exact ⟨hcc.1, hcc.2.2, by show b * 128 + 128 ≤ (x1.length : Int); omega⟩
  · exact hf
theorem apply_step {a : Int} {x1 : List Int} {x2 : List S67} {l : List S71} {n i : Nat} {y : S71} (hi : i < n) (hn : n ≤ l.length) (hy : rd_T71 l (i : Int) = y) :
    applyF a x1 x2 ((l.take n).drop i) = if (applyOne a x1 x2 y).2.2 = 0 then applyF a (applyOne a x1 x2 y).1 (applyOne a x1 x2 y).2.1 ((l.take n).drop (i + 1)) else applyOne a x1 x2 y := by
  have h : i < (l.take n).length := by rw [List.length_take]; omega
  rw [List.drop_eq_getElem_cons h]
  have e : (l.take n)[i] = y := by
    rw [List.getElem_take, ← hy]
    unfold rd_T71
    simp [show i < l.length by omega]
  rw [e]
  rfl
theorem impl_DevApply.keep (i : Nat) (w : World) : Calls Try.prog 93 #[.int .i64 (i : Int)] w fun e w' => e = .returned (.bool true) ∧ Below w.heap.size w w' := by
  go_enter Try.func93, Try.ntmps93
  go_wp2
  go_ret
  exact ⟨rfl, by repeat (first | (with_reducible first | exact Below.refl _ _ | apply below_alloc | apply pw_below_drewN | apply below_drew1) | exact Below.refl _ _)⟩
set_option maxHeartbeats 16000000 in
set_option maxRecDepth 100000 in
theorem impl_DevApply.walk0 (a0_0 : Int) (A0_1 : Option Addr) (c0_1 : Nat) (l0_1 : List Int) (A0_2 : Option Addr) (c0_2 : Nat) (l0_2 : List S67) (A1 : Option Addr) (c1 : Nat) (l1 : List S71) (a2 : Int) (W : World) (hr0_1 : Kd.C (Kd.int .u8) W A0_1 l0_1.length l0_1) (hc0_1 : l0_1.length ≤ c0_1) (hr0_2 : Kd.C k67 W A0_2 l0_2.length l0_2) (hc0_2 : l0_2.length ≤ c0_2) (hr1 : Kd.C k71 W A1 l1.length l1) (hc1 : l1.length ≤ c1) (k : Nat) (E7 : impl_validDevice.f k a0_0 l0_1 l0_2 = some false)  :
    Calls Try.prog 47 #[.agg #[.int .i64 a0_0, .slice A0_1 l0_1.length c0_1, .slice A0_2 l0_2.length c0_2], .slice A1 l1.length c1, .int .i64 a2] W fun e w' => e = .returned (.tuple #[.agg #[.int .i64 0, .slice none 0 0, .slice none 0 0], .int .i64 1]) ∧ Below W.heap.size W w' := by
  have HB := Aside0.mk (Below.refl W.heap.size W)
  have I : Law.Inv [] W := trivial
  have hu47 := Try.underlying47
  replace E7 := Aside0.mk E7
  go_enter Try.func47, Try.ntmps47
  go_wp2_with (first
    | ((with_reducible refine gate_dst (N := 3) rfl ?_)
       refine box_event ?hg (N := 3) ?hd (cs := #[.int .i64 a0_0, .slice A0_1 l0_1.length c0_1, .slice A0_2 l0_2.length c0_2]) (t := 47) ?hr ?_
       (case hd => rfl)
       (case hg => rfl)
       (case hr => first | (go_simp; done) | (go_simp; rfl))
       intro gb1 hg w2 hbox hb
       have I1 := Law.Inv.below (Law.Inv.on I (fun I => by (with_reducible repeat (first | apply Law.Inv.alloc | apply Law.Inv.drewN | apply Law.Inv.drew)); exact I)) hb
       have HB1 := Aside0.mk (below_step (by repeat (first | (with_reducible first | exact HB.out | apply below_alloc | apply pw_below_drewN | apply below_drew1) | exact HB.out)) hb)
       have SZ3 := Aside0.mk (show W.heap.size ≤ gb1 ∧ gb1 + 1 ≤ w2.heap.size from ⟨by rw [hg]; exact (by repeat (first | (with_reducible first | exact HB.out | apply below_alloc | apply pw_below_drewN | apply below_drew1) | exact HB.out) : Below W.heap.size W _).size, blk_lt hbox⟩)
       have I2 := Law.Inv.cons (s := Law.boxI gb1 #[.int .i64 a0_0, .slice A0_1 l0_1.length c0_1, .slice A0_2 l0_2.length c0_2] 47) ⟨hbox, blk_lt hbox⟩ I1
       clear I HB hbox hb hg I1
       have I := I2
       have HB := HB1
       clear I2 HB1
       have hcz_gb1_w2_0 : w2.cell? ⟨gb1, 0, none⟩ = some (.int .i64 a0_0) := (blk_cell (Law.blk_of (I.1.1)) 0).trans rfl
       have hfz_gb1_w2_0 := blk_frozen (Law.blk_of (I.1.1)) 0
       have hcz_gb1_w2_1 : w2.cell? ⟨gb1, 1, none⟩ = some (.slice A0_1 l0_1.length c0_1) := (blk_cell (Law.blk_of (I.1.1)) 1).trans rfl
       have hfz_gb1_w2_1 := blk_frozen (Law.blk_of (I.1.1)) 1
       have hcz_gb1_w2_2 : w2.cell? ⟨gb1, 2, none⟩ = some (.slice A0_2 l0_2.length c0_2) := (blk_cell (Law.blk_of (I.1.1)) 2).trans rfl
       have hfz_gb1_w2_2 := blk_frozen (Law.blk_of (I.1.1)) 2)
    | ((with_reducible refine gate_dst (N := 6) rfl ?_)
       refine box_event ?hg (N := 6) ?hd (cs := #[.int .i64 0, .slice none 0 0, .slice none 0 0]) (t := 47) ?hr ?_
       (case hd => rfl)
       (case hg => rfl)
       (case hr => first | (go_simp; done) | (go_simp; rfl))
       intro gb4 hg w5 hbox hb
       have I1 := Law.Inv.below (Law.Inv.on I (fun I => by (with_reducible repeat (first | apply Law.Inv.alloc | apply Law.Inv.drewN | apply Law.Inv.drew)); exact I)) hb
       have HB1 := Aside0.mk (below_step (by repeat (first | (with_reducible first | exact HB.out | apply below_alloc | apply pw_below_drewN | apply below_drew1) | exact HB.out)) hb)
       have SZ6 := Aside0.mk (show W.heap.size ≤ gb4 ∧ gb1 + 1 ≤ gb4 ∧ gb4 + 1 ≤ w5.heap.size from ⟨by rw [hg]; exact (by repeat (first | (with_reducible first | exact HB.out | apply below_alloc | apply pw_below_drewN | apply below_drew1) | exact HB.out) : Below W.heap.size W _).size, by rw [hg]; exact (Law.Inv.on I (fun I => by (with_reducible repeat (first | apply Law.Inv.alloc | apply Law.Inv.drewN | apply Law.Inv.drew)); exact I)).1.2, blk_lt hbox⟩)
       have I2 := Law.Inv.cons (s := Law.boxI gb4 #[.int .i64 0, .slice none 0 0, .slice none 0 0] 47) ⟨hbox, blk_lt hbox⟩ I1
       clear I HB hbox hb hg I1
       have I := I2
       have HB := HB1
       clear I2 HB1
       have hne_gb4_gb1 : gb4 ≠ gb1 := (by have := SZ3.out; have := SZ6.out; first | omega | (simp only [Law.rowI, Law.rowsI, Law.boxI]; omega))
       have hne_gb1_gb4 : gb1 ≠ gb4 := (by have := SZ3.out; have := SZ6.out; first | omega | (simp only [Law.rowI, Law.rowsI, Law.boxI]; omega))
       have hcz_gb1_w5_0 : w5.cell? ⟨gb1, 0, none⟩ = some (.int .i64 a0_0) := (blk_cell (Law.blk_of (I.2.1.1)) 0).trans rfl
       have hfz_gb1_w5_0 := blk_frozen (Law.blk_of (I.2.1.1)) 0
       have hcz_gb1_w5_1 : w5.cell? ⟨gb1, 1, none⟩ = some (.slice A0_1 l0_1.length c0_1) := (blk_cell (Law.blk_of (I.2.1.1)) 1).trans rfl
       have hfz_gb1_w5_1 := blk_frozen (Law.blk_of (I.2.1.1)) 1
       have hcz_gb1_w5_2 : w5.cell? ⟨gb1, 2, none⟩ = some (.slice A0_2 l0_2.length c0_2) := (blk_cell (Law.blk_of (I.2.1.1)) 2).trans rfl
       have hfz_gb1_w5_2 := blk_frozen (Law.blk_of (I.2.1.1)) 2
       have hcz_gb4_w5_0 : w5.cell? ⟨gb4, 0, none⟩ = some (.int .i64 0) := (blk_cell (Law.blk_of (I.1.1)) 0).trans rfl
       have hfz_gb4_w5_0 := blk_frozen (Law.blk_of (I.1.1)) 0
       have hcz_gb4_w5_1 : w5.cell? ⟨gb4, 1, none⟩ = some (.slice none 0 0) := (blk_cell (Law.blk_of (I.1.1)) 1).trans rfl
       have hfz_gb4_w5_1 := blk_frozen (Law.blk_of (I.1.1)) 1
       have hcz_gb4_w5_2 : w5.cell? ⟨gb4, 2, none⟩ = some (.slice none 0 0) := (blk_cell (Law.blk_of (I.1.1)) 2).trans rfl
       have hfz_gb4_w5_2 := blk_frozen (Law.blk_of (I.1.1)) 2)
    | ((with_reducible refine gate_callee (f := 74) rfl ?_)
       refine goesL_ (some 13) rfl rfl Try.func74 (by kernel_rfl) rfl #[.agg #[.int .i64 a0_0, .slice A0_1 l0_1.length c0_1, .slice A0_2 l0_2.length c0_2]] rfl (by (try simp only [List.map_toArray, List.map_cons, List.map_nil]); first | done | rfl) ?_
       refine Law.at_world (fun w8 hw1 => ?_)
       have I1 := Law.Inv.to I hw1 (fun I => by (with_reducible repeat (first | apply Law.Inv.alloc | apply Law.Inv.drewN | apply Law.Inv.drew)); exact I)
       have HB1 := Aside0.mk (show Below W.heap.size W w8 by rw [hw1]; repeat (first | (with_reducible first | exact HB.out | apply below_alloc | apply pw_below_drewN | apply below_drew1) | exact HB.out))
       clear I HB hw1
       have I := I1
       have HB := HB1
       clear I1 HB1
       refine (impl_validDevice.calls k a0_0 A0_1 c0_1 l0_1 A0_2 c0_2 l0_2 false w8 ?_ ?_ ?_ ?_ E7.out).mono ?_
       · exact Kd.C_below hr0_1 HB.out
       · exact hc0_1
       · exact Kd.C_below hr0_2 HB.out
       · exact hc0_2
       rintro e w9 ⟨rfl, hq0⟩
       refine ⟨_, rfl, ?_⟩
       have I1 := Law.Inv.below I hq0
       have HB1 := Aside0.mk (below_step HB.out hq0)
       have SZ10 := Aside0.mk (show W.heap.size ≤ w8.heap.size ∧ gb4 + 1 ≤ w8.heap.size ∧ w8.heap.size ≤ w9.heap.size from ⟨HB.out.size, I.1.2, hq0.size⟩)
       clear I HB
       have I := I1
       have HB := HB1
       clear I1 HB1
       have hcz_gb1_w9_0 : w9.cell? ⟨gb1, 0, none⟩ = some (.int .i64 a0_0) := (blk_cell (Law.blk_of (I.2.1.1)) 0).trans rfl
       have hfz_gb1_w9_0 := blk_frozen (Law.blk_of (I.2.1.1)) 0
       have hcz_gb1_w9_1 : w9.cell? ⟨gb1, 1, none⟩ = some (.slice A0_1 l0_1.length c0_1) := (blk_cell (Law.blk_of (I.2.1.1)) 1).trans rfl
       have hfz_gb1_w9_1 := blk_frozen (Law.blk_of (I.2.1.1)) 1
       have hcz_gb1_w9_2 : w9.cell? ⟨gb1, 2, none⟩ = some (.slice A0_2 l0_2.length c0_2) := (blk_cell (Law.blk_of (I.2.1.1)) 2).trans rfl
       have hfz_gb1_w9_2 := blk_frozen (Law.blk_of (I.2.1.1)) 2
       have hcz_gb4_w9_0 : w9.cell? ⟨gb4, 0, none⟩ = some (.int .i64 0) := (blk_cell (Law.blk_of (I.1.1)) 0).trans rfl
       have hfz_gb4_w9_0 := blk_frozen (Law.blk_of (I.1.1)) 0
       have hcz_gb4_w9_1 : w9.cell? ⟨gb4, 1, none⟩ = some (.slice none 0 0) := (blk_cell (Law.blk_of (I.1.1)) 1).trans rfl
       have hfz_gb4_w9_1 := blk_frozen (Law.blk_of (I.1.1)) 1
       have hcz_gb4_w9_2 : w9.cell? ⟨gb4, 2, none⟩ = some (.slice none 0 0) := (blk_cell (Law.blk_of (I.1.1)) 2).trans rfl
       have hfz_gb4_w9_2 := blk_frozen (Law.blk_of (I.1.1)) 2))
  try go_wp2
  refine Law.post_world (fun wE hwE => ?_)
  have I1 : Law.Inv [Law.boxI gb4 #[.int .i64 0, .slice none 0 0, .slice none 0 0] 47, Law.boxI gb1 #[.int .i64 a0_0, .slice A0_1 l0_1.length c0_1, .slice A0_2 l0_2.length c0_2] 47] wE := by rw [hwE]; (with_reducible repeat (first | apply Law.Inv.alloc | apply Law.Inv.drewN | apply Law.Inv.drew)); refine Law.Inv.put (cs := #[.int .i64 0, .slice none 0 0, .slice none 0 0]) ?_ (by have := SZ3.out; have := SZ6.out; have := SZ10.out; refine ⟨?_, trivial⟩ <;> simp only [Law.rowI, Law.rowsI, Law.boxI] <;> omega) rfl; (with_reducible repeat (first | apply Law.Inv.alloc | apply Law.Inv.drewN | apply Law.Inv.drew)); refine Law.Inv.put (cs := #[.int .i64 0, .slice none 0 0, .slice none 0 0]) ?_ (by have := SZ3.out; have := SZ6.out; have := SZ10.out; refine ⟨?_, trivial⟩ <;> simp only [Law.rowI, Law.rowsI, Law.boxI] <;> omega) rfl; (with_reducible repeat (first | apply Law.Inv.alloc | apply Law.Inv.drewN | apply Law.Inv.drew)); refine Law.Inv.put (cs := #[.int .i64 0, .slice none 0 0, .slice none 0 0]) ?_ (by have := SZ3.out; have := SZ6.out; have := SZ10.out; refine ⟨?_, trivial⟩ <;> simp only [Law.rowI, Law.rowsI, Law.boxI] <;> omega) rfl; (with_reducible repeat (first | apply Law.Inv.alloc | apply Law.Inv.drewN | apply Law.Inv.drew)); exact I
  have HB1 : Below W.heap.size W wE := by rw [hwE]; repeat (first | (with_reducible first | exact HB.out | apply below_alloc | apply pw_below_drewN | apply below_drew1 | refine below_set ?_ (by have := SZ3.out; have := SZ6.out; have := SZ10.out; first | omega | (simp only [Law.rowI, Law.rowsI, Law.boxI]; omega))) | exact HB.out)
  clear hwE I HB
  have I := I1
  have HB := Aside0.mk HB1
  clear I1 HB1
  have hcz_gb1_wE_0 : wE.cell? ⟨gb1, 0, none⟩ = some (.int .i64 a0_0) := (blk_cell (Law.blk_of (I.2.1.1)) 0).trans rfl
  have hfz_gb1_wE_0 := blk_frozen (Law.blk_of (I.2.1.1)) 0
  have hcz_gb1_wE_1 : wE.cell? ⟨gb1, 1, none⟩ = some (.slice A0_1 l0_1.length c0_1) := (blk_cell (Law.blk_of (I.2.1.1)) 1).trans rfl
  have hfz_gb1_wE_1 := blk_frozen (Law.blk_of (I.2.1.1)) 1
  have hcz_gb1_wE_2 : wE.cell? ⟨gb1, 2, none⟩ = some (.slice A0_2 l0_2.length c0_2) := (blk_cell (Law.blk_of (I.2.1.1)) 2).trans rfl
  have hfz_gb1_wE_2 := blk_frozen (Law.blk_of (I.2.1.1)) 2
  have hcz_gb4_wE_0 : wE.cell? ⟨gb4, 0, none⟩ = some (.int .i64 0) := (blk_cell (Law.blk_of (I.1.1)) 0).trans rfl
  have hfz_gb4_wE_0 := blk_frozen (Law.blk_of (I.1.1)) 0
  have hcz_gb4_wE_1 : wE.cell? ⟨gb4, 1, none⟩ = some (.slice none 0 0) := (blk_cell (Law.blk_of (I.1.1)) 1).trans rfl
  have hfz_gb4_wE_1 := blk_frozen (Law.blk_of (I.1.1)) 1
  have hcz_gb4_wE_2 : wE.cell? ⟨gb4, 2, none⟩ = some (.slice none 0 0) := (blk_cell (Law.blk_of (I.1.1)) 2).trans rfl
  have hfz_gb4_wE_2 := blk_frozen (Law.blk_of (I.1.1)) 2
  refine bodyPost_ret (v := .tuple #[.agg #[.int .i64 0, .slice none 0 0, .slice none 0 0], .int .i64 1]) ?_ rfl ?_
  · simp [results, Try.f47, go_sem, *]
  · exact ⟨rfl, HB.out⟩
set_option maxHeartbeats 16000000 in
set_option maxRecDepth 100000 in
theorem impl_DevApply.walk1 (a0_0 : Int) (A0_1 : Option Addr) (c0_1 : Nat) (l0_1 : List Int) (A0_2 : Option Addr) (c0_2 : Nat) (l0_2 : List S67) (A1 : Option Addr) (c1 : Nat) (l1 : List S71) (a2 : Int) (W : World) (hr0_1 : Kd.C (Kd.int .u8) W A0_1 l0_1.length l0_1) (hc0_1 : l0_1.length ≤ c0_1) (hr0_2 : Kd.C k67 W A0_2 l0_2.length l0_2) (hc0_2 : l0_2.length ≤ c0_2) (hr1 : Kd.C k71 W A1 l1.length l1) (hc1 : l1.length ≤ c1) (k : Nat) (r11 : Int) (r12 : List Int) (r13 : List (S67)) (E7 : impl_validDevice.f k a0_0 l0_1 l0_2 = some true) (E14 : impl_copyDevice.f k a0_0 l0_1 l0_2 = some (r11, r12, r13)) (T : (l1.length : Int) > 4096) :
    Calls Try.prog 47 #[.agg #[.int .i64 a0_0, .slice A0_1 l0_1.length c0_1, .slice A0_2 l0_2.length c0_2], .slice A1 l1.length c1, .int .i64 a2] W fun e w' => ∃ v1_ v2_ : Value, e = .returned (.tuple #[.agg #[.int .i64 r11, v1_, v2_], .int .i64 4]) ∧ Kd.R (Kd.int .u8) 5 w' W.heap.size (fun _ => True) v1_ r12 ∧ Kd.S k67 67 w' W.heap.size (fun k_ => some k_ ≠ (v1_ : Value).ownBlock) v2_ r13 ∧ Below W.heap.size W w' := by
  have HB := Aside0.mk (Below.refl W.heap.size W)
  have I : Law.Inv [] W := trivial
  have D0 : decide ((l1.length : Int) > 4096) = true := decide_eq_true T
  have D1 : decide (4096 < (l1.length : Int)) = true := decide_eq_true T
  clear T
  have hu47 := Try.underlying47
  replace E7 := Aside0.mk E7
  replace E14 := Aside0.mk E14
  go_enter Try.func47, Try.ntmps47
  go_wp2_with (first
    | ((with_reducible refine gate_dst (N := 3) rfl ?_)
       refine box_event ?hg (N := 3) ?hd (cs := #[.int .i64 a0_0, .slice A0_1 l0_1.length c0_1, .slice A0_2 l0_2.length c0_2]) (t := 47) ?hr ?_
       (case hd => rfl)
       (case hg => rfl)
       (case hr => first | (go_simp; done) | (go_simp; rfl))
       intro gb1 hg w2 hbox hb
       have I1 := Law.Inv.below (Law.Inv.on I (fun I => by (with_reducible repeat (first | apply Law.Inv.alloc | apply Law.Inv.drewN | apply Law.Inv.drew)); exact I)) hb
       have HB1 := Aside0.mk (below_step (by repeat (first | (with_reducible first | exact HB.out | apply below_alloc | apply pw_below_drewN | apply below_drew1) | exact HB.out)) hb)
       have SZ3 := Aside0.mk (show W.heap.size ≤ gb1 ∧ gb1 + 1 ≤ w2.heap.size from ⟨by rw [hg]; exact (by repeat (first | (with_reducible first | exact HB.out | apply below_alloc | apply pw_below_drewN | apply below_drew1) | exact HB.out) : Below W.heap.size W _).size, blk_lt hbox⟩)
       have I2 := Law.Inv.cons (s := Law.boxI gb1 #[.int .i64 a0_0, .slice A0_1 l0_1.length c0_1, .slice A0_2 l0_2.length c0_2] 47) ⟨hbox, blk_lt hbox⟩ I1
       clear I HB hbox hb hg I1
       have I := I2
       have HB := HB1
       clear I2 HB1
       have hcz_gb1_w2_0 : w2.cell? ⟨gb1, 0, none⟩ = some (.int .i64 a0_0) := (blk_cell (Law.blk_of (I.1.1)) 0).trans rfl
       have hfz_gb1_w2_0 := blk_frozen (Law.blk_of (I.1.1)) 0
       have hcz_gb1_w2_1 : w2.cell? ⟨gb1, 1, none⟩ = some (.slice A0_1 l0_1.length c0_1) := (blk_cell (Law.blk_of (I.1.1)) 1).trans rfl
       have hfz_gb1_w2_1 := blk_frozen (Law.blk_of (I.1.1)) 1
       have hcz_gb1_w2_2 : w2.cell? ⟨gb1, 2, none⟩ = some (.slice A0_2 l0_2.length c0_2) := (blk_cell (Law.blk_of (I.1.1)) 2).trans rfl
       have hfz_gb1_w2_2 := blk_frozen (Law.blk_of (I.1.1)) 2)
    | ((with_reducible refine gate_dst (N := 6) rfl ?_)
       refine box_event ?hg (N := 6) ?hd (cs := #[.int .i64 0, .slice none 0 0, .slice none 0 0]) (t := 47) ?hr ?_
       (case hd => rfl)
       (case hg => rfl)
       (case hr => first | (go_simp; done) | (go_simp; rfl))
       intro gb4 hg w5 hbox hb
       have I1 := Law.Inv.below (Law.Inv.on I (fun I => by (with_reducible repeat (first | apply Law.Inv.alloc | apply Law.Inv.drewN | apply Law.Inv.drew)); exact I)) hb
       have HB1 := Aside0.mk (below_step (by repeat (first | (with_reducible first | exact HB.out | apply below_alloc | apply pw_below_drewN | apply below_drew1) | exact HB.out)) hb)
       have SZ6 := Aside0.mk (show W.heap.size ≤ gb4 ∧ gb1 + 1 ≤ gb4 ∧ gb4 + 1 ≤ w5.heap.size from ⟨by rw [hg]; exact (by repeat (first | (with_reducible first | exact HB.out | apply below_alloc | apply pw_below_drewN | apply below_drew1) | exact HB.out) : Below W.heap.size W _).size, by rw [hg]; exact (Law.Inv.on I (fun I => by (with_reducible repeat (first | apply Law.Inv.alloc | apply Law.Inv.drewN | apply Law.Inv.drew)); exact I)).1.2, blk_lt hbox⟩)
       have I2 := Law.Inv.cons (s := Law.boxI gb4 #[.int .i64 0, .slice none 0 0, .slice none 0 0] 47) ⟨hbox, blk_lt hbox⟩ I1
       clear I HB hbox hb hg I1
       have I := I2
       have HB := HB1
       clear I2 HB1
       have hne_gb4_gb1 : gb4 ≠ gb1 := (by have := SZ3.out; have := SZ6.out; first | omega | (simp only [Law.rowI, Law.rowsI, Law.boxI]; omega))
       have hne_gb1_gb4 : gb1 ≠ gb4 := (by have := SZ3.out; have := SZ6.out; first | omega | (simp only [Law.rowI, Law.rowsI, Law.boxI]; omega))
       have hcz_gb1_w5_0 : w5.cell? ⟨gb1, 0, none⟩ = some (.int .i64 a0_0) := (blk_cell (Law.blk_of (I.2.1.1)) 0).trans rfl
       have hfz_gb1_w5_0 := blk_frozen (Law.blk_of (I.2.1.1)) 0
       have hcz_gb1_w5_1 : w5.cell? ⟨gb1, 1, none⟩ = some (.slice A0_1 l0_1.length c0_1) := (blk_cell (Law.blk_of (I.2.1.1)) 1).trans rfl
       have hfz_gb1_w5_1 := blk_frozen (Law.blk_of (I.2.1.1)) 1
       have hcz_gb1_w5_2 : w5.cell? ⟨gb1, 2, none⟩ = some (.slice A0_2 l0_2.length c0_2) := (blk_cell (Law.blk_of (I.2.1.1)) 2).trans rfl
       have hfz_gb1_w5_2 := blk_frozen (Law.blk_of (I.2.1.1)) 2
       have hcz_gb4_w5_0 : w5.cell? ⟨gb4, 0, none⟩ = some (.int .i64 0) := (blk_cell (Law.blk_of (I.1.1)) 0).trans rfl
       have hfz_gb4_w5_0 := blk_frozen (Law.blk_of (I.1.1)) 0
       have hcz_gb4_w5_1 : w5.cell? ⟨gb4, 1, none⟩ = some (.slice none 0 0) := (blk_cell (Law.blk_of (I.1.1)) 1).trans rfl
       have hfz_gb4_w5_1 := blk_frozen (Law.blk_of (I.1.1)) 1
       have hcz_gb4_w5_2 : w5.cell? ⟨gb4, 2, none⟩ = some (.slice none 0 0) := (blk_cell (Law.blk_of (I.1.1)) 2).trans rfl
       have hfz_gb4_w5_2 := blk_frozen (Law.blk_of (I.1.1)) 2)
    | ((with_reducible refine gate_callee (f := 74) rfl ?_)
       refine goesL_ (some 13) rfl rfl Try.func74 (by kernel_rfl) rfl #[.agg #[.int .i64 a0_0, .slice A0_1 l0_1.length c0_1, .slice A0_2 l0_2.length c0_2]] rfl (by (try simp only [List.map_toArray, List.map_cons, List.map_nil]); first | done | rfl) ?_
       refine Law.at_world (fun w8 hw1 => ?_)
       have I1 := Law.Inv.to I hw1 (fun I => by (with_reducible repeat (first | apply Law.Inv.alloc | apply Law.Inv.drewN | apply Law.Inv.drew)); exact I)
       have HB1 := Aside0.mk (show Below W.heap.size W w8 by rw [hw1]; repeat (first | (with_reducible first | exact HB.out | apply below_alloc | apply pw_below_drewN | apply below_drew1) | exact HB.out))
       clear I HB hw1
       have I := I1
       have HB := HB1
       clear I1 HB1
       refine (impl_validDevice.calls k a0_0 A0_1 c0_1 l0_1 A0_2 c0_2 l0_2 true w8 ?_ ?_ ?_ ?_ E7.out).mono ?_
       · exact Kd.C_below hr0_1 HB.out
       · exact hc0_1
       · exact Kd.C_below hr0_2 HB.out
       · exact hc0_2
       rintro e w9 ⟨rfl, hq0⟩
       refine ⟨_, rfl, ?_⟩
       have I1 := Law.Inv.below I hq0
       have HB1 := Aside0.mk (below_step HB.out hq0)
       have SZ10 := Aside0.mk (show W.heap.size ≤ w8.heap.size ∧ gb4 + 1 ≤ w8.heap.size ∧ w8.heap.size ≤ w9.heap.size from ⟨HB.out.size, I.1.2, hq0.size⟩)
       clear I HB
       have I := I1
       have HB := HB1
       clear I1 HB1
       have hcz_gb1_w9_0 : w9.cell? ⟨gb1, 0, none⟩ = some (.int .i64 a0_0) := (blk_cell (Law.blk_of (I.2.1.1)) 0).trans rfl
       have hfz_gb1_w9_0 := blk_frozen (Law.blk_of (I.2.1.1)) 0
       have hcz_gb1_w9_1 : w9.cell? ⟨gb1, 1, none⟩ = some (.slice A0_1 l0_1.length c0_1) := (blk_cell (Law.blk_of (I.2.1.1)) 1).trans rfl
       have hfz_gb1_w9_1 := blk_frozen (Law.blk_of (I.2.1.1)) 1
       have hcz_gb1_w9_2 : w9.cell? ⟨gb1, 2, none⟩ = some (.slice A0_2 l0_2.length c0_2) := (blk_cell (Law.blk_of (I.2.1.1)) 2).trans rfl
       have hfz_gb1_w9_2 := blk_frozen (Law.blk_of (I.2.1.1)) 2
       have hcz_gb4_w9_0 : w9.cell? ⟨gb4, 0, none⟩ = some (.int .i64 0) := (blk_cell (Law.blk_of (I.1.1)) 0).trans rfl
       have hfz_gb4_w9_0 := blk_frozen (Law.blk_of (I.1.1)) 0
       have hcz_gb4_w9_1 : w9.cell? ⟨gb4, 1, none⟩ = some (.slice none 0 0) := (blk_cell (Law.blk_of (I.1.1)) 1).trans rfl
       have hfz_gb4_w9_1 := blk_frozen (Law.blk_of (I.1.1)) 1
       have hcz_gb4_w9_2 : w9.cell? ⟨gb4, 2, none⟩ = some (.slice none 0 0) := (blk_cell (Law.blk_of (I.1.1)) 2).trans rfl
       have hfz_gb4_w9_2 := blk_frozen (Law.blk_of (I.1.1)) 2)
    | ((with_reducible refine gate_callee (f := 81) rfl ?_)
       refine goesL_ (some 17) rfl rfl Try.func81 (by kernel_rfl) rfl #[.agg #[.int .i64 a0_0, .slice A0_1 l0_1.length c0_1, .slice A0_2 l0_2.length c0_2]] rfl (by (try simp only [List.map_toArray, List.map_cons, List.map_nil]); first | done | rfl) ?_
       refine Law.at_world (fun w15 hw1 => ?_)
       have I1 := Law.Inv.to I hw1 (fun I => by (with_reducible repeat (first | apply Law.Inv.alloc | apply Law.Inv.drewN | apply Law.Inv.drew)); exact I)
       have HB1 := Aside0.mk (show Below W.heap.size W w15 by rw [hw1]; repeat (first | (with_reducible first | exact HB.out | apply below_alloc | apply pw_below_drewN | apply below_drew1) | exact HB.out))
       clear I HB hw1
       have I := I1
       have HB := HB1
       clear I1 HB1
       refine (impl_copyDevice.calls k a0_0 A0_1 c0_1 l0_1 A0_2 c0_2 l0_2 r11 r12 r13 w15 ?_ ?_ ?_ ?_ E14.out).mono ?_
       · exact Kd.C_below hr0_1 HB.out
       · exact hc0_1
       · exact Kd.C_below hr0_2 HB.out
       · exact hc0_2
       rintro e w16 ⟨v17, v18, rfl, hq0, hq1, hq2⟩
       refine ⟨_, rfl, ?_⟩
       obtain ⟨Ao19, co20, eo21⟩ := Kd.R_slice hq0
       subst eo21
       obtain ⟨Ao22, co23, eo24⟩ := Kd.S_slice hq1
       subst eo24
       have I1 := Law.Inv.below I hq2
       have HB1 := Aside0.mk (below_step HB.out hq2)
       have SZ25 := Aside0.mk (show W.heap.size ≤ w15.heap.size ∧ gb4 + 1 ≤ w15.heap.size ∧ w15.heap.size ≤ w16.heap.size from ⟨HB.out.size, I.1.2, hq2.size⟩)
       have I1 := Law.Inv.cons (s := Law.rowI (Kd.int .u8) 5 w15.heap.size w15.heap.size w16.heap.size (fun _ => True) (.slice Ao19 r12.length co20) r12) (Law.rowI_new hq0 (fun _ h => h)) I1
       have I1 := Law.Inv.cons (s := Law.rowsI k67 67 w15.heap.size w15.heap.size w16.heap.size (fun k_ => some k_ ≠ (.slice Ao19 r12.length co20 : Value).ownBlock) (.slice Ao22 r13.length co23) r13) (Law.rowsI_new hq1 (fun _ h => h)) I1
       clear I HB
       have I := I1
       have HB := HB1
       clear I1 HB1
       have hcz_gb1_w16_0 : w16.cell? ⟨gb1, 0, none⟩ = some (.int .i64 a0_0) := (blk_cell (Law.blk_of (I.2.2.2.1.1)) 0).trans rfl
       have hfz_gb1_w16_0 := blk_frozen (Law.blk_of (I.2.2.2.1.1)) 0
       have hcz_gb1_w16_1 : w16.cell? ⟨gb1, 1, none⟩ = some (.slice A0_1 l0_1.length c0_1) := (blk_cell (Law.blk_of (I.2.2.2.1.1)) 1).trans rfl
       have hfz_gb1_w16_1 := blk_frozen (Law.blk_of (I.2.2.2.1.1)) 1
       have hcz_gb1_w16_2 : w16.cell? ⟨gb1, 2, none⟩ = some (.slice A0_2 l0_2.length c0_2) := (blk_cell (Law.blk_of (I.2.2.2.1.1)) 2).trans rfl
       have hfz_gb1_w16_2 := blk_frozen (Law.blk_of (I.2.2.2.1.1)) 2
       have hcz_gb4_w16_0 : w16.cell? ⟨gb4, 0, none⟩ = some (.int .i64 0) := (blk_cell (Law.blk_of (I.2.2.1.1)) 0).trans rfl
       have hfz_gb4_w16_0 := blk_frozen (Law.blk_of (I.2.2.1.1)) 0
       have hcz_gb4_w16_1 : w16.cell? ⟨gb4, 1, none⟩ = some (.slice none 0 0) := (blk_cell (Law.blk_of (I.2.2.1.1)) 1).trans rfl
       have hfz_gb4_w16_1 := blk_frozen (Law.blk_of (I.2.2.1.1)) 1
       have hcz_gb4_w16_2 : w16.cell? ⟨gb4, 2, none⟩ = some (.slice none 0 0) := (blk_cell (Law.blk_of (I.2.2.1.1)) 2).trans rfl
       have hfz_gb4_w16_2 := blk_frozen (Law.blk_of (I.2.2.1.1)) 2)
    | ((with_reducible refine gate_dst (N := 8) rfl ?_)
       refine box_event ?hg (N := 8) ?hd (cs := #[.int .i64 0, .slice none 0 0, .slice none 0 0]) (t := 47) ?hr ?_
       (case hd => rfl)
       (case hg => rfl)
       (case hr => first | (go_simp; done) | (go_simp; rfl))
       intro gb26 hg w27 hbox hb
       have I1 := Law.Inv.below (Law.Inv.on I (fun I => by (with_reducible repeat (first | apply Law.Inv.alloc | apply Law.Inv.drewN | apply Law.Inv.drew)); exact I)) hb
       have HB1 := Aside0.mk (below_step (by repeat (first | (with_reducible first | exact HB.out | apply below_alloc | apply pw_below_drewN | apply below_drew1) | exact HB.out)) hb)
       have SZ28 := Aside0.mk (show W.heap.size ≤ gb26 ∧ w16.heap.size ≤ gb26 ∧ gb26 + 1 ≤ w27.heap.size from ⟨by rw [hg]; exact (by repeat (first | (with_reducible first | exact HB.out | apply below_alloc | apply pw_below_drewN | apply below_drew1) | exact HB.out) : Below W.heap.size W _).size, by rw [hg]; exact (Law.Inv.on I (fun I => by (with_reducible repeat (first | apply Law.Inv.alloc | apply Law.Inv.drewN | apply Law.Inv.drew)); exact I)).1.2, blk_lt hbox⟩)
       have I2 := Law.Inv.cons (s := Law.boxI gb26 #[.int .i64 0, .slice none 0 0, .slice none 0 0] 47) ⟨hbox, blk_lt hbox⟩ I1
       clear I HB hbox hb hg I1
       have I := I2
       have HB := HB1
       clear I2 HB1
       have hne_gb26_gb1 : gb26 ≠ gb1 := (by have := SZ3.out; have := SZ6.out; have := SZ10.out; have := SZ25.out; have := SZ28.out; first | omega | (simp only [Law.rowI, Law.rowsI, Law.boxI]; omega))
       have hne_gb1_gb26 : gb1 ≠ gb26 := (by have := SZ3.out; have := SZ6.out; have := SZ10.out; have := SZ25.out; have := SZ28.out; first | omega | (simp only [Law.rowI, Law.rowsI, Law.boxI]; omega))
       have hne_gb26_gb4 : gb26 ≠ gb4 := (by have := SZ3.out; have := SZ6.out; have := SZ10.out; have := SZ25.out; have := SZ28.out; first | omega | (simp only [Law.rowI, Law.rowsI, Law.boxI]; omega))
       have hne_gb4_gb26 : gb4 ≠ gb26 := (by have := SZ3.out; have := SZ6.out; have := SZ10.out; have := SZ25.out; have := SZ28.out; first | omega | (simp only [Law.rowI, Law.rowsI, Law.boxI]; omega))
       have hcz_gb1_w27_0 : w27.cell? ⟨gb1, 0, none⟩ = some (.int .i64 a0_0) := (blk_cell (Law.blk_of (I.2.2.2.2.1.1)) 0).trans rfl
       have hfz_gb1_w27_0 := blk_frozen (Law.blk_of (I.2.2.2.2.1.1)) 0
       have hcz_gb1_w27_1 : w27.cell? ⟨gb1, 1, none⟩ = some (.slice A0_1 l0_1.length c0_1) := (blk_cell (Law.blk_of (I.2.2.2.2.1.1)) 1).trans rfl
       have hfz_gb1_w27_1 := blk_frozen (Law.blk_of (I.2.2.2.2.1.1)) 1
       have hcz_gb1_w27_2 : w27.cell? ⟨gb1, 2, none⟩ = some (.slice A0_2 l0_2.length c0_2) := (blk_cell (Law.blk_of (I.2.2.2.2.1.1)) 2).trans rfl
       have hfz_gb1_w27_2 := blk_frozen (Law.blk_of (I.2.2.2.2.1.1)) 2
       have hcz_gb4_w27_0 : w27.cell? ⟨gb4, 0, none⟩ = some (.int .i64 0) := (blk_cell (Law.blk_of (I.2.2.2.1.1)) 0).trans rfl
       have hfz_gb4_w27_0 := blk_frozen (Law.blk_of (I.2.2.2.1.1)) 0
       have hcz_gb4_w27_1 : w27.cell? ⟨gb4, 1, none⟩ = some (.slice none 0 0) := (blk_cell (Law.blk_of (I.2.2.2.1.1)) 1).trans rfl
       have hfz_gb4_w27_1 := blk_frozen (Law.blk_of (I.2.2.2.1.1)) 1
       have hcz_gb4_w27_2 : w27.cell? ⟨gb4, 2, none⟩ = some (.slice none 0 0) := (blk_cell (Law.blk_of (I.2.2.2.1.1)) 2).trans rfl
       have hfz_gb4_w27_2 := blk_frozen (Law.blk_of (I.2.2.2.1.1)) 2
       have hcz_gb26_w27_0 : w27.cell? ⟨gb26, 0, none⟩ = some (.int .i64 0) := (blk_cell (Law.blk_of (I.1.1)) 0).trans rfl
       have hfz_gb26_w27_0 := blk_frozen (Law.blk_of (I.1.1)) 0
       have hcz_gb26_w27_1 : w27.cell? ⟨gb26, 1, none⟩ = some (.slice none 0 0) := (blk_cell (Law.blk_of (I.1.1)) 1).trans rfl
       have hfz_gb26_w27_1 := blk_frozen (Law.blk_of (I.1.1)) 1
       have hcz_gb26_w27_2 : w27.cell? ⟨gb26, 2, none⟩ = some (.slice none 0 0) := (blk_cell (Law.blk_of (I.1.1)) 2).trans rfl
       have hfz_gb26_w27_2 := blk_frozen (Law.blk_of (I.1.1)) 2))
  refine Law.post_world (fun wE hwE => ?_)
  have hne : gb4 ≠ gb26 := (by have := SZ3.out; have := SZ6.out; have := SZ10.out; have := SZ25.out; have := SZ28.out; first | omega | (simp only [Law.rowI, Law.rowsI, Law.boxI]; omega))
  have HGR := Aside0.mk (show W.heap.size ≤ gb4 from (by have := SZ3.out; have := SZ6.out; have := SZ10.out; have := SZ25.out; have := SZ28.out; first | omega | (simp only [Law.rowI, Law.rowsI, Law.boxI]; omega)))
  have HG := Aside0.mk (show W.heap.size ≤ gb26 from (by have := SZ3.out; have := SZ6.out; have := SZ10.out; have := SZ25.out; have := SZ28.out; first | omega | (simp only [Law.rowI, Law.rowsI, Law.boxI]; omega)))
  have BR0 := Aside0.mk I.2.2.2.1.1
  have BG0 := Aside0.mk I.1.1
  have HR0 := Aside0.mk (show Kd.R (Kd.int .u8) 5 w27 W.heap.size (fun _ => True) (.slice Ao19 r12.length co20) r12 from Kd.R_lower (Kd.R_mono (I.2.2.1.1) (fun _ _ => trivial)) (by have := SZ3.out; have := SZ6.out; have := SZ10.out; have := SZ25.out; have := SZ28.out; first | omega | (simp only [Law.rowI, Law.rowsI, Law.boxI]; omega)))
  have HS0 := Aside0.mk (show Kd.S k67 67 w27 W.heap.size (fun k_ => some k_ ≠ ((.slice Ao19 r12.length co20) : Value).ownBlock) (.slice Ao22 r13.length co23) r13 from Kd.S_lower (Kd.S_mono (I.2.1.1) (fun k_ hk_ => hk_.2)) (by have := SZ3.out; have := SZ6.out; have := SZ10.out; have := SZ25.out; have := SZ28.out; first | omega | (simp only [Law.rowI, Law.rowsI, Law.boxI]; omega)))
  clear I
  have BE : wE.heap[gb4]? = some (.cells #[.int .i64 r11, (.slice Ao19 r12.length co20), (.slice Ao22 r13.length co23)] 47 (0, 0)) := by
    rw [hwE]
    (with_reducible repeat (first | refine blk_drewN ?_ _ | refine blk_drew ?_ | refine blk_alloc ?_ _))
    refine blk_put (cs := #[.int .i64 r11, (.slice Ao19 r12.length co20), .slice none 0 0]) ?_ 2 _ rfl
    (with_reducible repeat (first | refine blk_drewN ?_ _ | refine blk_drew ?_ | refine blk_alloc ?_ _))
    refine blk_put (cs := #[.int .i64 r11, .slice none 0 0, .slice none 0 0]) ?_ 1 _ rfl
    (with_reducible repeat (first | refine blk_drewN ?_ _ | refine blk_drew ?_ | refine blk_alloc ?_ _))
    refine blk_put (cs := #[.int .i64 0, .slice none 0 0, .slice none 0 0]) ?_ 0 _ rfl
    exact (by (with_reducible repeat (first | refine blk_drewN ?_ _ | refine blk_drew ?_ | refine blk_alloc ?_ _)); refine blk_far ?_ hne _; (with_reducible repeat (first | refine blk_drewN ?_ _ | refine blk_drew ?_ | refine blk_alloc ?_ _)); refine blk_far ?_ hne _; (with_reducible repeat (first | refine blk_drewN ?_ _ | refine blk_drew ?_ | refine blk_alloc ?_ _)); refine blk_far ?_ hne _; (with_reducible repeat (first | refine blk_drewN ?_ _ | refine blk_drew ?_ | refine blk_alloc ?_ _)); exact BR0.out)
  have HOE : Kd.R (Kd.int .u8) 5 wE W.heap.size (fun _ => True) (.slice Ao19 r12.length co20) r12 := by
    rw [hwE]
    (with_reducible repeat (first | apply Kd.R_alloc | apply Kd.R_drewN | apply Kd.R_drew))
    refine Kd.R_mono (Kd.R_far (p := ⟨gb4, 2, none⟩) (Kd.R_far (p := ⟨gb4, 1, none⟩) (Kd.R_far (p := ⟨gb4, 0, none⟩) (Kd.R_types (ok := fun _ => True) (cells := #[.int .i64 0, .slice none 0 0, .slice none 0 0]) (t := 47) ?_ (by (with_reducible repeat (first | refine blk_drewN ?_ _ | refine blk_drew ?_ | refine blk_alloc ?_ _)); refine blk_far ?_ hne _; (with_reducible repeat (first | refine blk_drewN ?_ _ | refine blk_drew ?_ | refine blk_alloc ?_ _)); refine blk_far ?_ hne _; (with_reducible repeat (first | refine blk_drewN ?_ _ | refine blk_drew ?_ | refine blk_alloc ?_ _)); refine blk_far ?_ hne _; (with_reducible repeat (first | refine blk_drewN ?_ _ | refine blk_drew ?_ | refine blk_alloc ?_ _)); exact BR0.out) (by decide)) (fun _ hk => hk.2) _) (fun _ hk => hk.2) _) (fun _ hk => hk.2) _) (fun _ _ => trivial)
    (with_reducible repeat (first | apply Kd.R_alloc | apply Kd.R_drewN | apply Kd.R_drew))
    exact Kd.R_mono (Kd.R_far (p := ⟨gb26, 2, none⟩) (Kd.R_far (p := ⟨gb26, 1, none⟩) (Kd.R_far (p := ⟨gb26, 0, none⟩) (Kd.R_types (Law.rg HR0.out) (by (with_reducible repeat (first | refine blk_drewN ?_ _ | refine blk_drew ?_ | refine blk_alloc ?_ _)); exact BG0.out) (by decide)) (fun _ hk => hk.2) _) (fun _ hk => hk.2) _) (fun _ hk => hk.2) _) (fun _ _ => trivial)
  have HSE : Kd.S k67 67 wE W.heap.size (fun k_ => some k_ ≠ ((.slice Ao19 r12.length co20) : Value).ownBlock) (.slice Ao22 r13.length co23) r13 := by
    rw [hwE]
    (with_reducible repeat (first | apply Kd.S_alloc | apply Kd.S_drewN | apply Kd.S_drew))
    refine Kd.S_mono (Kd.S_far (p := ⟨gb4, 2, none⟩) (Kd.S_far (p := ⟨gb4, 1, none⟩) (Kd.S_far (p := ⟨gb4, 0, none⟩) (Kd.S_types (ok := fun k_ => some k_ ≠ ((.slice Ao19 r12.length co20) : Value).ownBlock) (cells := #[.int .i64 0, .slice none 0 0, .slice none 0 0]) (t := 47) ?_ (by (with_reducible repeat (first | refine blk_drewN ?_ _ | refine blk_drew ?_ | refine blk_alloc ?_ _)); refine blk_far ?_ hne _; (with_reducible repeat (first | refine blk_drewN ?_ _ | refine blk_drew ?_ | refine blk_alloc ?_ _)); refine blk_far ?_ hne _; (with_reducible repeat (first | refine blk_drewN ?_ _ | refine blk_drew ?_ | refine blk_alloc ?_ _)); refine blk_far ?_ hne _; (with_reducible repeat (first | refine blk_drewN ?_ _ | refine blk_drew ?_ | refine blk_alloc ?_ _)); exact BR0.out) (by decide)) (fun _ hk => hk.2) _) (fun _ hk => hk.2) _) (fun _ hk => hk.2) _) (fun _ hk => hk.1)
    (with_reducible repeat (first | apply Kd.S_alloc | apply Kd.S_drewN | apply Kd.S_drew))
    exact Kd.S_mono (Kd.S_far (p := ⟨gb26, 2, none⟩) (Kd.S_far (p := ⟨gb26, 1, none⟩) (Kd.S_far (p := ⟨gb26, 0, none⟩) (Kd.S_types (Law.sg HS0.out) (by (with_reducible repeat (first | refine blk_drewN ?_ _ | refine blk_drew ?_ | refine blk_alloc ?_ _)); exact BG0.out) (by decide)) (fun _ hk => hk.2) _) (fun _ hk => hk.2) _) (fun _ hk => hk.2) _) (fun _ hk => hk.1)
  have HBE : Below W.heap.size W wE := by rw [hwE]; repeat (first | (with_reducible first | exact HB.out | apply below_alloc | apply pw_below_drewN | apply below_drew1 | refine below_set ?_ HGR.out | refine below_set ?_ HG.out) | exact HB.out)
  have BEA := Aside0.mk BE
  clear hwE BE
  have hz0 : wE.cell? ⟨gb4, 0, none⟩ = some (.int .i64 r11) := (blk_cell BEA.out 0).trans rfl; have hzf0 := blk_frozen BEA.out 0; have hz1 : wE.cell? ⟨gb4, 1, none⟩ = some ((.slice Ao19 r12.length co20)) := (blk_cell BEA.out 1).trans rfl; have hzf1 := blk_frozen BEA.out 1; have hz2 : wE.cell? ⟨gb4, 2, none⟩ = some ((.slice Ao22 r13.length co23)) := (blk_cell BEA.out 2).trans rfl; have hzf2 := blk_frozen BEA.out 2
  refine bodyPost_ret (v := .tuple #[.agg #[.int .i64 r11, (.slice Ao19 r12.length co20), (.slice Ao22 r13.length co23)], .int .i64 4]) ?_ rfl ?_
  · simp [results, Try.f47, go_sem, *]
  · exact ⟨_, _, rfl, HOE, HSE, HBE⟩

set_option maxHeartbeats 16000000 in
set_option maxRecDepth 100000 in
theorem impl_DevApply.walk2 (a0_0 : Int) (A0_1 : Option Addr) (c0_1 : Nat) (l0_1 : List Int) (A0_2 : Option Addr) (c0_2 : Nat) (l0_2 : List S67) (A1 : Option Addr) (c1 : Nat) (l1 : List S71) (a2 : Int) (W : World) (hr0_1 : Kd.C (Kd.int .u8) W A0_1 l0_1.length l0_1) (hc0_1 : l0_1.length ≤ c0_1) (hr0_2 : Kd.C k67 W A0_2 l0_2.length l0_2) (hc0_2 : l0_2.length ≤ c0_2) (hr1 : Kd.C k71 W A1 l1.length l1) (hc1 : l1.length ≤ c1) (k : Nat) (r11 : Int) (r12 : List Int) (r13 : List (S67)) (E7 : impl_validDevice.f k a0_0 l0_1 l0_2 = some true) (E14 : impl_copyDevice.f k a0_0 l0_1 l0_2 = some (r11, r12, r13)) (T : ¬ (l1.length : Int) > 4096) (EF : fitB r12 r13) (n : Nat) (EN : (n : Int) = min (max a2 0) (l1.length : Int)) (q1 : List Int) (q2 : List S67) (q3 : Int) (EA : applyF r11 r12 r13 (l1.take n) = (q1, q2, q3)) (EL : (r12.length : Int) = r11 * 128) :
    Calls Try.prog 47 #[.agg #[.int .i64 a0_0, .slice A0_1 l0_1.length c0_1, .slice A0_2 l0_2.length c0_2], .slice A1 l1.length c1, .int .i64 a2] W fun e w' => ∃ v1_ v2_ : Value, e = .returned (.tuple #[.agg #[.int .i64 r11, v1_, v2_], .int .i64 q3]) ∧ Kd.R (Kd.int .u8) 5 w' W.heap.size (fun _ => True) v1_ q1 ∧ Kd.S k67 67 w' W.heap.size (fun k_ => some k_ ≠ (v1_ : Value).ownBlock) v2_ q2 ∧ Below W.heap.size W w' := by
  have HB := Aside0.mk (Below.refl W.heap.size W)
  have I : Law.Inv [] W := trivial
  have D0 : decide ((l1.length : Int) > 4096) = false := decide_eq_false T
  have D1 : decide (4096 < (l1.length : Int)) = false := decide_eq_false T
  have HT := Aside0.mk T
  have HEF := Aside0.mk EF
  have HEN := Aside0.mk EN
  obtain ⟨m0, hm0⟩ : ∃ m0 : Int, (if a2 < 0 then 0 else a2) = m0 := ⟨_, rfl⟩
  have hmin : (if (l1.length : Int) < m0 then (l1.length : Int) else m0) = (n : Int) := by split <;> omega
  have hnl : n ≤ l1.length := by omega
  have hnc : n ≤ c1 := by omega
  have hnc2 : (n : Int) ≤ (c1 : Int) := by omega
  have hn0 : 0 ≤ (n : Int) := by omega
  have HNL := Aside0.mk hnl
  have HR1 := Aside0.mk hr1
  have HEA := Aside0.mk EA
  have HEL := Aside0.mk EL
  clear T EF EN EA EL

  have hu47 := Try.underlying47
  replace E7 := Aside0.mk E7
  replace E14 := Aside0.mk E14
  go_enter Try.func47, Try.ntmps47
  go_wp2_with (first
    | ((with_reducible refine gate_dst (N := 3) rfl ?_)
       refine box_event ?hg (N := 3) ?hd (cs := #[.int .i64 a0_0, .slice A0_1 l0_1.length c0_1, .slice A0_2 l0_2.length c0_2]) (t := 47) ?hr ?_
       (case hd => rfl)
       (case hg => rfl)
       (case hr => first | (go_simp; done) | (go_simp; rfl))
       intro gb1 hg w2 hbox hb
       have I1 := Law.Inv.below (Law.Inv.on I (fun I => by (with_reducible repeat (first | apply Law.Inv.alloc | apply Law.Inv.drewN | apply Law.Inv.drew)); exact I)) hb
       have HB1 := Aside0.mk (below_step (by repeat (first | (with_reducible first | exact HB.out | apply below_alloc | apply pw_below_drewN | apply below_drew1) | exact HB.out)) hb)
       have SZ3 := Aside0.mk (show W.heap.size ≤ gb1 ∧ gb1 + 1 ≤ w2.heap.size from ⟨by rw [hg]; exact (by repeat (first | (with_reducible first | exact HB.out | apply below_alloc | apply pw_below_drewN | apply below_drew1) | exact HB.out) : Below W.heap.size W _).size, blk_lt hbox⟩)
       have I2 := Law.Inv.cons (s := Law.boxI gb1 #[.int .i64 a0_0, .slice A0_1 l0_1.length c0_1, .slice A0_2 l0_2.length c0_2] 47) ⟨hbox, blk_lt hbox⟩ I1
       clear I HB hbox hb hg I1
       have I := I2
       have HB := HB1
       clear I2 HB1
       have hcz_gb1_w2_0 : w2.cell? ⟨gb1, 0, none⟩ = some (.int .i64 a0_0) := (blk_cell (Law.blk_of (I.1.1)) 0).trans rfl
       have hfz_gb1_w2_0 := blk_frozen (Law.blk_of (I.1.1)) 0
       have hcz_gb1_w2_1 : w2.cell? ⟨gb1, 1, none⟩ = some (.slice A0_1 l0_1.length c0_1) := (blk_cell (Law.blk_of (I.1.1)) 1).trans rfl
       have hfz_gb1_w2_1 := blk_frozen (Law.blk_of (I.1.1)) 1
       have hcz_gb1_w2_2 : w2.cell? ⟨gb1, 2, none⟩ = some (.slice A0_2 l0_2.length c0_2) := (blk_cell (Law.blk_of (I.1.1)) 2).trans rfl
       have hfz_gb1_w2_2 := blk_frozen (Law.blk_of (I.1.1)) 2)
    | ((with_reducible refine gate_dst (N := 6) rfl ?_)
       refine box_event ?hg (N := 6) ?hd (cs := #[.int .i64 0, .slice none 0 0, .slice none 0 0]) (t := 47) ?hr ?_
       (case hd => rfl)
       (case hg => rfl)
       (case hr => first | (go_simp; done) | (go_simp; rfl))
       intro gb4 hg w5 hbox hb
       have I1 := Law.Inv.below (Law.Inv.on I (fun I => by (with_reducible repeat (first | apply Law.Inv.alloc | apply Law.Inv.drewN | apply Law.Inv.drew)); exact I)) hb
       have HB1 := Aside0.mk (below_step (by repeat (first | (with_reducible first | exact HB.out | apply below_alloc | apply pw_below_drewN | apply below_drew1) | exact HB.out)) hb)
       have SZ6 := Aside0.mk (show W.heap.size ≤ gb4 ∧ gb1 + 1 ≤ gb4 ∧ gb4 + 1 ≤ w5.heap.size from ⟨by rw [hg]; exact (by repeat (first | (with_reducible first | exact HB.out | apply below_alloc | apply pw_below_drewN | apply below_drew1) | exact HB.out) : Below W.heap.size W _).size, by rw [hg]; exact (Law.Inv.on I (fun I => by (with_reducible repeat (first | apply Law.Inv.alloc | apply Law.Inv.drewN | apply Law.Inv.drew)); exact I)).1.2, blk_lt hbox⟩)
       have I2 := Law.Inv.cons (s := Law.boxI gb4 #[.int .i64 0, .slice none 0 0, .slice none 0 0] 47) ⟨hbox, blk_lt hbox⟩ I1
       clear I HB hbox hb hg I1
       have I := I2
       have HB := HB1
       clear I2 HB1
       have hne_gb4_gb1 : gb4 ≠ gb1 := (by have := SZ3.out; have := SZ6.out; first | omega | (simp only [Law.rowI, Law.rowsI, Law.boxI]; omega))
       have hne_gb1_gb4 : gb1 ≠ gb4 := (by have := SZ3.out; have := SZ6.out; first | omega | (simp only [Law.rowI, Law.rowsI, Law.boxI]; omega))
       have hcz_gb1_w5_0 : w5.cell? ⟨gb1, 0, none⟩ = some (.int .i64 a0_0) := (blk_cell (Law.blk_of (I.2.1.1)) 0).trans rfl
       have hfz_gb1_w5_0 := blk_frozen (Law.blk_of (I.2.1.1)) 0
       have hcz_gb1_w5_1 : w5.cell? ⟨gb1, 1, none⟩ = some (.slice A0_1 l0_1.length c0_1) := (blk_cell (Law.blk_of (I.2.1.1)) 1).trans rfl
       have hfz_gb1_w5_1 := blk_frozen (Law.blk_of (I.2.1.1)) 1
       have hcz_gb1_w5_2 : w5.cell? ⟨gb1, 2, none⟩ = some (.slice A0_2 l0_2.length c0_2) := (blk_cell (Law.blk_of (I.2.1.1)) 2).trans rfl
       have hfz_gb1_w5_2 := blk_frozen (Law.blk_of (I.2.1.1)) 2
       have hcz_gb4_w5_0 : w5.cell? ⟨gb4, 0, none⟩ = some (.int .i64 0) := (blk_cell (Law.blk_of (I.1.1)) 0).trans rfl
       have hfz_gb4_w5_0 := blk_frozen (Law.blk_of (I.1.1)) 0
       have hcz_gb4_w5_1 : w5.cell? ⟨gb4, 1, none⟩ = some (.slice none 0 0) := (blk_cell (Law.blk_of (I.1.1)) 1).trans rfl
       have hfz_gb4_w5_1 := blk_frozen (Law.blk_of (I.1.1)) 1
       have hcz_gb4_w5_2 : w5.cell? ⟨gb4, 2, none⟩ = some (.slice none 0 0) := (blk_cell (Law.blk_of (I.1.1)) 2).trans rfl
       have hfz_gb4_w5_2 := blk_frozen (Law.blk_of (I.1.1)) 2)
    | ((with_reducible refine gate_callee (f := 74) rfl ?_)
       refine goesL_ (some 13) rfl rfl Try.func74 (by kernel_rfl) rfl #[.agg #[.int .i64 a0_0, .slice A0_1 l0_1.length c0_1, .slice A0_2 l0_2.length c0_2]] rfl (by (try simp only [List.map_toArray, List.map_cons, List.map_nil]); first | done | rfl) ?_
       refine Law.at_world (fun w8 hw1 => ?_)
       have I1 := Law.Inv.to I hw1 (fun I => by (with_reducible repeat (first | apply Law.Inv.alloc | apply Law.Inv.drewN | apply Law.Inv.drew)); exact I)
       have HB1 := Aside0.mk (show Below W.heap.size W w8 by rw [hw1]; repeat (first | (with_reducible first | exact HB.out | apply below_alloc | apply pw_below_drewN | apply below_drew1) | exact HB.out))
       clear I HB hw1
       have I := I1
       have HB := HB1
       clear I1 HB1
       refine (impl_validDevice.calls k a0_0 A0_1 c0_1 l0_1 A0_2 c0_2 l0_2 true w8 ?_ ?_ ?_ ?_ E7.out).mono ?_
       · exact Kd.C_below hr0_1 HB.out
       · exact hc0_1
       · exact Kd.C_below hr0_2 HB.out
       · exact hc0_2
       rintro e w9 ⟨rfl, hq0⟩
       refine ⟨_, rfl, ?_⟩
       have I1 := Law.Inv.below I hq0
       have HB1 := Aside0.mk (below_step HB.out hq0)
       have SZ10 := Aside0.mk (show W.heap.size ≤ w8.heap.size ∧ gb4 + 1 ≤ w8.heap.size ∧ w8.heap.size ≤ w9.heap.size from ⟨HB.out.size, I.1.2, hq0.size⟩)
       clear I HB
       have I := I1
       have HB := HB1
       clear I1 HB1
       have hcz_gb1_w9_0 : w9.cell? ⟨gb1, 0, none⟩ = some (.int .i64 a0_0) := (blk_cell (Law.blk_of (I.2.1.1)) 0).trans rfl
       have hfz_gb1_w9_0 := blk_frozen (Law.blk_of (I.2.1.1)) 0
       have hcz_gb1_w9_1 : w9.cell? ⟨gb1, 1, none⟩ = some (.slice A0_1 l0_1.length c0_1) := (blk_cell (Law.blk_of (I.2.1.1)) 1).trans rfl
       have hfz_gb1_w9_1 := blk_frozen (Law.blk_of (I.2.1.1)) 1
       have hcz_gb1_w9_2 : w9.cell? ⟨gb1, 2, none⟩ = some (.slice A0_2 l0_2.length c0_2) := (blk_cell (Law.blk_of (I.2.1.1)) 2).trans rfl
       have hfz_gb1_w9_2 := blk_frozen (Law.blk_of (I.2.1.1)) 2
       have hcz_gb4_w9_0 : w9.cell? ⟨gb4, 0, none⟩ = some (.int .i64 0) := (blk_cell (Law.blk_of (I.1.1)) 0).trans rfl
       have hfz_gb4_w9_0 := blk_frozen (Law.blk_of (I.1.1)) 0
       have hcz_gb4_w9_1 : w9.cell? ⟨gb4, 1, none⟩ = some (.slice none 0 0) := (blk_cell (Law.blk_of (I.1.1)) 1).trans rfl
       have hfz_gb4_w9_1 := blk_frozen (Law.blk_of (I.1.1)) 1
       have hcz_gb4_w9_2 : w9.cell? ⟨gb4, 2, none⟩ = some (.slice none 0 0) := (blk_cell (Law.blk_of (I.1.1)) 2).trans rfl
       have hfz_gb4_w9_2 := blk_frozen (Law.blk_of (I.1.1)) 2)
    | ((with_reducible refine gate_callee (f := 81) rfl ?_)
       refine goesL_ (some 17) rfl rfl Try.func81 (by kernel_rfl) rfl #[.agg #[.int .i64 a0_0, .slice A0_1 l0_1.length c0_1, .slice A0_2 l0_2.length c0_2]] rfl (by (try simp only [List.map_toArray, List.map_cons, List.map_nil]); first | done | rfl) ?_
       refine Law.at_world (fun w15 hw1 => ?_)
       have I1 := Law.Inv.to I hw1 (fun I => by (with_reducible repeat (first | apply Law.Inv.alloc | apply Law.Inv.drewN | apply Law.Inv.drew)); exact I)
       have HB1 := Aside0.mk (show Below W.heap.size W w15 by rw [hw1]; repeat (first | (with_reducible first | exact HB.out | apply below_alloc | apply pw_below_drewN | apply below_drew1) | exact HB.out))
       clear I HB hw1
       have I := I1
       have HB := HB1
       clear I1 HB1
       refine (impl_copyDevice.calls k a0_0 A0_1 c0_1 l0_1 A0_2 c0_2 l0_2 r11 r12 r13 w15 ?_ ?_ ?_ ?_ E14.out).mono ?_
       · exact Kd.C_below hr0_1 HB.out
       · exact hc0_1
       · exact Kd.C_below hr0_2 HB.out
       · exact hc0_2
       rintro e w16 ⟨v17, v18, rfl, hq0, hq1, hq2⟩
       refine ⟨_, rfl, ?_⟩
       obtain ⟨Ao19, co20, eo21⟩ := Kd.R_slice hq0
       subst eo21
       obtain ⟨Ao22, co23, eo24⟩ := Kd.S_slice hq1
       subst eo24
       have I1 := Law.Inv.below I hq2
       have HB1 := Aside0.mk (below_step HB.out hq2)
       have SZ25 := Aside0.mk (show W.heap.size ≤ w15.heap.size ∧ gb4 + 1 ≤ w15.heap.size ∧ w15.heap.size ≤ w16.heap.size from ⟨HB.out.size, I.1.2, hq2.size⟩)
       have I1 := Law.Inv.cons (s := Law.rowI (Kd.int .u8) 5 w15.heap.size w15.heap.size w16.heap.size (fun _ => True) (.slice Ao19 r12.length co20) r12) (Law.rowI_new hq0 (fun _ h => h)) I1
       have I1 := Law.Inv.cons (s := Law.rowsI k67 67 w15.heap.size w15.heap.size w16.heap.size (fun k_ => some k_ ≠ (.slice Ao19 r12.length co20 : Value).ownBlock) (.slice Ao22 r13.length co23) r13) (Law.rowsI_new hq1 (fun _ h => h)) I1
       clear I HB
       have I := I1
       have HB := HB1
       clear I1 HB1
       have hcz_gb1_w16_0 : w16.cell? ⟨gb1, 0, none⟩ = some (.int .i64 a0_0) := (blk_cell (Law.blk_of (I.2.2.2.1.1)) 0).trans rfl
       have hfz_gb1_w16_0 := blk_frozen (Law.blk_of (I.2.2.2.1.1)) 0
       have hcz_gb1_w16_1 : w16.cell? ⟨gb1, 1, none⟩ = some (.slice A0_1 l0_1.length c0_1) := (blk_cell (Law.blk_of (I.2.2.2.1.1)) 1).trans rfl
       have hfz_gb1_w16_1 := blk_frozen (Law.blk_of (I.2.2.2.1.1)) 1
       have hcz_gb1_w16_2 : w16.cell? ⟨gb1, 2, none⟩ = some (.slice A0_2 l0_2.length c0_2) := (blk_cell (Law.blk_of (I.2.2.2.1.1)) 2).trans rfl
       have hfz_gb1_w16_2 := blk_frozen (Law.blk_of (I.2.2.2.1.1)) 2
       have hcz_gb4_w16_0 : w16.cell? ⟨gb4, 0, none⟩ = some (.int .i64 0) := (blk_cell (Law.blk_of (I.2.2.1.1)) 0).trans rfl
       have hfz_gb4_w16_0 := blk_frozen (Law.blk_of (I.2.2.1.1)) 0
       have hcz_gb4_w16_1 : w16.cell? ⟨gb4, 1, none⟩ = some (.slice none 0 0) := (blk_cell (Law.blk_of (I.2.2.1.1)) 1).trans rfl
       have hfz_gb4_w16_1 := blk_frozen (Law.blk_of (I.2.2.1.1)) 1
       have hcz_gb4_w16_2 : w16.cell? ⟨gb4, 2, none⟩ = some (.slice none 0 0) := (blk_cell (Law.blk_of (I.2.2.1.1)) 2).trans rfl
       have hfz_gb4_w16_2 := blk_frozen (Law.blk_of (I.2.2.1.1)) 2)
    | ((with_reducible refine gate_dst (N := 8) rfl ?_)
       refine box_event ?hg (N := 8) ?hd (cs := #[.int .i64 0, .slice none 0 0, .slice none 0 0]) (t := 47) ?hr ?_
       (case hd => rfl)
       (case hg => rfl)
       (case hr => first | (go_simp; done) | (go_simp; rfl))
       intro gb26 hg w27 hbox hb
       have I1 := Law.Inv.below (Law.Inv.on I (fun I => by (with_reducible repeat (first | apply Law.Inv.alloc | apply Law.Inv.drewN | apply Law.Inv.drew)); exact I)) hb
       have HB1 := Aside0.mk (below_step (by repeat (first | (with_reducible first | exact HB.out | apply below_alloc | apply pw_below_drewN | apply below_drew1) | exact HB.out)) hb)
       have SZ28 := Aside0.mk (show W.heap.size ≤ gb26 ∧ w16.heap.size ≤ gb26 ∧ gb26 + 1 ≤ w27.heap.size from ⟨by rw [hg]; exact (by repeat (first | (with_reducible first | exact HB.out | apply below_alloc | apply pw_below_drewN | apply below_drew1) | exact HB.out) : Below W.heap.size W _).size, by rw [hg]; exact (Law.Inv.on I (fun I => by (with_reducible repeat (first | apply Law.Inv.alloc | apply Law.Inv.drewN | apply Law.Inv.drew)); exact I)).1.2, blk_lt hbox⟩)
       have I2 := Law.Inv.cons (s := Law.boxI gb26 #[.int .i64 0, .slice none 0 0, .slice none 0 0] 47) ⟨hbox, blk_lt hbox⟩ I1
       clear I HB hbox hb hg I1
       have I := I2
       have HB := HB1
       clear I2 HB1
       have hne_gb26_gb1 : gb26 ≠ gb1 := (by have := SZ3.out; have := SZ6.out; have := SZ10.out; have := SZ25.out; have := SZ28.out; first | omega | (simp only [Law.rowI, Law.rowsI, Law.boxI]; omega))
       have hne_gb1_gb26 : gb1 ≠ gb26 := (by have := SZ3.out; have := SZ6.out; have := SZ10.out; have := SZ25.out; have := SZ28.out; first | omega | (simp only [Law.rowI, Law.rowsI, Law.boxI]; omega))
       have hne_gb26_gb4 : gb26 ≠ gb4 := (by have := SZ3.out; have := SZ6.out; have := SZ10.out; have := SZ25.out; have := SZ28.out; first | omega | (simp only [Law.rowI, Law.rowsI, Law.boxI]; omega))
       have hne_gb4_gb26 : gb4 ≠ gb26 := (by have := SZ3.out; have := SZ6.out; have := SZ10.out; have := SZ25.out; have := SZ28.out; first | omega | (simp only [Law.rowI, Law.rowsI, Law.boxI]; omega))
       have hcz_gb1_w27_0 : w27.cell? ⟨gb1, 0, none⟩ = some (.int .i64 a0_0) := (blk_cell (Law.blk_of (I.2.2.2.2.1.1)) 0).trans rfl
       have hfz_gb1_w27_0 := blk_frozen (Law.blk_of (I.2.2.2.2.1.1)) 0
       have hcz_gb1_w27_1 : w27.cell? ⟨gb1, 1, none⟩ = some (.slice A0_1 l0_1.length c0_1) := (blk_cell (Law.blk_of (I.2.2.2.2.1.1)) 1).trans rfl
       have hfz_gb1_w27_1 := blk_frozen (Law.blk_of (I.2.2.2.2.1.1)) 1
       have hcz_gb1_w27_2 : w27.cell? ⟨gb1, 2, none⟩ = some (.slice A0_2 l0_2.length c0_2) := (blk_cell (Law.blk_of (I.2.2.2.2.1.1)) 2).trans rfl
       have hfz_gb1_w27_2 := blk_frozen (Law.blk_of (I.2.2.2.2.1.1)) 2
       have hcz_gb4_w27_0 : w27.cell? ⟨gb4, 0, none⟩ = some (.int .i64 0) := (blk_cell (Law.blk_of (I.2.2.2.1.1)) 0).trans rfl
       have hfz_gb4_w27_0 := blk_frozen (Law.blk_of (I.2.2.2.1.1)) 0
       have hcz_gb4_w27_1 : w27.cell? ⟨gb4, 1, none⟩ = some (.slice none 0 0) := (blk_cell (Law.blk_of (I.2.2.2.1.1)) 1).trans rfl
       have hfz_gb4_w27_1 := blk_frozen (Law.blk_of (I.2.2.2.1.1)) 1
       have hcz_gb4_w27_2 : w27.cell? ⟨gb4, 2, none⟩ = some (.slice none 0 0) := (blk_cell (Law.blk_of (I.2.2.2.1.1)) 2).trans rfl
       have hfz_gb4_w27_2 := blk_frozen (Law.blk_of (I.2.2.2.1.1)) 2
       have hcz_gb26_w27_0 : w27.cell? ⟨gb26, 0, none⟩ = some (.int .i64 0) := (blk_cell (Law.blk_of (I.1.1)) 0).trans rfl
       have hfz_gb26_w27_0 := blk_frozen (Law.blk_of (I.1.1)) 0
       have hcz_gb26_w27_1 : w27.cell? ⟨gb26, 1, none⟩ = some (.slice none 0 0) := (blk_cell (Law.blk_of (I.1.1)) 1).trans rfl
       have hfz_gb26_w27_1 := blk_frozen (Law.blk_of (I.1.1)) 1
       have hcz_gb26_w27_2 : w27.cell? ⟨gb26, 2, none⟩ = some (.slice none 0 0) := (blk_cell (Law.blk_of (I.1.1)) 2).trans rfl
       have hfz_gb26_w27_2 := blk_frozen (Law.blk_of (I.1.1)) 2))
  refine Law.region_world (fun wL hwL => ?_)
  have I1 : Law.Inv [Law.boxI gb26 #[.int .i64 r11, .slice Ao19 r12.length co20, .slice Ao22 r13.length co23] 47, Law.rowsI k67 67 w15.heap.size w15.heap.size w16.heap.size (fun k_ => some k_ ≠ (.slice Ao19 r12.length co20 : Value).ownBlock) (.slice Ao22 r13.length co23) r13, Law.rowI (Kd.int .u8) 5 w15.heap.size w15.heap.size w16.heap.size (fun _ => True) (.slice Ao19 r12.length co20) r12, Law.boxI gb4 #[.int .i64 0, .slice none 0 0, .slice none 0 0] 47, Law.boxI gb1 #[.int .i64 a0_0, .slice A0_1 l0_1.length c0_1, .slice A0_2 l0_2.length c0_2] 47] wL := by rw [hwL]; (with_reducible repeat (first | apply Law.Inv.alloc | apply Law.Inv.drewN | apply Law.Inv.drew)); refine Law.Inv.put (cs := #[.int .i64 r11, .slice Ao19 r12.length co20, .slice none 0 0]) ?_ (by have := SZ3.out; have := SZ6.out; have := SZ10.out; have := SZ25.out; have := SZ28.out; refine ⟨?_, ?_, ?_, ?_, trivial⟩ <;> simp only [Law.rowI, Law.rowsI, Law.boxI] <;> omega) rfl; (with_reducible repeat (first | apply Law.Inv.alloc | apply Law.Inv.drewN | apply Law.Inv.drew)); refine Law.Inv.put (cs := #[.int .i64 r11, .slice none 0 0, .slice none 0 0]) ?_ (by have := SZ3.out; have := SZ6.out; have := SZ10.out; have := SZ25.out; have := SZ28.out; refine ⟨?_, ?_, ?_, ?_, trivial⟩ <;> simp only [Law.rowI, Law.rowsI, Law.boxI] <;> omega) rfl; (with_reducible repeat (first | apply Law.Inv.alloc | apply Law.Inv.drewN | apply Law.Inv.drew)); refine Law.Inv.put (cs := #[.int .i64 0, .slice none 0 0, .slice none 0 0]) ?_ (by have := SZ3.out; have := SZ6.out; have := SZ10.out; have := SZ25.out; have := SZ28.out; refine ⟨?_, ?_, ?_, ?_, trivial⟩ <;> simp only [Law.rowI, Law.rowsI, Law.boxI] <;> omega) rfl; (with_reducible repeat (first | apply Law.Inv.alloc | apply Law.Inv.drewN | apply Law.Inv.drew)); exact I
  have HB1 := Aside0.mk (show Below W.heap.size W wL by rw [hwL]; repeat (first | (with_reducible first | exact HB.out | apply below_alloc | apply pw_below_drewN | apply below_drew1 | refine below_set ?_ (by have := SZ3.out; have := SZ6.out; have := SZ10.out; have := SZ25.out; have := SZ28.out; first | omega | (simp only [Law.rowI, Law.rowsI, Law.boxI]; omega))) | exact HB.out))
  have HO := Aside0.mk (show Kd.R (Kd.int .u8) 5 wL W.heap.size (fun _ => True) (.slice Ao19 r12.length co20) r12 from Kd.R_lower (Kd.R_mono (I1.2.2.1.1) (fun _ _ => trivial)) (by have := SZ3.out; have := SZ6.out; have := SZ10.out; have := SZ25.out; have := SZ28.out; first | omega | (simp only [Law.rowI, Law.rowsI, Law.boxI]; omega)))
  have HS := Aside0.mk (show Kd.S k67 67 wL W.heap.size (fun k_ => (some k_ ≠ (.slice Ao19 r12.length co20 : Value).ownBlock ∧ k_ ≠ gb26) ∧ True) (.slice Ao22 r13.length co23) r13 from Kd.S_lower (Kd.S_mono (I1.2.1.1) (fun k_ hk_ => ⟨⟨hk_.2, fun e_ => by have z_ := hk_.1; rw [e_] at z_; have := SZ3.out; have := SZ6.out; have := SZ10.out; have := SZ25.out; have := SZ28.out; omega⟩, trivial⟩)) (by have := SZ3.out; have := SZ6.out; have := SZ10.out; have := SZ25.out; have := SZ28.out; first | omega | (simp only [Law.rowI, Law.rowsI, Law.boxI]; omega)))
  have BK := Aside0.mk (show wL.heap[gb26]? = some (.cells #[.int .i64 r11, .slice Ao19 r12.length co20, .slice Ao22 r13.length co23] 47 (0, 0)) from I1.1.1)
  have BR := Aside0.mk (show wL.heap[gb4]? = some (.cells #[.int .i64 0, .slice none 0 0, .slice none 0 0] 47 (0, 0)) from I1.2.2.2.1.1)
  have hne : gb4 ≠ gb26 := (by have := SZ3.out; have := SZ6.out; have := SZ10.out; have := SZ25.out; have := SZ28.out; first | omega | (simp only [Law.rowI, Law.rowsI, Law.boxI]; omega))
  have hne2 := hne.symm
  have HG := Aside0.mk (show W.heap.size ≤ gb26 from (by have := SZ3.out; have := SZ6.out; have := SZ10.out; have := SZ25.out; have := SZ28.out; first | omega | (simp only [Law.rowI, Law.rowsI, Law.boxI]; omega)))
  have HGR := Aside0.mk (show W.heap.size ≤ gb4 from (by have := SZ3.out; have := SZ6.out; have := SZ10.out; have := SZ25.out; have := SZ28.out; first | omega | (simp only [Law.rowI, Law.rowsI, Law.boxI]; omega)))
  clear I HB hwL I1
  have HB := HB1
  clear HB1
  have HM := Aside0.mk (show l1.length ≤ maxLen from HR1.out.2.1)
  go_loopg [31] (n + 1) (fun kq v31 w' => ∃ (i : Nat) (x1 : List Int) (x2 : List S67) (v2 : Value), v31 = .int .i64 (i : Int) ∧ Aside0 (kq + i = n + 1) ∧ Aside0 (i ≤ n) ∧ Aside0 (fitB x1 x2 ∧ x1.length = r12.length) ∧ Aside0 (applyF r11 x1 x2 ((l1.take n).drop i) = (q1, q2, q3)) ∧ Aside0 (Kd.R (Kd.int .u8) 5 w' W.heap.size (fun _ => True) (.slice Ao19 r12.length co20) x1) ∧ Aside0 (Kd.S k67 67 w' W.heap.size (fun k_ => (some k_ ≠ (.slice Ao19 r12.length co20 : Value).ownBlock ∧ k_ ≠ gb26) ∧ True) v2 x2) ∧ Aside0 (w'.heap[gb26]? = some (.cells #[.int .i64 r11, (.slice Ao19 r12.length co20), v2] 47 (0, 0))) ∧ Aside0 (w'.heap[gb4]? = some (.cells #[.int .i64 0, .slice none 0 0, .slice none 0 0] 47 (0, 0))) ∧ Aside0 (Below W.heap.size W w'))
  case atStart => exact ⟨0, r12, r13, _, rfl, ⟨by omega⟩, ⟨Nat.zero_le _⟩, ⟨⟨HEF.out, rfl⟩⟩, ⟨by rw [List.drop_zero]; exact HEA.out⟩, ⟨by (with_reducible repeat (first | apply Kd.R_alloc | apply Kd.R_drewN | apply Kd.R_drew)); exact HO.out⟩, ⟨by (with_reducible repeat (first | apply Kd.S_alloc | apply Kd.S_drewN | apply Kd.S_drew)); exact HS.out⟩, ⟨by (with_reducible repeat (first | refine blk_drewN ?_ _ | refine blk_drew ?_ | refine blk_alloc ?_ _)); exact BK.out⟩, ⟨by (with_reducible repeat (first | refine blk_drewN ?_ _ | refine blk_drew ?_ | refine blk_alloc ?_ _)); exact BR.out⟩, ⟨by repeat (first | (with_reducible first | exact HB.out | apply below_alloc | apply pw_below_drewN | apply below_drew1) | exact HB.out)⟩⟩
  case round =>
    clear HO HS BK BR HB HEA HEF
    obtain ⟨i, x1, x2, v2, rfl, HA, HL, HX, HE, HO, HS, BK, BR, HB⟩ := hrel
    obtain ⟨Av, cv, ev⟩ := Kd.S_slice HS.out
    subst ev
    have hc0 : wr.cell? ⟨gb26, 0, none⟩ = some (.int .i64 r11) := (blk_cell BK.out 0).trans rfl; have hcf0 := blk_frozen BK.out 0; have hc1 : wr.cell? ⟨gb26, 1, none⟩ = some ((.slice Ao19 r12.length co20)) := (blk_cell BK.out 1).trans rfl; have hcf1 := blk_frozen BK.out 1; have hc2 : wr.cell? ⟨gb26, 2, none⟩ = some (.slice Av x2.length cv) := (blk_cell BK.out 2).trans rfl; have hcf2 := blk_frozen BK.out 2
    have hr0 : wr.cell? ⟨gb4, 0, none⟩ = some (.int .i64 0) := (blk_cell BR.out 0).trans rfl; have hrf0 := blk_frozen BR.out 0; have hr1_ : wr.cell? ⟨gb4, 1, none⟩ = some (.slice none 0 0) := (blk_cell BR.out 1).trans rfl; have hrf1 := blk_frozen BR.out 1; have hr2 : wr.cell? ⟨gb4, 2, none⟩ = some (.slice none 0 0) := (blk_cell BR.out 2).trans rfl; have hrf2 := blk_frozen BR.out 2
    by_cases hn : (i : Int) < (n : Int)
    · have D2 : decide ((i : Int) < (n : Int)) = true := decide_eq_true hn
      have D3 : decide (i < n) = true := decide_eq_true (by omega)
      have hin : i < n := by omega
      have HIN := Aside0.mk hin
      obtain ⟨ad, As, cs, eA, hx0, hx1, hx2, hls, hcs⟩ := at_T71 (Kd.C_below HR1.out HB.out) (i : Int) (by omega) (by have := HNL.out; omega)
      subst eA
      simp only [Int.toNat_natCast] at hx0 hx1 hx2
      have HD := Aside0.mk hcs
      have HDC := Aside0.mk hls
      clear hcs hls hn
      generalize hy : rd_T71 l1 (i : Int) = y at *
      have HY := Aside0.mk hy
      clear hy
      by_cases k1 : y.f0 = 1
      · have K1 : decide (y.f0 = 1) = true := decide_eq_true k1
        have K1b : (y.f0 == 1) = true := beq_iff_eq.mpr k1
        have HK1 := Aside0.mk k1
        clear k1
        by_cases kc : writeC r11 y.f1 y.f2 x2 = 0
        · have KC : (writeC r11 y.f1 y.f2 x2 != 0) = false := bne_eq_false_iff_eq.mpr kc
          have HKC := Aside0.mk kc
          clear kc
          go_wp2_with (first
          | ((with_reducible refine gate_callee (f := 87) rfl ?_)
             refine goesL_ (some 43) rfl rfl Try.func87 (by kernel_rfl) rfl #[.pointer (some ⟨gb26, 0, none⟩), .int .i64 y.f1, .slice As y.f2.length cs] rfl (by (try simp only [List.map_toArray, List.map_cons, List.map_nil]); first | done | rfl) ?_
             refine Law.at_world (fun w3 hw3 => ?_)
             have HO3 := Aside0.mk (show Kd.R (Kd.int .u8) 5 w3 W.heap.size (fun _ => True) (.slice Ao19 r12.length co20) x1 by rw [hw3]; (with_reducible repeat (first | apply Kd.R_alloc | apply Kd.R_drewN | apply Kd.R_drew)); exact HO.out)
             have HS3 := Aside0.mk (show Kd.S k67 67 w3 W.heap.size (fun k_ => (some k_ ≠ (.slice Ao19 r12.length co20 : Value).ownBlock ∧ k_ ≠ gb26) ∧ True) (.slice Av x2.length cv) x2 by rw [hw3]; (with_reducible repeat (first | apply Kd.S_alloc | apply Kd.S_drewN | apply Kd.S_drew)); exact HS.out)
             have BK3 := Aside0.mk (show w3.heap[gb26]? = some (.cells #[.int .i64 r11, (.slice Ao19 r12.length co20), .slice Av x2.length cv] 47 (0, 0)) by rw [hw3]; (with_reducible repeat (first | refine blk_drewN ?_ _ | refine blk_drew ?_ | refine blk_alloc ?_ _)); exact BK.out)
             have BR3 := Aside0.mk (show w3.heap[gb4]? = some (.cells #[.int .i64 0, .slice none 0 0, .slice none 0 0] 47 (0, 0)) by rw [hw3]; (with_reducible repeat (first | refine blk_drewN ?_ _ | refine blk_drew ?_ | refine blk_alloc ?_ _)); exact BR.out)
             have HB3 := Aside0.mk (show Below W.heap.size W w3 by rw [hw3]; repeat (first | (with_reducible first | exact HB.out | apply below_alloc | apply pw_below_drewN | apply below_drew1) | exact HB.out))
             have HZ3 := Aside0.mk (show Below wr.heap.size wr w3 by rw [hw3]; repeat (first | (with_reducible first | exact Below.refl _ _ | apply below_alloc | apply pw_below_drewN | apply below_drew1) | exact Below.refl _ _))
             clear hw3 HO HS BK BR HB hc0 hc1 hc2 hcf0 hcf1 hcf2 hr0 hr1_ hr2
             refine (impl_write.own gb26 r11 y.f1 As cs y.f2 (.slice Ao19 r12.length co20) x1 (.slice Av x2.length cv) x2 (fun _ => True) W w3 HB3.out BK3.out HG.out HO3.out HS3.out (fun _ _ => trivial) (Kd.C_below HD.out HZ3.out) HDC.out).mono ?_
             rintro e w4 ⟨v3, rfl, hq0, hq1, hq2, hq3, hq4⟩
             refine ⟨_, rfl, ?_⟩
             obtain ⟨A4, c4, e4⟩ := Kd.S_slice hq2
             subst e4
             have BK4 := Aside0.mk hq0
             have HO4 := Aside0.mk hq1
             have HS4 := Aside0.mk hq2
             have HB4 := Aside0.mk hq3
             have BR4 := Aside0.mk (blk_kept BR3.out hq4 (fun h_ => h_.elim (fun e_ => Kd.S_ne HS3.out BR3.out (by decide) e_) (fun e_ => hne e_)))
             clear hq0 hq1 hq2 hq3 hq4 BK3 HO3 HS3 HB3 BR3 HZ3
             have hd0 : w4.cell? ⟨gb26, 0, none⟩ = some (.int .i64 r11) := (blk_cell BK4.out 0).trans rfl; have hdf0 := blk_frozen BK4.out 0; have hd1 : w4.cell? ⟨gb26, 1, none⟩ = some ((.slice Ao19 r12.length co20)) := (blk_cell BK4.out 1).trans rfl; have hdf1 := blk_frozen BK4.out 1; have hd2 : w4.cell? ⟨gb26, 2, none⟩ = some (.slice A4 (writeL r11 y.f1 y.f2 x2).length c4) := (blk_cell BK4.out 2).trans rfl; have hdf2 := blk_frozen BK4.out 2
             have he0 : w4.cell? ⟨gb4, 0, none⟩ = some (.int .i64 0) := (blk_cell BR4.out 0).trans rfl; have hef0 := blk_frozen BR4.out 0; have he1 : w4.cell? ⟨gb4, 1, none⟩ = some (.slice none 0 0) := (blk_cell BR4.out 1).trans rfl; have hef1 := blk_frozen BR4.out 1; have he2 : w4.cell? ⟨gb4, 2, none⟩ = some (.slice none 0 0) := (blk_cell BR4.out 2).trans rfl; have hef2 := blk_frozen BR4.out 2))
          go_roundg (n - i)
          case measure => (try clear KC K1 K1b); (try clear K1 K1b K2 K2b); have := HA.out; have := HIN.out; omega
          case rel =>
            (try clear KC K1 K1b)
            (try clear K1 K1b K2 K2b)
            clear hmin hm0 hnc2
            have e_ : wrap64 ((i : Int) + 1) = ((i + 1 : Nat) : Int) := (by have := HM.out; have := HIN.out; have := HNL.out; simp only [maxLen] at *; unfold wrap64; omega)
            refine ⟨i + 1, x1, writeL r11 y.f1 y.f2 x2, .slice A4 (writeL r11 y.f1 y.f2 x2).length c4, by first | rw [e_] | (rw [i64_w, e_]), ⟨by have := HA.out; have := HIN.out; omega⟩, ⟨by have := HIN.out; omega⟩, ⟨⟨writeL_fit HX.out.1 (by rw [HX.out.2]; exact HEL.out), HX.out.2⟩⟩, ⟨?_⟩, ⟨by (with_reducible repeat (first | apply Kd.R_alloc | apply Kd.R_drewN | apply Kd.R_drew)); exact HO4.out⟩, ⟨by (with_reducible repeat (first | apply Kd.S_alloc | apply Kd.S_drewN | apply Kd.S_drew)); exact HS4.out⟩, ⟨by (with_reducible repeat (first | refine blk_drewN ?_ _ | refine blk_drew ?_ | refine blk_alloc ?_ _)); exact BK4.out⟩, ⟨by (with_reducible repeat (first | refine blk_drewN ?_ _ | refine blk_drew ?_ | refine blk_alloc ?_ _)); exact BR4.out⟩, ⟨by repeat (first | (with_reducible first | exact HB4.out | apply below_alloc | apply pw_below_drewN | apply below_drew1) | exact HB4.out)⟩⟩
            have h_ := HE.out
            rw [apply_step HIN.out HNL.out HY.out] at h_
            unfold applyOne at h_
            rw [if_pos HK1.out, if_pos HKC.out] at h_; exact h_
        · have KC : (writeC r11 y.f1 y.f2 x2 != 0) = true := bne_iff_ne.mpr kc
          have HKC := Aside0.mk kc
          clear kc
          go_wp2_with (first
          | ((with_reducible refine gate_callee (f := 87) rfl ?_)
             refine goesL_ (some 43) rfl rfl Try.func87 (by kernel_rfl) rfl #[.pointer (some ⟨gb26, 0, none⟩), .int .i64 y.f1, .slice As y.f2.length cs] rfl (by (try simp only [List.map_toArray, List.map_cons, List.map_nil]); first | done | rfl) ?_
             refine Law.at_world (fun w3 hw3 => ?_)
             have HO3 := Aside0.mk (show Kd.R (Kd.int .u8) 5 w3 W.heap.size (fun _ => True) (.slice Ao19 r12.length co20) x1 by rw [hw3]; (with_reducible repeat (first | apply Kd.R_alloc | apply Kd.R_drewN | apply Kd.R_drew)); exact HO.out)
             have HS3 := Aside0.mk (show Kd.S k67 67 w3 W.heap.size (fun k_ => (some k_ ≠ (.slice Ao19 r12.length co20 : Value).ownBlock ∧ k_ ≠ gb26) ∧ True) (.slice Av x2.length cv) x2 by rw [hw3]; (with_reducible repeat (first | apply Kd.S_alloc | apply Kd.S_drewN | apply Kd.S_drew)); exact HS.out)
             have BK3 := Aside0.mk (show w3.heap[gb26]? = some (.cells #[.int .i64 r11, (.slice Ao19 r12.length co20), .slice Av x2.length cv] 47 (0, 0)) by rw [hw3]; (with_reducible repeat (first | refine blk_drewN ?_ _ | refine blk_drew ?_ | refine blk_alloc ?_ _)); exact BK.out)
             have BR3 := Aside0.mk (show w3.heap[gb4]? = some (.cells #[.int .i64 0, .slice none 0 0, .slice none 0 0] 47 (0, 0)) by rw [hw3]; (with_reducible repeat (first | refine blk_drewN ?_ _ | refine blk_drew ?_ | refine blk_alloc ?_ _)); exact BR.out)
             have HB3 := Aside0.mk (show Below W.heap.size W w3 by rw [hw3]; repeat (first | (with_reducible first | exact HB.out | apply below_alloc | apply pw_below_drewN | apply below_drew1) | exact HB.out))
             have HZ3 := Aside0.mk (show Below wr.heap.size wr w3 by rw [hw3]; repeat (first | (with_reducible first | exact Below.refl _ _ | apply below_alloc | apply pw_below_drewN | apply below_drew1) | exact Below.refl _ _))
             clear hw3 HO HS BK BR HB hc0 hc1 hc2 hcf0 hcf1 hcf2 hr0 hr1_ hr2
             refine (impl_write.own gb26 r11 y.f1 As cs y.f2 (.slice Ao19 r12.length co20) x1 (.slice Av x2.length cv) x2 (fun _ => True) W w3 HB3.out BK3.out HG.out HO3.out HS3.out (fun _ _ => trivial) (Kd.C_below HD.out HZ3.out) HDC.out).mono ?_
             rintro e w4 ⟨v3, rfl, hq0, hq1, hq2, hq3, hq4⟩
             refine ⟨_, rfl, ?_⟩
             obtain ⟨A4, c4, e4⟩ := Kd.S_slice hq2
             subst e4
             have BK4 := Aside0.mk hq0
             have HO4 := Aside0.mk hq1
             have HS4 := Aside0.mk hq2
             have HB4 := Aside0.mk hq3
             have BR4 := Aside0.mk (blk_kept BR3.out hq4 (fun h_ => h_.elim (fun e_ => Kd.S_ne HS3.out BR3.out (by decide) e_) (fun e_ => hne e_)))
             clear hq0 hq1 hq2 hq3 hq4 BK3 HO3 HS3 HB3 BR3 HZ3
             have hd0 : w4.cell? ⟨gb26, 0, none⟩ = some (.int .i64 r11) := (blk_cell BK4.out 0).trans rfl; have hdf0 := blk_frozen BK4.out 0; have hd1 : w4.cell? ⟨gb26, 1, none⟩ = some ((.slice Ao19 r12.length co20)) := (blk_cell BK4.out 1).trans rfl; have hdf1 := blk_frozen BK4.out 1; have hd2 : w4.cell? ⟨gb26, 2, none⟩ = some (.slice A4 (writeL r11 y.f1 y.f2 x2).length c4) := (blk_cell BK4.out 2).trans rfl; have hdf2 := blk_frozen BK4.out 2
             have he0 : w4.cell? ⟨gb4, 0, none⟩ = some (.int .i64 0) := (blk_cell BR4.out 0).trans rfl; have hef0 := blk_frozen BR4.out 0; have he1 : w4.cell? ⟨gb4, 1, none⟩ = some (.slice none 0 0) := (blk_cell BR4.out 1).trans rfl; have hef1 := blk_frozen BR4.out 1; have he2 : w4.cell? ⟨gb4, 2, none⟩ = some (.slice none 0 0) := (blk_cell BR4.out 2).trans rfl; have hef2 := blk_frozen BR4.out 2))
          have hq : (x1, writeL r11 y.f1 y.f2 x2, writeC r11 y.f1 y.f2 x2) = (q1, q2, q3) := by
            have h_ := HE.out
            rw [apply_step HIN.out HNL.out HY.out] at h_
            unfold applyOne at h_
            rw [if_pos HK1.out, if_neg HKC.out] at h_
            exact h_
          have HQ := Aside0.mk hq
          clear hq
          refine Law.post_world (fun wE hwE => ?_)
          have BE : wE.heap[gb4]? = some (.cells #[.int .i64 r11, (.slice Ao19 r12.length co20), .slice A4 (writeL r11 y.f1 y.f2 x2).length c4] 47 (0, 0)) := by
            rw [hwE]
            (with_reducible repeat (first | refine blk_drewN ?_ _ | refine blk_drew ?_ | refine blk_alloc ?_ _))
            refine blk_put (cs := #[.int .i64 r11, (.slice Ao19 r12.length co20), .slice none 0 0]) ?_ 2 _ rfl
            (with_reducible repeat (first | refine blk_drewN ?_ _ | refine blk_drew ?_ | refine blk_alloc ?_ _))
            refine blk_put (cs := #[.int .i64 r11, .slice none 0 0, .slice none 0 0]) ?_ 1 _ rfl
            (with_reducible repeat (first | refine blk_drewN ?_ _ | refine blk_drew ?_ | refine blk_alloc ?_ _))
            refine blk_put (cs := #[.int .i64 0, .slice none 0 0, .slice none 0 0]) ?_ 0 _ rfl
            (with_reducible repeat (first | refine blk_drewN ?_ _ | refine blk_drew ?_ | refine blk_alloc ?_ _))
            exact BR4.out
          have HOE : Kd.R (Kd.int .u8) 5 wE W.heap.size (fun _ => True) (.slice Ao19 r12.length co20) x1 := by rw [hwE]; (with_reducible repeat (first | apply Kd.R_alloc | apply Kd.R_drewN | apply Kd.R_drew)); exact Kd.R_mono (Kd.R_far (p := ⟨gb4, 2, none⟩) (Kd.R_far (p := ⟨gb4, 1, none⟩) (Kd.R_far (p := ⟨gb4, 0, none⟩) (Kd.R_types (Law.rg HO4.out) (by (with_reducible repeat (first | refine blk_drewN ?_ _ | refine blk_drew ?_ | refine blk_alloc ?_ _)); exact BR4.out) (by decide)) (fun _ hk => hk.2) _) (fun _ hk => hk.2) _) (fun _ hk => hk.2) _) (fun _ _ => trivial)
          have HSE : Kd.S k67 67 wE W.heap.size (fun k_ => some k_ ≠ ((.slice Ao19 r12.length co20) : Value).ownBlock) (.slice A4 (writeL r11 y.f1 y.f2 x2).length c4) (writeL r11 y.f1 y.f2 x2) := by rw [hwE]; (with_reducible repeat (first | apply Kd.S_alloc | apply Kd.S_drewN | apply Kd.S_drew)); exact Kd.S_mono (Kd.S_far (p := ⟨gb4, 2, none⟩) (Kd.S_far (p := ⟨gb4, 1, none⟩) (Kd.S_far (p := ⟨gb4, 0, none⟩) (Kd.S_types (Law.sg HS4.out) (by (with_reducible repeat (first | refine blk_drewN ?_ _ | refine blk_drew ?_ | refine blk_alloc ?_ _)); exact BR4.out) (by decide)) (fun _ hk => hk.2) _) (fun _ hk => hk.2) _) (fun _ hk => hk.2) _) (fun _ hk => hk.1.1.1)
          have HBE : Below W.heap.size W wE := by rw [hwE]; repeat (first | (with_reducible first | exact HB4.out | apply below_alloc | apply pw_below_drewN | apply below_drew1 | refine below_set ?_ HGR.out) | exact HB4.out)
          have BEA := Aside0.mk BE
          clear hwE BE
          have hz0 : wE.cell? ⟨gb4, 0, none⟩ = some (.int .i64 r11) := (blk_cell BEA.out 0).trans rfl; have hzf0 := blk_frozen BEA.out 0; have hz1 : wE.cell? ⟨gb4, 1, none⟩ = some ((.slice Ao19 r12.length co20)) := (blk_cell BEA.out 1).trans rfl; have hzf1 := blk_frozen BEA.out 1; have hz2 : wE.cell? ⟨gb4, 2, none⟩ = some (.slice A4 (writeL r11 y.f1 y.f2 x2).length c4) := (blk_cell BEA.out 2).trans rfl; have hzf2 := blk_frozen BEA.out 2
          refine bodyPost_ret (v := .tuple #[.agg #[.int .i64 r11, (.slice Ao19 r12.length co20), .slice A4 (writeL r11 y.f1 y.f2 x2).length c4], .int .i64 (writeC r11 y.f1 y.f2 x2)]) ?_ rfl ?_
          · simp [results, Try.f47, go_sem, *]
          · have hq := HQ.out
            injection hq with hqa hqb
            injection hqb with hqb hqc
            rw [← hqa, ← hqb, ← hqc]
            exact ⟨_, _, rfl, HOE, HSE, HBE⟩
      · have K1 : decide (y.f0 = 1) = false := decide_eq_false k1
        have K1b : (y.f0 == 1) = false := beq_eq_false_iff_ne.mpr k1
        have HK1 := Aside0.mk k1
        clear k1
        by_cases k2 : y.f0 = 2
        · have K2 : decide (y.f0 = 2) = true := decide_eq_true k2
          have K2b : (y.f0 == 2) = true := beq_iff_eq.mpr k2
          have HK2 := Aside0.mk k2
          clear k2
          go_wp2_with (first
          | ((with_reducible refine gate_callee (f := 82) rfl ?_)
             refine goesL_ (some 46) rfl rfl Try.func82 (by kernel_rfl) rfl #[.pointer (some ⟨gb26, 0, none⟩), .func (.func 93) #[] #[]] rfl (by (try simp only [List.map_toArray, List.map_cons, List.map_nil]); first | done | rfl) ?_
             refine Law.at_world (fun w3 hw3 => ?_)
             have HO3 := Aside0.mk (show Kd.R (Kd.int .u8) 5 w3 W.heap.size (fun _ => True) (.slice Ao19 r12.length co20) x1 by rw [hw3]; (with_reducible repeat (first | apply Kd.R_alloc | apply Kd.R_drewN | apply Kd.R_drew)); exact HO.out)
             have HS3 := Aside0.mk (show Kd.S k67 67 w3 W.heap.size (fun k_ => (some k_ ≠ (.slice Ao19 r12.length co20 : Value).ownBlock ∧ k_ ≠ gb26) ∧ True) (.slice Av x2.length cv) x2 by rw [hw3]; (with_reducible repeat (first | apply Kd.S_alloc | apply Kd.S_drewN | apply Kd.S_drew)); exact HS.out)
             have BK3 := Aside0.mk (show w3.heap[gb26]? = some (.cells #[.int .i64 r11, (.slice Ao19 r12.length co20), .slice Av x2.length cv] 47 (0, 0)) by rw [hw3]; (with_reducible repeat (first | refine blk_drewN ?_ _ | refine blk_drew ?_ | refine blk_alloc ?_ _)); exact BK.out)
             have BR3 := Aside0.mk (show w3.heap[gb4]? = some (.cells #[.int .i64 0, .slice none 0 0, .slice none 0 0] 47 (0, 0)) by rw [hw3]; (with_reducible repeat (first | refine blk_drewN ?_ _ | refine blk_drew ?_ | refine blk_alloc ?_ _)); exact BR.out)
             have HB3 := Aside0.mk (show Below W.heap.size W w3 by rw [hw3]; repeat (first | (with_reducible first | exact HB.out | apply below_alloc | apply pw_below_drewN | apply below_drew1) | exact HB.out))
             have HZ3 := Aside0.mk (show Below wr.heap.size wr w3 by rw [hw3]; repeat (first | (with_reducible first | exact Below.refl _ _ | apply below_alloc | apply pw_below_drewN | apply below_drew1) | exact Below.refl _ _))
             clear hw3 HO HS BK BR HB hc0 hc1 hc2 hcf0 hcf1 hcf2 hr0 hr1_ hr2
             have HT := Kd.R_tight rfl HO3.out
             have hap : ∀ W_, Kept w3 W_ (fun k_ => some k_ = ((.slice Ao19 r12.length co20) : Value).ownBlock) → Kd.C k67 W_ Av x2.length x2 := fun W_ hk_ => (Kd.S_reads' (Kd.S_kept HS3.out hk_ (fun k_ h_ e_ => h_.1.1 e_))).2.2
             have hnw : ¬ some gb26 = ((.slice Ao19 r12.length co20) : Value).ownBlock := fun e_ => Kd.R_ne HO3.out BK3.out (by decide) e_
             refine (impl_settle.own 93 #[] (fun _ => true) gb26 r11 (.slice Ao19 r12.length co20) Av cv x1 x2 (fun k_ => some k_ = ((.slice Ao19 r12.length co20) : Value).ownBlock) W w3 HB3.out BK3.out HG.out HT hap hnw HX.out.1 (fun args_ W_ => enters_ Try.func93 (by kernel_rfl) rfl args_ W_) (fun i W_ hi_ hk_ => by simpa using impl_DevApply.keep i W_)).mono ?_
             rintro e w4 ⟨rfl, hq0, hq1, hq2, hq3⟩
             refine ⟨_, rfl, ?_⟩
             have BK4 := Aside0.mk hq0
             have HO4 := Aside0.mk (Kd.R_mono (ok' := fun _ => True) hq1 (fun _ _ => trivial))
             have HB4 := Aside0.mk hq2
             have BR4 := Aside0.mk (blk_kept BR3.out hq3 (fun h_ => h_.elim (fun e_ => Kd.R_ne HO3.out BR3.out (by decide) e_) (fun e_ => hne e_)))
             clear hq0 hq1 hq2 hq3 BK3 HO3 HS3 HB3 BR3 HZ3 HT hap hnw
             have hd0 : w4.cell? ⟨gb26, 0, none⟩ = some (.int .i64 r11) := (blk_cell BK4.out 0).trans rfl; have hdf0 := blk_frozen BK4.out 0; have hd1 : w4.cell? ⟨gb26, 1, none⟩ = some ((.slice Ao19 r12.length co20)) := (blk_cell BK4.out 1).trans rfl; have hdf1 := blk_frozen BK4.out 1; have hd2 : w4.cell? ⟨gb26, 2, none⟩ = some (.slice none 0 0) := (blk_cell BK4.out 2).trans rfl; have hdf2 := blk_frozen BK4.out 2
             have he0 : w4.cell? ⟨gb4, 0, none⟩ = some (.int .i64 0) := (blk_cell BR4.out 0).trans rfl; have hef0 := blk_frozen BR4.out 0; have he1 : w4.cell? ⟨gb4, 1, none⟩ = some (.slice none 0 0) := (blk_cell BR4.out 1).trans rfl; have hef1 := blk_frozen BR4.out 1; have he2 : w4.cell? ⟨gb4, 2, none⟩ = some (.slice none 0 0) := (blk_cell BR4.out 2).trans rfl; have hef2 := blk_frozen BR4.out 2))
          go_roundg (n - i)
          case measure => (try clear KC K1 K1b); (try clear K1 K1b K2 K2b); have := HA.out; have := HIN.out; omega
          case rel =>
            (try clear KC K1 K1b)
            (try clear K1 K1b K2 K2b)
            clear hmin hm0 hnc2
            have e_ : wrap64 ((i : Int) + 1) = ((i + 1 : Nat) : Int) := (by have := HM.out; have := HIN.out; have := HNL.out; simp only [maxLen] at *; unfold wrap64; omega)
            refine ⟨i + 1, (setB x1 x2 (fun _ => true) x2.length), [], .slice none 0 0, by first | rw [e_] | (rw [i64_w, e_]), ⟨by have := HA.out; have := HIN.out; omega⟩, ⟨by have := HIN.out; omega⟩, ⟨⟨⟨by rw [setB_length x1 x2 _ HX.out.1 _ (Nat.le_refl _)]; exact HX.out.1.1, fun n hn => by simp at hn⟩, by rw [setB_length x1 x2 _ HX.out.1 _ (Nat.le_refl _)]; exact HX.out.2⟩⟩, ⟨?_⟩, ⟨by (with_reducible repeat (first | apply Kd.R_alloc | apply Kd.R_drewN | apply Kd.R_drew)); exact HO4.out⟩, ⟨by (with_reducible repeat (first | apply Kd.S_alloc | apply Kd.S_drewN | apply Kd.S_drew)); exact Kd.S_nil _ _ _ _ _⟩, ⟨by (with_reducible repeat (first | refine blk_drewN ?_ _ | refine blk_drew ?_ | refine blk_alloc ?_ _)); exact BK4.out⟩, ⟨by (with_reducible repeat (first | refine blk_drewN ?_ _ | refine blk_drew ?_ | refine blk_alloc ?_ _)); exact BR4.out⟩, ⟨by repeat (first | (with_reducible first | exact HB4.out | apply below_alloc | apply pw_below_drewN | apply below_drew1) | exact HB4.out)⟩⟩
            have h_ := HE.out
            rw [apply_step HIN.out HNL.out HY.out] at h_
            unfold applyOne at h_
            rw [if_neg HK1.out, if_pos HK2.out, if_pos rfl] at h_; exact h_
        · have K2 : decide (y.f0 = 2) = false := decide_eq_false k2
          have K2b : (y.f0 == 2) = false := beq_eq_false_iff_ne.mpr k2
          have hq : (x1, x2, (5 : Int)) = (q1, q2, q3) := by
            have h_ := HE.out
            rw [apply_step HIN.out HNL.out HY.out] at h_
            unfold applyOne at h_
            rw [if_neg HK1.out, if_neg k2] at h_
            exact h_
          have HQ := Aside0.mk hq
          clear hq k2
          have hA0 : ∀ o, (wr.alloc o).cell? ⟨gb26, 0, none⟩ = some (.int .i64 r11) := fun o => (blk_cell (blk_alloc BK.out o) 0).trans rfl; have hB0 : ∀ o, (wr.alloc o).cell? ⟨gb4, 0, none⟩ = some (.int .i64 0) := fun o => (blk_cell (blk_alloc BR.out o) 0).trans rfl; have hC0 : ∀ o, (wr.alloc o).frozen? ⟨gb4, 0, none⟩ = false := fun o => blk_frozen (blk_alloc BR.out o) 0; have hA1 : ∀ o, (wr.alloc o).cell? ⟨gb26, 1, none⟩ = some ((.slice Ao19 r12.length co20)) := fun o => (blk_cell (blk_alloc BK.out o) 1).trans rfl; have hB1 : ∀ o, (wr.alloc o).cell? ⟨gb4, 1, none⟩ = some (.slice none 0 0) := fun o => (blk_cell (blk_alloc BR.out o) 1).trans rfl; have hC1 : ∀ o, (wr.alloc o).frozen? ⟨gb4, 1, none⟩ = false := fun o => blk_frozen (blk_alloc BR.out o) 1; have hA2 : ∀ o, (wr.alloc o).cell? ⟨gb26, 2, none⟩ = some (.slice Av x2.length cv) := fun o => (blk_cell (blk_alloc BK.out o) 2).trans rfl; have hB2 : ∀ o, (wr.alloc o).cell? ⟨gb4, 2, none⟩ = some (.slice none 0 0) := fun o => (blk_cell (blk_alloc BR.out o) 2).trans rfl; have hC2 : ∀ o, (wr.alloc o).frozen? ⟨gb4, 2, none⟩ = false := fun o => blk_frozen (blk_alloc BR.out o) 2
          go_wp2
          refine Law.post_world (fun wE hwE => ?_)
          have BE : wE.heap[gb4]? = some (.cells #[.int .i64 r11, (.slice Ao19 r12.length co20), .slice Av x2.length cv] 47 (0, 0)) := by
            rw [hwE]
            (with_reducible repeat (first | refine blk_drewN ?_ _ | refine blk_drew ?_ | refine blk_alloc ?_ _))
            refine blk_put (cs := #[.int .i64 r11, (.slice Ao19 r12.length co20), .slice none 0 0]) ?_ 2 _ rfl
            (with_reducible repeat (first | refine blk_drewN ?_ _ | refine blk_drew ?_ | refine blk_alloc ?_ _))
            refine blk_put (cs := #[.int .i64 r11, .slice none 0 0, .slice none 0 0]) ?_ 1 _ rfl
            (with_reducible repeat (first | refine blk_drewN ?_ _ | refine blk_drew ?_ | refine blk_alloc ?_ _))
            refine blk_put (cs := #[.int .i64 0, .slice none 0 0, .slice none 0 0]) ?_ 0 _ rfl
            (with_reducible repeat (first | refine blk_drewN ?_ _ | refine blk_drew ?_ | refine blk_alloc ?_ _))
            exact BR.out
          have HOE : Kd.R (Kd.int .u8) 5 wE W.heap.size (fun _ => True) (.slice Ao19 r12.length co20) x1 := by rw [hwE]; (with_reducible repeat (first | apply Kd.R_alloc | apply Kd.R_drewN | apply Kd.R_drew)); exact Kd.R_mono (Kd.R_far (p := ⟨gb4, 2, none⟩) (Kd.R_far (p := ⟨gb4, 1, none⟩) (Kd.R_far (p := ⟨gb4, 0, none⟩) (Kd.R_types (Law.rg HO.out) (by (with_reducible repeat (first | refine blk_drewN ?_ _ | refine blk_drew ?_ | refine blk_alloc ?_ _)); exact BR.out) (by decide)) (fun _ hk => hk.2) _) (fun _ hk => hk.2) _) (fun _ hk => hk.2) _) (fun _ _ => trivial)
          have HSE : Kd.S k67 67 wE W.heap.size (fun k_ => some k_ ≠ ((.slice Ao19 r12.length co20) : Value).ownBlock) (.slice Av x2.length cv) x2 := by rw [hwE]; (with_reducible repeat (first | apply Kd.S_alloc | apply Kd.S_drewN | apply Kd.S_drew)); exact Kd.S_mono (Kd.S_far (p := ⟨gb4, 2, none⟩) (Kd.S_far (p := ⟨gb4, 1, none⟩) (Kd.S_far (p := ⟨gb4, 0, none⟩) (Kd.S_types (Law.sg HS.out) (by (with_reducible repeat (first | refine blk_drewN ?_ _ | refine blk_drew ?_ | refine blk_alloc ?_ _)); exact BR.out) (by decide)) (fun _ hk => hk.2) _) (fun _ hk => hk.2) _) (fun _ hk => hk.2) _) (fun _ hk => hk.1.1.1)
          have HBE : Below W.heap.size W wE := by rw [hwE]; repeat (first | (with_reducible first | exact HB.out | apply below_alloc | apply pw_below_drewN | apply below_drew1 | refine below_set ?_ HGR.out) | exact HB.out)
          have BEA := Aside0.mk BE
          clear hwE BE
          have hz0 : wE.cell? ⟨gb4, 0, none⟩ = some (.int .i64 r11) := (blk_cell BEA.out 0).trans rfl; have hzf0 := blk_frozen BEA.out 0; have hz1 : wE.cell? ⟨gb4, 1, none⟩ = some ((.slice Ao19 r12.length co20)) := (blk_cell BEA.out 1).trans rfl; have hzf1 := blk_frozen BEA.out 1; have hz2 : wE.cell? ⟨gb4, 2, none⟩ = some (.slice Av x2.length cv) := (blk_cell BEA.out 2).trans rfl; have hzf2 := blk_frozen BEA.out 2
          refine bodyPost_ret (v := .tuple #[.agg #[.int .i64 r11, (.slice Ao19 r12.length co20), .slice Av x2.length cv], .int .i64 5]) ?_ rfl ?_
          · simp [results, Try.f47, go_sem, *]
          · have hq := HQ.out
            injection hq with hqa hqb
            injection hqb with hqb hqc
            rw [← hqa, ← hqb, ← hqc]
            exact ⟨_, _, rfl, HOE, HSE, HBE⟩
    · have D2 : decide ((i : Int) < (n : Int)) = false := decide_eq_false hn
      have D3 : decide (i < n) = false := decide_eq_false (by omega)
      have hq : (x1, x2, (0 : Int)) = (q1, q2, q3) := by
        have h_ := HE.out
        rw [List.drop_of_length_le (by rw [List.length_take]; omega)] at h_
        exact h_
      have HQ := Aside0.mk hq
      clear hq hn
      go_wp2
      refine Law.post_world (fun wE hwE => ?_)
      have BE : wE.heap[gb4]? = some (.cells #[.int .i64 r11, (.slice Ao19 r12.length co20), .slice Av x2.length cv] 47 (0, 0)) := by
        rw [hwE]
        (with_reducible repeat (first | refine blk_drewN ?_ _ | refine blk_drew ?_ | refine blk_alloc ?_ _))
        refine blk_put (cs := #[.int .i64 r11, (.slice Ao19 r12.length co20), .slice none 0 0]) ?_ 2 _ rfl
        (with_reducible repeat (first | refine blk_drewN ?_ _ | refine blk_drew ?_ | refine blk_alloc ?_ _))
        refine blk_put (cs := #[.int .i64 r11, .slice none 0 0, .slice none 0 0]) ?_ 1 _ rfl
        (with_reducible repeat (first | refine blk_drewN ?_ _ | refine blk_drew ?_ | refine blk_alloc ?_ _))
        refine blk_put (cs := #[.int .i64 0, .slice none 0 0, .slice none 0 0]) ?_ 0 _ rfl
        (with_reducible repeat (first | refine blk_drewN ?_ _ | refine blk_drew ?_ | refine blk_alloc ?_ _))
        exact BR.out
      have HOE : Kd.R (Kd.int .u8) 5 wE W.heap.size (fun _ => True) (.slice Ao19 r12.length co20) x1 := by rw [hwE]; (with_reducible repeat (first | apply Kd.R_alloc | apply Kd.R_drewN | apply Kd.R_drew)); exact Kd.R_mono (Kd.R_far (p := ⟨gb4, 2, none⟩) (Kd.R_far (p := ⟨gb4, 1, none⟩) (Kd.R_far (p := ⟨gb4, 0, none⟩) (Kd.R_types (Law.rg HO.out) (by (with_reducible repeat (first | refine blk_drewN ?_ _ | refine blk_drew ?_ | refine blk_alloc ?_ _)); exact BR.out) (by decide)) (fun _ hk => hk.2) _) (fun _ hk => hk.2) _) (fun _ hk => hk.2) _) (fun _ _ => trivial)
      have HSE : Kd.S k67 67 wE W.heap.size (fun k_ => some k_ ≠ ((.slice Ao19 r12.length co20) : Value).ownBlock) (.slice Av x2.length cv) x2 := by rw [hwE]; (with_reducible repeat (first | apply Kd.S_alloc | apply Kd.S_drewN | apply Kd.S_drew)); exact Kd.S_mono (Kd.S_far (p := ⟨gb4, 2, none⟩) (Kd.S_far (p := ⟨gb4, 1, none⟩) (Kd.S_far (p := ⟨gb4, 0, none⟩) (Kd.S_types (Law.sg HS.out) (by (with_reducible repeat (first | refine blk_drewN ?_ _ | refine blk_drew ?_ | refine blk_alloc ?_ _)); exact BR.out) (by decide)) (fun _ hk => hk.2) _) (fun _ hk => hk.2) _) (fun _ hk => hk.2) _) (fun _ hk => hk.1.1.1)
      have HBE : Below W.heap.size W wE := by rw [hwE]; repeat (first | (with_reducible first | exact HB.out | apply below_alloc | apply pw_below_drewN | apply below_drew1 | refine below_set ?_ HGR.out) | exact HB.out)
      have BEA := Aside0.mk BE
      clear hwE BE
      have hz0 : wE.cell? ⟨gb4, 0, none⟩ = some (.int .i64 r11) := (blk_cell BEA.out 0).trans rfl; have hzf0 := blk_frozen BEA.out 0; have hz1 : wE.cell? ⟨gb4, 1, none⟩ = some ((.slice Ao19 r12.length co20)) := (blk_cell BEA.out 1).trans rfl; have hzf1 := blk_frozen BEA.out 1; have hz2 : wE.cell? ⟨gb4, 2, none⟩ = some (.slice Av x2.length cv) := (blk_cell BEA.out 2).trans rfl; have hzf2 := blk_frozen BEA.out 2
      refine bodyPost_ret (v := .tuple #[.agg #[.int .i64 r11, (.slice Ao19 r12.length co20), .slice Av x2.length cv], .int .i64 0]) ?_ rfl ?_
      · simp [results, Try.f47, go_sem, *]
      · have hq := HQ.out
        injection hq with hqa hqb
        injection hqb with hqb hqc
        rw [← hqa, ← hqb, ← hqc]
        exact ⟨_, _, rfl, HOE, HSE, HBE⟩

def impl_DevApply.f (k : Nat) (a0_0 : Int) (l0_1 : List Int) (l0_2 : List (S67)) (l1 : List (S71)) (a2 : Int) : Option (Int × List Int × (List (S67)) × Int) := (impl_validDevice.f k a0_0 l0_1 l0_2).bind fun t => if t = true then ((impl_copyDevice.f k a0_0 l0_1 l0_2).bind fun c => if (l1.length : Int) > 4096 then some (c.1, c.2.1, c.2.2, 4) else if fitB c.2.1 c.2.2 ∧ (c.2.1.length : Int) = c.1 * 128 then some (c.1, applyF c.1 c.2.1 c.2.2 (l1.take (min (max a2 0) (l1.length : Int)).toNat)) else none) else some (0, [], [], 1)
theorem impl_DevApply.calls (k : Nat) (a0_0 : Int) (A0_1 : Option Addr) (c0_1 : Nat) (l0_1 : List Int) (A0_2 : Option Addr) (c0_2 : Nat) (l0_2 : List (S67)) (A1 : Option Addr) (c1 : Nat) (l1 : List (S71)) (a2 : Int) (r1 : Int) (r2 : List Int) (r3 : List (S67)) (r4 : Int) (w : World) (hr0_1 : Kd.C (Kd.int .u8) w A0_1 l0_1.length l0_1) (hc0_1 : l0_1.length ≤ c0_1) (hr0_2 : Kd.C k67 w A0_2 l0_2.length l0_2) (hc0_2 : l0_2.length ≤ c0_2) (hr1 : Kd.C k71 w A1 l1.length l1) (hc1 : l1.length ≤ c1) (h : impl_DevApply.f k a0_0 l0_1 l0_2 l1 a2 = some (r1, r2, r3, r4)) :
    Calls Try.prog 47 #[.agg #[.int .i64 a0_0, .slice A0_1 l0_1.length c0_1, .slice A0_2 l0_2.length c0_2], .slice A1 l1.length c1, .int .i64 a2] w fun e w' => ∃ v1_ v2_ : Value, e = .returned (.tuple #[.agg #[.int .i64 r1, v1_, v2_], .int .i64 r4]) ∧ Kd.R (Kd.int .u8) 5 w' w.heap.size (fun _ => True) v1_ r2 ∧ Kd.S k67 67 w' w.heap.size (fun k_ => some k_ ≠ (v1_ : Value).ownBlock) v2_ r3 ∧ Below w.heap.size w w' := by
  obtain ⟨t, h1, h⟩ := Option.bind_eq_some_iff.mp h
  cases t with
  | false =>
    rw [if_neg (by simp)] at h
    injection h with h
    obtain ⟨rfl, rfl, rfl, rfl⟩ : 0 = r1 ∧ [] = r2 ∧ [] = r3 ∧ 1 = r4 := by simpa using h
    exact (impl_DevApply.walk0 a0_0 A0_1 c0_1 l0_1 A0_2 c0_2 l0_2 A1 c1 l1 a2 w hr0_1 hc0_1 hr0_2 hc0_2 hr1 hc1 k h1).mono fun e w' hp => ⟨_, _, hp.1, Kd.R_nil _ _ _ _ _, Kd.S_nil _ _ _ _ _, hp.2⟩
  | true =>
    rw [if_pos rfl] at h
    obtain ⟨⟨d1, d2, d3⟩, h2, h⟩ := Option.bind_eq_some_iff.mp h
    by_cases hT : (l1.length : Int) > 4096
    · rw [if_pos hT] at h
      injection h with h
      obtain ⟨rfl, rfl, rfl, rfl⟩ : d1 = r1 ∧ d2 = r2 ∧ d3 = r3 ∧ 4 = r4 := by simpa using h
      exact impl_DevApply.walk1 a0_0 A0_1 c0_1 l0_1 A0_2 c0_2 l0_2 A1 c1 l1 a2 w hr0_1 hc0_1 hr0_2 hc0_2 hr1 hc1 k d1 d2 d3 h1 h2 hT
    · rw [if_neg hT] at h
      by_cases hf : fitB d2 d3 ∧ (d2.length : Int) = d1 * 128
      · rw [if_pos hf] at h
        injection h with h
        injection h with ha hb
        subst ha
        exact impl_DevApply.walk2 a0_0 A0_1 c0_1 l0_1 A0_2 c0_2 l0_2 A1 c1 l1 a2 w hr0_1 hc0_1 hr0_2 hc0_2 hr1 hc1 k d1 d2 d3 h1 h2 hT hf.1 (min (max a2 0) (l1.length : Int)).toNat (by omega) r2 r3 r4 hb hf.2
      · rw [if_neg hf] at h
        cases h

end Go.Proofs.Ytbimmmmjdimebaa.PFnExactDevApply
