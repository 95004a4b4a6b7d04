/- Contracts by hand, beside the printed ones. -/
import Derived.Test.YtbimmmmjdimebaaPFnExactDevWritex0
import Derived.Test.YtbimmmmjdimebaaPFnExactDevWritex1
import Derived.Test.YtbimmmmjdimebaaPFnExactDevWritex2
import Derived.Test.YtbimmmmjdimebaaPFnExactDevWritex3
import Derived.Test.YtbimmmmjdimebaaPFnExactDevWritex4
import Derived.Test.YtbimmmmjdimebaaPFnExactDevWritex5
import Derived.Test.YtbimmmmjdimebaaPFnExactDevWritex6
import Derived.Test.YtbimmmmjdimebaaLaw
namespace Go.Proofs.Ytbimmmmjdimebaa.PFnExactDevWrite
open Go.RowKit Go.Proofs.YtbimmmmjdimebaaW.PrintWords Go.Proofs.YtbimmmmjdimebaaW.PrintLast Go.Proofs.YtbimmmmjdimebaaW.PrintMore
attribute [local go_sem] max2_int min2_int max_two min_two max_three min_three max_four min_four   -- for this text's walks alone
set_option linter.unusedVariables false
set_option linter.unusedSimpArgs false

/-! ### laws.markPendingS, rows of rows that are the call's own -/
def laws_markPendingS.l0 : Nat → List S67 → Int → Int → Option (Int × List S67)
  | 0, _, _, _ => none
  | k + 1, x0, x1, x5 => if x5 < (x0.length : Int) then (if 0 ≤ x5 then ((laws_markByteS.f k (rd_T67 x0 x5).f1 (wrap64 (x1 + 1))).bind fun b => laws_markPendingS.l0 k (x0.set x5.toNat ⟨x1, b.2⟩) b.1 (wrap64 (x5 + 1))) else none) else some (x1, x0)
def laws_markPendingS.f (k : Nat) (l0 : List S67) (a1 : Int) : Option (Int × List S67) := laws_markPendingS.l0 k l0 a1 0
set_option maxHeartbeats 8000000 in
set_option maxRecDepth 100000 in
theorem laws_markPendingS.calls (k : Nat) (P0_ : Nat → Prop) (u : Value) (l0 : List S67) (a1 r1 : Int) (r2 : List S67) (w0 w : World) (hB : Below w0.heap.size w0 w) (ho0 : Kd.S k67 67 w w0.heap.size P0_ u l0) (h : laws_markPendingS.f k l0 a1 = some (r1, r2)) :
    Calls Try.prog 76 #[u, .int .i64 a1] w fun e w' => e = .returned (.int .i64 r1) ∧ Kd.S k67 67 w' w0.heap.size P0_ u r2 ∧ Below w0.heap.size w0 w' ∧ Kept w w' P0_ := by
  have HO0 := Aside0.mk ho0
  have HK := Aside0.mk (Kept.refl w P0_)
  have HB := Aside0.mk hB
  clear hB ho0
  have H' := Aside0.mk (show laws_markPendingS.l0 k l0 a1 0 = some (r1, r2) from h)
  clear h
  have hu67 := Try.underlying67
  go_enter Try.func76, Try.ntmps76
  go_wp2
  go_loopg [1, 5] k (fun kq v1 v5 w' => ∃ (x0_1 : List S67) (x1_1 : Int) (x5_1 : Int), v1 = .int .i64 x1_1 ∧ v5 = .int .i64 x5_1 ∧ Aside0 (laws_markPendingS.l0 kq x0_1 x1_1 x5_1 = some (r1, r2)) ∧ Aside0 (kq ≤ k) ∧ Aside0 (Kd.S k67 67 w' w0.heap.size P0_ u x0_1) ∧ Aside0 (Kept w w' P0_) ∧ Aside0 (Below w0.heap.size w0 w'))
  case atStart => exact ⟨l0, a1, 0, rfl, rfl, H', ⟨Nat.le_refl _⟩, ⟨by (with_reducible repeat (first | apply Kd.S_alloc | apply Kd.S_drewN | apply Kd.S_drew)); exact HO0.out⟩, ⟨by repeat (first | (with_reducible first | exact HK.out | apply Kept.alloc | apply Kept.drewN | apply Kept.drew) | exact HK.out)⟩, ⟨by repeat (first | (with_reducible first | exact HB.out | apply below_alloc | apply pw_below_drewN | apply below_drew1) | exact HB.out)⟩⟩
  case round =>
    clear H' HO0
    try clear p2
    obtain ⟨x0_1, x1_1, x5_1, rfl, rfl, HA, HK1, HO_0, HK, HB⟩ := hrel
    cases gk with
    | zero => exact absurd HA.out (by simp [laws_markPendingS.l0])
    | succ k1 =>
      have H := HA.out
      clear HA
      simp only [laws_markPendingS.l0] at H
      by_cases c3 : x5_1 < (x0_1.length : Int)
      · rw [if_pos c3] at H
        have c3b0 : decide (x5_1 < (x0_1.length : Int)) = true := decide_eq_true c3
        by_cases c4 : 0 ≤ x5_1
        · rw [if_pos c4] at H
          have c4b0 : decide (0 ≤ x5_1) = true := decide_eq_true c4
          obtain ⟨⟨b1, b2⟩, hbt, H⟩ := Option.bind_eq_some_iff.mp H
          obtain ⟨y0, hy0⟩ : ∃ y0, x0_1.getD x5_1.toNat z67 = y0 := ⟨_, rfl⟩
          have A1 := Aside0.mk (show laws_markByteS.f k1 y0.f1 (wrap64 (x1_1 + 1)) = some (b1, b2) from by rw [← hy0]; exact hbt)
          have H' := Aside0.mk (show laws_markPendingS.l0 k1 (x0_1.set x5_1.toNat ⟨x1_1, b2⟩) b1 (wrap64 (x5_1 + 1)) = some (r1, r2) from H)
          clear H hbt
          obtain ⟨go5, co5, eo5, gb5, gl5, cl5, HG5⟩ := Kd.S_form HO_0.out (by omega)
          subst eo5
          have GB5 := Aside0.mk gb5
          clear gb5 gl5 HG5
          have C3 := Aside0.mk c3
          have C4 := Aside0.mk c4
          have hil : x5_1.toNat < x0_1.length := by omega
          obtain ⟨oki, c, hcl, hM, hcc, hfr, hoki, hH⟩ := Kd.S_elem HO_0.out z67 x5_1 c4 c3
          rw [hy0] at hM
          obtain ⟨v1, rfl, hR⟩ := k67_openM hM
          have hP0g := Aside0.mk (HO_0.out.choose_spec.1 go5 rfl : P0_ go5)
          have E1 := Aside0.mk hR
          have E2 := Aside0.mk hH
          have hx5_0 : wr.cell? ⟨go5, x5_1.toNat * 2, none⟩ = some (.int .i64 y0.f0) := hcc 0 _ rfl
          have hf5_0 : wr.frozen? ⟨go5, x5_1.toNat * 2, none⟩ = false := hfr 0
          have hgd : (x0_1.set x5_1.toNat ⟨x1_1, y0.f1⟩).getD x5_1.toNat z67 = ⟨x1_1, y0.f1⟩ := by simp [hil]
          have HGD := Aside0.mk hgd
          have HL := Aside0.mk (show ((x0_1.set x5_1.toNat ⟨x1_1, y0.f1⟩).length : Int) = (x0_1.length : Int) by simp)
          have Ssz := Aside0.mk (show x5_1.toNat * 2 = x5_1.toNat * k67.sz + 0 from rfl)
          clear hcl hM hcc hfr hH hR hgd hoki hil hy0
          have p5 : 0 ≤ (x5_1 : Int) := c4
          have q5 : (x5_1 : Int) < ((x0_1.length : Int) : Int) := c3
          clear c3 c4
          replace p5 := eq_true p5
          replace q5 := eq_true q5
          go_wp2_with (first
            | ((with_reducible refine gate_store (t := 2) (p := 16) rfl ?_)
               refine Kd.H_store (w0 := w0) k67 w0.heap.size rfl rfl 2 _ _ rfl 67 (g := go5) (o' := x5_1.toNat * 2) x5_1 0 x0_1 ⟨x1_1, y0.f1⟩ (.int .i64 x1_1) [.int .i64 x1_1] _ P0_ oki oki rfl Ssz.out rfl rfl (by kernel_rfl) (by simp [Value.oneCell']) E2.out C4.out C3.out (show 1 ≤ 2 by decide) (k67_mkM _ _ _ ⟨x1_1, y0.f1⟩ E1.out) (fun _ h => h) HB.out ?_
               intro w8 hS8 hB8 hG8
               have HK8 := Aside0.mk (Kept.of_grown (S := P0_) hG8 HK.out (fun k_ e_ => .inl (by injection e_ with e_; rw [← e_]; exact hP0g.out)))
               obtain ⟨oki2, c2, hcl2, hM2, hcc2, hfr2, hoki2, hH2⟩ := Kd.S_elem hS8 z67 x5_1 C4.out C3.out
               obtain ⟨v2, rfl, hR2⟩ := k67_openM hM2
               rw [HGD.out] at hR2 hH2 hcc2
               obtain ⟨Ao2, co2, eo2⟩ := Kd.R_slice hR2
               subst eo2
               have E5 := Aside0.mk hR2
               have E6 := Aside0.mk hH2
               have E7 := Aside0.mk (show ∀ k, oki2 k → P0_ k from fun k hk => (hoki2 k hk).1)
               have HB8 := Aside0.mk hB8
               have hx8_1 : w8.cell? ⟨go5, x5_1.toNat * 2 + 1, none⟩ = some (.slice Ao2 y0.f1.length co2) := hcc2 1 _ rfl
               have hf8_1 : w8.frozen? ⟨go5, x5_1.toNat * 2 + 1, none⟩ = false := hfr2 1
               clear hcl2 hM2 hcc2 hfr2 hH2 hR2 hoki2 hS8 hG8 hB8)
            | ((with_reducible refine gate_callee (f := 33) rfl ?_)
               refine goesL_ (some 25) rfl rfl Try.func33 (by kernel_rfl) rfl #[.slice Ao2 y0.f1.length co2, .int .i64 (wrap64 (x1_1 + 1))] rfl (by (try simp only [List.map_toArray, List.map_cons, List.map_nil]); first | done | rfl) ?_
               (with_reducible refine (laws_markByteS.calls k1 oki2 _ _ _ b1 b2 w0 _ ?side1 ?side2 A1.out).mono ?_)
               (case side1 => repeat (first | (with_reducible first | exact HB8.out | apply below_alloc | apply pw_below_drewN | apply below_drew1) | exact HB8.out))
               (case side2 => (with_reducible repeat (first | apply Kd.R_alloc | apply Kd.R_drewN | apply Kd.R_drew)); exact E5.out)
               rintro e w9 ⟨rfl, hy9, hb9, hk9⟩
               refine ⟨_, rfl, ?_⟩
               have HK9 := Aside0.mk (Kept.then_ (S := P0_) (by repeat (first | (with_reducible first | exact HK8.out | apply Kept.alloc | apply Kept.drewN | apply Kept.drew) | exact HK8.out)) hk9 (fun k hk => .inl (E7.out k hk)))
               have HB9 := Aside0.mk hb9
               have HS9 := Aside0.mk (Kd.H_back (Kd.H_kept (by (with_reducible repeat (first | apply Kd.H_alloc | apply Kd.H_drewN | apply Kd.H_drew)); exact E6.out) hk9 (fun _ _ hn => hn)) (k67_mkM _ _ oki2 ⟨x1_1, b2⟩ (Kd.R_reok rfl hy9 (fun k_ e_ => E5.out.1 k_ e_))) (fun _ h => h))
               clear hy9 hb9 hk9))
          go_roundg k1
          case measure => have := HK1.out; omega
          case rel =>
            refine ⟨x0_1.set x5_1.toNat ⟨x1_1, b2⟩, b1, wrap64 (x5_1 + 1), rfl, rfl, H', ⟨by have := HK1.out; omega⟩, ⟨?_⟩, ⟨by repeat (first | (with_reducible first | exact HK9.out | apply Kept.alloc | apply Kept.drewN | apply Kept.drew) | exact HK9.out)⟩, ⟨by repeat (first | (with_reducible first | exact HB9.out | apply below_alloc | apply pw_below_drewN | apply below_drew1) | exact HB9.out)⟩⟩
            have h9 := HS9.out
            rw [List.set_set] at h9
            (with_reducible repeat (first | apply Kd.S_alloc | apply Kd.S_drewN | apply Kd.S_drew))
            exact h9
        · rw [if_neg c4] at H
          exact absurd H (by simp)
      · rw [if_neg c3] at H
        have c3b0 : decide (x5_1 < (x0_1.length : Int)) = false := decide_eq_false c3
        clear c3
        simp only [Option.some.injEq, Prod.mk.injEq] at H
        obtain ⟨rfl, rfl⟩ := H
        obtain ⟨Ao9, co9, eo9⟩ := Kd.S_slice HO_0.out
        subst eo9
        go_wp2
        go_ret
        exact ⟨rfl, by (with_reducible repeat (first | apply Kd.S_alloc | apply Kd.S_drewN | apply Kd.S_drew)); exact HO_0.out, by repeat (first | (with_reducible first | exact HB.out | apply below_alloc | apply pw_below_drewN | apply below_drew1) | exact HB.out), by repeat (first | (with_reducible first | exact HK.out | apply Kept.alloc | apply Kept.drewN | apply Kept.drew) | exact HK.out)⟩

/-! ### laws.markDevice, of the call's own -/
def laws_markDevice.f (k : Nat) (a0 : Int) (l1 : List Int) (l2 : List S67) (a1 : Int) : Option (Int × List Int × List S67) := (laws_markByteS.f k l1 a1).bind fun b => (laws_markPendingS.f k l2 b.1).bind fun c => some (c.1, b.2, c.2)
set_option maxHeartbeats 8000000 in
set_option maxRecDepth 100000 in
theorem laws_markDevice.calls (k : Nat) (P0_ : Nat → Prop) (a0 : Int) (u1 : Value) (l1 : List Int) (u2 : Value) (l2 : List S67) (a1 : Int) (r1 : Int) (r2 : List Int) (r3 : List S67) (w0 w : World) (hB : Below w0.heap.size w0 w) (h1 : Kd.R (Kd.int .u8) 5 w w0.heap.size P0_ u1 l1) (h2 : Kd.S k67 67 w w0.heap.size (fun k_ => P0_ k_ ∧ some k_ ≠ (u1 : Value).ownBlock) u2 l2) (h : laws_markDevice.f k a0 l1 l2 a1 = some (r1, r2, r3)) :
    Calls Try.prog 32 #[.agg #[.int .i64 a0, u1, u2], .int .i64 a1] w fun e w' => e = .returned (.int .i64 r1) ∧ Kd.R (Kd.int .u8) 5 w' w0.heap.size (fun k_ => P0_ k_) u1 r2 ∧ Kd.S k67 67 w' w0.heap.size (fun k_ => P0_ k_ ∧ some k_ ≠ (u1 : Value).ownBlock) u2 r3 ∧ Below w0.heap.size w0 w' ∧ Kept w w' (fun k_ => P0_ k_) := by
  obtain ⟨⟨b1, b2⟩, hb1, h⟩ := Option.bind_eq_some_iff.mp h
  obtain ⟨⟨c1, c2⟩, hc1, h⟩ := Option.bind_eq_some_iff.mp h
  simp only [Option.some.injEq, Prod.mk.injEq] at h
  obtain ⟨rfl, rfl, rfl⟩ := h
  obtain ⟨A1, z1, e1⟩ := Kd.R_slice h1
  subst e1
  obtain ⟨A2, z2, e2⟩ := Kd.S_slice h2
  subst e2
  have E1 := Aside0.mk (show laws_markByteS.f k l1 a1 = some (b1, b2) from hb1)
  have E2 := Aside0.mk (show laws_markPendingS.f k l2 b1 = some (c1, c2) from hc1)
  have HO := Aside0.mk h1
  have HS := Aside0.mk h2
  have HK := Aside0.mk (Kept.refl w P0_)
  have HB := Aside0.mk hB
  clear h1 h2 hB hb1 hc1
  have hu47 := Try.underlying47
  go_enter Try.func32, Try.ntmps32
  go_wp2_with (first
    | ((with_reducible refine gate_dst (N := 2) rfl ?_)
       refine box_event ?hg (N := 2) ?hd (cs := #[.int .i64 a0, .slice A1 l1.length z1, .slice A2 l2.length z2]) (t := 47) ?hr ?_
       (case hd => rfl)
       (case hg => rfl)
       (case hr => first | (go_simp; done) | (go_simp; rfl))
       intro gb hg w2 hbox hb
       have n0 := Aside0.mk (Kd.R_below (by (with_reducible repeat (first | apply Kd.R_alloc | apply Kd.R_drewN | apply Kd.R_drew)); exact HO.out) hb)
       have n1 := Aside0.mk (Kd.S_below (by (with_reducible repeat (first | apply Kd.S_alloc | apply Kd.S_drewN | apply Kd.S_drew)); exact HS.out) hb)
       have n2 := Aside0.mk (Kept.below (S := P0_) (by repeat (first | (with_reducible first | exact HK.out | apply Kept.alloc | apply Kept.drewN | apply Kept.drew) | exact HK.out)) hb)
       have n3 := Aside0.mk (below_step (by repeat (first | (with_reducible first | exact HB.out | apply below_alloc | apply pw_below_drewN | apply below_drew1) | exact HB.out)) hb)
       have BK := Aside0.mk hbox
       clear HO HS HK HB hb hbox hg
       have HO := n0
       have HS := n1
       have HK := n2
       have HB := n3
       clear n0 n1 n2 n3
       have hc0 : w2.cell? ⟨gb, 0, none⟩ = some (.int .i64 a0) := (blk_cell BK.out 0).trans rfl
       have hc1 : w2.cell? ⟨gb, 1, none⟩ = some (.slice A1 l1.length z1) := (blk_cell BK.out 1).trans rfl
       have hc2 : w2.cell? ⟨gb, 2, none⟩ = some (.slice A2 l2.length z2) := (blk_cell BK.out 2).trans rfl
       have hf0 := blk_frozen BK.out 0
       have hf1 := blk_frozen BK.out 1
       have hf2 := blk_frozen BK.out 2)
    | ((with_reducible refine gate_callee (f := 33) rfl ?_)
       refine goesL_ (some 8) rfl rfl Try.func33 (by kernel_rfl) rfl #[.slice A1 l1.length z1, .int .i64 a1] rfl (by (try simp only [List.map_toArray, List.map_cons, List.map_nil]); first | done | rfl) ?_
       refine (laws_markByteS.calls k (fun k_ => some k_ = (.slice A1 l1.length z1 : Value).ownBlock) _ l1 a1 b1 b2 w0 _ ?s1 ?s2 E1.out).mono ?_
       (case s1 => repeat (first | (with_reducible first | exact HB.out | apply below_alloc | apply pw_below_drewN | apply below_drew1) | exact HB.out))
       (case s2 => (with_reducible repeat (first | apply Kd.R_alloc | apply Kd.R_drewN | apply Kd.R_drew)); exact Kd.R_tight rfl HO.out)
       rintro e w4 ⟨rfl, hy, hb, hk⟩
       refine ⟨_, rfl, ?_⟩
       have n0 := Aside0.mk (Kd.R_reok rfl hy (fun k_ e_ => HO.out.1 k_ e_))
       have n1 := Aside0.mk (Kd.S_kept (by (with_reducible repeat (first | apply Kd.S_alloc | apply Kd.S_drewN | apply Kd.S_drew)); exact HS.out) hk (fun k_ (h_ : P0_ k_ ∧ some k_ ≠ (.slice A1 l1.length z1 : Value).ownBlock) e_ => h_.2 e_))
       have n2 := Aside0.mk (Kept.then_ (S := P0_) (by repeat (first | (with_reducible first | exact HK.out | apply Kept.alloc | apply Kept.drewN | apply Kept.drew) | exact HK.out)) hk (fun k_ h_ => .inl (HO.out.1 k_ h_.symm)))
       have n3 := Aside0.mk hb
       have n4 := Aside0.mk (blk_kept (g := gb) (o := .cells #[.int .i64 a0, .slice A1 l1.length z1, .slice A2 l2.length z2] 47 (0, 0)) (by (with_reducible repeat (first | refine blk_drewN ?_ _ | refine blk_drew ?_ | refine blk_alloc ?_ _)); exact BK.out) hk (fun e_ => Kd.R_ne HO.out BK.out (by decide) e_))
       clear HO HS HK HB hb hk hy BK
       have HO := n0
       have HS := n1
       have HK := n2
       have HB := n3
       have BK := n4
       clear n0 n1 n2 n3 n4
       have hd0 : w4.cell? ⟨gb, 0, none⟩ = some (.int .i64 a0) := (blk_cell BK.out 0).trans rfl
       have hd1 : w4.cell? ⟨gb, 1, none⟩ = some (.slice A1 l1.length z1) := (blk_cell BK.out 1).trans rfl
       have hd2 : w4.cell? ⟨gb, 2, none⟩ = some (.slice A2 l2.length z2) := (blk_cell BK.out 2).trans rfl
       have hg0 := blk_frozen BK.out 0
       have hg1 := blk_frozen BK.out 1
       have hg2 := blk_frozen BK.out 2)
    | ((with_reducible refine gate_callee (f := 76) rfl ?_)
       refine goesL_ (some 12) rfl rfl Try.func76 (by kernel_rfl) rfl #[.slice A2 l2.length z2, .int .i64 b1] rfl (by (try simp only [List.map_toArray, List.map_cons, List.map_nil]); first | done | rfl) ?_
       refine (laws_markPendingS.calls k (fun k_ => P0_ k_ ∧ some k_ ≠ (.slice A1 l1.length z1 : Value).ownBlock) _ l2 b1 c1 c2 w0 _ ?s1 ?s2 E2.out).mono ?_
       (case s1 => repeat (first | (with_reducible first | exact HB.out | apply below_alloc | apply pw_below_drewN | apply below_drew1) | exact HB.out))
       (case s2 => (with_reducible repeat (first | apply Kd.S_alloc | apply Kd.S_drewN | apply Kd.S_drew)); exact HS.out)
       rintro e w6 ⟨rfl, hy, hb, hk⟩
       refine ⟨_, rfl, ?_⟩
       have n0 := Aside0.mk (Kd.R_reok (ok := fun k_ => P0_ k_) rfl (Kd.R_kept (by (with_reducible repeat (first | apply Kd.R_alloc | apply Kd.R_drewN | apply Kd.R_drew)); exact Kd.R_tight rfl HO.out) hk (fun k_ e_ (h_ : P0_ k_ ∧ some k_ ≠ (.slice A1 l1.length z1 : Value).ownBlock) => h_.2 e_)) (fun k_ e_ => HO.out.1 k_ e_))
       have n1 := Aside0.mk hy
       have n2 := Aside0.mk (Kept.then_ (S := P0_) (by repeat (first | (with_reducible first | exact HK.out | apply Kept.alloc | apply Kept.drewN | apply Kept.drew) | exact HK.out)) hk (fun k_ h_ => .inl h_.1))
       have n3 := Aside0.mk hb
       clear HO HS HK HB hb hk hy
       have HO := n0
       have HS := n1
       have HK := n2
       have HB := n3
       clear n0 n1 n2 n3))
  go_ret
  exact ⟨rfl, by (with_reducible repeat (first | apply Kd.R_alloc | apply Kd.R_drewN | apply Kd.R_drew)); exact HO.out, by (with_reducible repeat (first | apply Kd.S_alloc | apply Kd.S_drewN | apply Kd.S_drew)); exact HS.out, by repeat (first | (with_reducible first | exact HB.out | apply below_alloc | apply pw_below_drewN | apply below_drew1) | exact HB.out), by repeat (first | (with_reducible first | exact HK.out | apply Kept.alloc | apply Kept.drewN | apply Kept.drew) | exact HK.out)⟩

/-! ### impl.Device.write: one more write at the end of the cache -/
def writeC (a0 b : Int) (l : List Int) (l2 : List S67) : Int := if b < 0 ∨ a0 ≤ b then 2 else if (l.length : Int) ≠ 128 then 3 else if (l2.length : Int) ≥ 2048 then 4 else 0
def writeL (a0 b : Int) (l : List Int) (l2 : List S67) : List S67 := if writeC a0 b l l2 = 0 then l2 ++ [⟨b, l⟩] else l2
def impl_write.T7 : Bool × List (List Nat × List Nat) := (true, [([], []), ([], []), ([1], [1]), ([2], [2]), ([3], [3]), ([], []), ([], []), ([6], [6]), ([5, 7], [5, 7]), ([8], [8]), ([4, 9, 7], [4, 9]), ([0, 0, 1, 2, 3, 4, 5, 6, 7, 8, 9, 10], [0]), ([11, 0, 1, 2, 3, 4, 5, 6, 7, 8, 9, 10], [11]), ([12, 10, 10, 0, 1, 2, 3, 4, 5, 6, 7, 8, 9, 10], [10, 12])])
def impl_write.B7 : List Nat := [0, 0, 2, 6, 14, 0, 0, 64, 224, 480, 1022, 2047, 4095, 8191]
theorem impl_write.tab7 : rtab .any (opsOf Try.f87 7) = impl_write.T7 := by kernel_rfl
theorem impl_write.bits7 : waitsOk impl_write.T7.2 impl_write.B7 = true := by kernel_rfl
set_option maxHeartbeats 16000000 in
set_option maxRecDepth 100000 in
theorem impl_write.own (g : Nat) (a0 b : Int) (A : Option Addr) (c : Nat) (l : List Int) (u1 : Value) (l1 : List Int) (v2 : Value) (l2 : List S67) (P_ : Nat → Prop) (w0 w : World) (hB : Below w0.heap.size w0 w)
    (hbox : w.heap[g]? = some (.cells #[.int .i64 a0, u1, v2] 47 (0, 0))) (hg : w0.heap.size ≤ g) (ho : Kd.R (Kd.int .u8) 5 w w0.heap.size (fun _ => True) u1 l1) (hs : Kd.S k67 67 w w0.heap.size (fun k_ => (some k_ ≠ u1.ownBlock ∧ k_ ≠ g) ∧ P_ k_) v2 l2)
    (hP : ∀ k_, w.heap.size ≤ k_ → P_ k_) (hr : Kd.C (Kd.int .u8) w A l.length l) (hc : l.length ≤ c) :
    Calls Try.prog 87 #[.pointer (some ⟨g, 0, none⟩), .int .i64 b, .slice A l.length c] w fun e w' => ∃ v3 : Value, e = .returned (.int .i64 (writeC a0 b l l2)) ∧ w'.heap[g]? = some (.cells #[.int .i64 a0, u1, v3] 47 (0, 0)) ∧ Kd.R (Kd.int .u8) 5 w' w0.heap.size (fun _ => True) u1 l1 ∧ Kd.S k67 67 w' w0.heap.size (fun k_ => (some k_ ≠ u1.ownBlock ∧ k_ ≠ g) ∧ P_ k_) v3 (writeL a0 b l l2) ∧ Below w0.heap.size w0 w' ∧ Kept w w' (fun k_ => some k_ = v2.ownBlock ∨ k_ = g) := by
  have hu47 := Try.underlying47
  have hu67 := Try.underlying67
  have BK := Aside0.mk hbox
  have HG := Aside0.mk hg
  have HO := Aside0.mk ho
  have HS := Aside0.mk hs
  have HR := Aside0.mk hr
  have HP := Aside0.mk hP
  have HC := Aside0.mk hc
  have HB := Aside0.mk hB
  clear hbox hg ho hs hr hc hB hP
  obtain ⟨A2, c2, e2⟩ := Kd.S_slice HS.out
  subst e2
  obtain ⟨A1, c1, e1⟩ := Kd.R_slice HO.out
  subst e1
  have hc0 : w.cell? ⟨g, 0, none⟩ = some (.int .i64 a0) := (blk_cell BK.out 0).trans rfl
  have hc1 : w.cell? ⟨g, 1, none⟩ = some (.slice A1 l1.length c1) := (blk_cell BK.out 1).trans rfl
  have hc2 : w.cell? ⟨g, 2, none⟩ = some (.slice A2 l2.length c2) := (blk_cell BK.out 2).trans rfl
  have hf0 := blk_frozen BK.out 0
  have hf1 := blk_frozen BK.out 1
  have hf2 := blk_frozen BK.out 2
  by_cases h1 : b < 0
  · have EC : writeC a0 b l l2 = 2 := by unfold writeC; rw [if_pos (.inl h1)]
    have d1 : decide (b < 0) = true := decide_eq_true h1
    clear h1
    have eC : writeC a0 b l l2 = 2 := EC
    have eL : writeL a0 b l l2 = l2 := by unfold writeL; rw [eC]; rfl
    rw [eC, eL]
    clear eC eL EC
    go_enter Try.func87, Try.ntmps87
    go_wp2
    refine bodyPost_ret (v := .int .i64 2) (by simp [results, Try.f87, go_sem, *]) rfl ?_
    exact ⟨_, rfl, by (with_reducible repeat (first | refine blk_drewN ?_ _ | refine blk_drew ?_ | refine blk_alloc ?_ _)); exact BK.out, by (with_reducible repeat (first | apply Kd.R_alloc | apply Kd.R_drewN | apply Kd.R_drew)); exact HO.out, by (with_reducible repeat (first | apply Kd.S_alloc | apply Kd.S_drewN | apply Kd.S_drew)); exact HS.out, by repeat (first | (with_reducible first | exact HB.out | apply below_alloc | apply pw_below_drewN | apply below_drew1) | exact HB.out), by repeat (first | (with_reducible first | exact Kept.refl _ _ | apply Kept.alloc | apply Kept.drewN | apply Kept.drew) | exact Kept.refl _ _)⟩
  have d1 : decide (b < 0) = false := decide_eq_false h1
  by_cases h2 : a0 ≤ b
  · have EC : writeC a0 b l l2 = 2 := by unfold writeC; rw [if_pos (.inr h2)]
    have d2 : decide (b ≥ a0) = true := decide_eq_true h2
    have d2b : decide (a0 ≤ b) = true := decide_eq_true h2
    clear h1 h2
    have eC : writeC a0 b l l2 = 2 := EC
    have eL : writeL a0 b l l2 = l2 := by unfold writeL; rw [eC]; rfl
    rw [eC, eL]
    clear eC eL EC
    go_enter Try.func87, Try.ntmps87
    go_wp2
    refine bodyPost_ret (v := .int .i64 2) (by simp [results, Try.f87, go_sem, *]) rfl ?_
    exact ⟨_, rfl, by (with_reducible repeat (first | refine blk_drewN ?_ _ | refine blk_drew ?_ | refine blk_alloc ?_ _)); exact BK.out, by (with_reducible repeat (first | apply Kd.R_alloc | apply Kd.R_drewN | apply Kd.R_drew)); exact HO.out, by (with_reducible repeat (first | apply Kd.S_alloc | apply Kd.S_drewN | apply Kd.S_drew)); exact HS.out, by repeat (first | (with_reducible first | exact HB.out | apply below_alloc | apply pw_below_drewN | apply below_drew1) | exact HB.out), by repeat (first | (with_reducible first | exact Kept.refl _ _ | apply Kept.alloc | apply Kept.drewN | apply Kept.drew) | exact Kept.refl _ _)⟩
  have d2 : decide (b ≥ a0) = false := decide_eq_false h2
  have d2b : decide (a0 ≤ b) = false := decide_eq_false h2
  by_cases h3 : (l.length : Int) = 128
  case neg =>
    have EC : writeC a0 b l l2 = 3 := by unfold writeC; rw [if_neg (by omega), if_pos h3]
    have d3 : decide ((l.length : Int) ≠ 128) = true := decide_eq_true h3
    have d3b : decide ((l.length : Int) = 128) = false := decide_eq_false h3
    have d3c : ((l.length : Int) != 128) = true := by rw [bne_iff_ne]; exact h3
    clear h1 h2 h3
    have eC : writeC a0 b l l2 = 3 := EC
    have eL : writeL a0 b l l2 = l2 := by unfold writeL; rw [eC]; rfl
    rw [eC, eL]
    clear eC eL EC
    go_enter Try.func87, Try.ntmps87
    go_wp2
    refine bodyPost_ret (v := .int .i64 3) (by simp [results, Try.f87, go_sem, *]) rfl ?_
    exact ⟨_, rfl, by (with_reducible repeat (first | refine blk_drewN ?_ _ | refine blk_drew ?_ | refine blk_alloc ?_ _)); exact BK.out, by (with_reducible repeat (first | apply Kd.R_alloc | apply Kd.R_drewN | apply Kd.R_drew)); exact HO.out, by (with_reducible repeat (first | apply Kd.S_alloc | apply Kd.S_drewN | apply Kd.S_drew)); exact HS.out, by repeat (first | (with_reducible first | exact HB.out | apply below_alloc | apply pw_below_drewN | apply below_drew1) | exact HB.out), by repeat (first | (with_reducible first | exact Kept.refl _ _ | apply Kept.alloc | apply Kept.drewN | apply Kept.drew) | exact Kept.refl _ _)⟩
  have d3 : decide ((l.length : Int) ≠ 128) = false := decide_eq_false (by omega)
  have d3b : decide ((l.length : Int) = 128) = true := decide_eq_true h3
  have d3c : ((l.length : Int) != 128) = false := by rw [h3]; rfl
  by_cases h4 : (l2.length : Int) ≥ 2048
  · have EC : writeC a0 b l l2 = 4 := by unfold writeC; rw [if_neg (by omega), if_neg (by omega), if_pos h4]
    have d4 : decide ((l2.length : Int) ≥ 2048) = true := decide_eq_true h4
    have d4b : decide (2048 ≤ (l2.length : Int)) = true := decide_eq_true h4
    have d4c : decide (2048 ≤ l2.length) = true := decide_eq_true (by omega)
    clear h1 h2 h3 h4
    have eC : writeC a0 b l l2 = 4 := EC
    have eL : writeL a0 b l l2 = l2 := by unfold writeL; rw [eC]; rfl
    rw [eC, eL]
    clear eC eL EC
    go_enter Try.func87, Try.ntmps87
    go_wp2
    refine bodyPost_ret (v := .int .i64 4) (by simp [results, Try.f87, go_sem, *]) rfl ?_
    exact ⟨_, rfl, by (with_reducible repeat (first | refine blk_drewN ?_ _ | refine blk_drew ?_ | refine blk_alloc ?_ _)); exact BK.out, by (with_reducible repeat (first | apply Kd.R_alloc | apply Kd.R_drewN | apply Kd.R_drew)); exact HO.out, by (with_reducible repeat (first | apply Kd.S_alloc | apply Kd.S_drewN | apply Kd.S_drew)); exact HS.out, by repeat (first | (with_reducible first | exact HB.out | apply below_alloc | apply pw_below_drewN | apply below_drew1) | exact HB.out), by repeat (first | (with_reducible first | exact Kept.refl _ _ | apply Kept.alloc | apply Kept.drewN | apply Kept.drew) | exact Kept.refl _ _)⟩
  have d4 : decide ((l2.length : Int) ≥ 2048) = false := decide_eq_false h4
  have d4b : decide (2048 ≤ (l2.length : Int)) = false := decide_eq_false (by omega)
  have d4c : decide (2048 ≤ l2.length) = false := decide_eq_false (by omega)
  have EC : writeC a0 b l l2 = 0 := by unfold writeC; rw [if_neg (by omega), if_neg (by omega), if_neg h4]
  have eL : writeL a0 b l l2 = l2 ++ [⟨b, l⟩] := by unfold writeL; rw [EC]; rfl
  rw [EC, eL]
  have HL3 := Aside0.mk h3
  have HL4 := Aside0.mk h4
  clear EC eL h1 h2 h3 h4
  go_enter Try.func87, Try.ntmps87
  try go_wp2
  refine Law.region_world (fun w1 hw1 => ?_)
  obtain ⟨w2, hw2⟩ : ∃ w2 : World, w2 = w1.drew := ⟨_, rfl⟩
  have HO1 := Aside0.mk (show Kd.R (Kd.int .u8) 5 w2 w0.heap.size (fun _ => True) (.slice A1 l1.length c1) l1 by rw [hw2, hw1]; (with_reducible repeat (first | apply Kd.R_alloc | apply Kd.R_drewN | apply Kd.R_drew)); exact HO.out)
  have HS1 := Aside0.mk (show Kd.S k67 67 w2 w0.heap.size (fun k_ => (some k_ ≠ (Value.slice A1 l1.length c1).ownBlock ∧ k_ ≠ g) ∧ P_ k_) (.slice A2 l2.length c2) l2 by rw [hw2, hw1]; (with_reducible repeat (first | apply Kd.S_alloc | apply Kd.S_drewN | apply Kd.S_drew)); exact HS.out)
  have BK1 := Aside0.mk (show w2.heap[g]? = some (.cells #[.int .i64 a0, .slice A1 l1.length c1, .slice A2 l2.length c2] 47 (0, 0)) by rw [hw2, hw1]; (with_reducible repeat (first | refine blk_drewN ?_ _ | refine blk_drew ?_ | refine blk_alloc ?_ _)); exact BK.out)
  have HB1 := Aside0.mk (show Below w0.heap.size w0 w2 by rw [hw2, hw1]; repeat (first | (with_reducible first | exact HB.out | apply below_alloc | apply pw_below_drewN | apply below_drew1) | exact HB.out))
  have HK1 := Aside0.mk (show Kept w w2 (fun k_ => some k_ = (Value.slice A2 l2.length c2).ownBlock ∨ k_ = g) by rw [hw2, hw1]; repeat (first | (with_reducible first | exact Kept.refl _ _ | apply Kept.alloc | apply Kept.drewN | apply Kept.drew) | exact Kept.refl _ _))
  have HZ1 := Aside0.mk (show Below w.heap.size w w2 by rw [hw2, hw1]; repeat (first | (with_reducible first | exact Below.refl _ _ | apply below_alloc | apply pw_below_drewN | apply below_drew1) | exact Below.refl _ _))
  have HR1 := Aside0.mk (Kd.C_below HR.out HZ1.out)
  refine start_ (n := 14) (S := fun w' => w'.cell? ⟨g, 2, none⟩ = some (.slice A2 l2.length c2)) (ds := [13]) #[false, false, false, false, false, false, false, false, false, false, false, false, false, false] (by kernel_rfl) rfl rfl (by rw [← hw2]; exact (blk_cell BK1.out 2).trans rfl) ?_
  rw [← hw2]
  intro hHeld
  clear hw2 hw1 hc0 hc1 hc2 hf0 hf1 hf2 BK HO HS HR HB HZ1
  refine with_tabW impl_write.tab7 impl_write.bits7 (fun HT_ HW_ => ?_)
  refine pure_ (i := 0) (N := some 26) (v := ?_) (a' := ?_) #[true, false, false, false, false, false, false, false, false, false, false, false, false, false] rfl rfl (any_of HT_.out (by kernel_rfl)) (fun _ _ _ h => h) (Or.inl ⟨by rfl, ?_⟩) ?_ ?_
  rotate_left
  · intro w'
    go_simp
    with_reducible rfl
  rotate_left
  · simp only [Act.put, List.setIfInBounds_toArray, List.set_cons_zero, List.set_cons_succ, i64_w, i32_w]
    rfl
  refine pure_ (i := 1) (N := some 27) (v := ?_) (a' := ?_) #[true, true, false, false, false, false, false, false, false, false, false, false, false, false] rfl rfl (any_of HT_.out (by kernel_rfl)) (fun _ _ _ h => h) (Or.inl ⟨by rfl, ?_⟩) ?_ ?_
  rotate_left
  · intro w'
    go_simp
    with_reducible rfl
  rotate_left
  · simp only [Act.put, List.setIfInBounds_toArray, List.set_cons_zero, List.set_cons_succ, i64_w, i32_w]
    rfl
  refine pure_ (i := 2) (N := some 28) (v := ?_) (a' := ?_) #[true, true, true, false, false, false, false, false, false, false, false, false, false, false] rfl rfl (any_of HT_.out (by kernel_rfl)) (fun _ _ _ h => h) (Or.inl ⟨by rfl, ?_⟩) ?_ ?_
  rotate_left
  · intro w'
    go_simp
    with_reducible rfl
  rotate_left
  · simp only [Act.put, List.setIfInBounds_toArray, List.set_cons_zero, List.set_cons_succ, i64_w, i32_w]
    rfl
  refine pure_ (i := 3) (N := some 29) (v := ?_) (a' := ?_) #[true, true, true, true, false, false, false, false, false, false, false, false, false, false] rfl rfl (any_of HT_.out (by kernel_rfl)) (fun _ _ _ h => h) (Or.inl ⟨by rfl, ?_⟩) ?_ ?_
  rotate_left
  · intro w'
    go_simp
    with_reducible rfl
  rotate_left
  · simp only [Act.put, List.setIfInBounds_toArray, List.set_cons_zero, List.set_cons_succ, i64_w, i32_w]
    rfl
  refine pure_ (i := 5) (N := some 31) (v := ?_) (a' := ?_) #[true, true, true, true, false, true, false, false, false, false, false, false, false, false] rfl rfl (any_of HT_.out (by kernel_rfl)) (fun _ _ _ h => h) (Or.inl ⟨by rfl, ?_⟩) ?_ ?_
  rotate_left
  · intro w'
    go_simp
    with_reducible rfl
  rotate_left
  · simp only [Act.put, List.setIfInBounds_toArray, List.set_cons_zero, List.set_cons_succ, i64_w, i32_w]
    rfl
  refine pure_ (i := 6) (N := some 32) (v := ?_) (a' := ?_) #[true, true, true, true, false, true, true, false, false, false, false, false, false, false] rfl rfl (any_of HT_.out (by kernel_rfl)) (fun _ _ _ h => h) (Or.inl ⟨by rfl, ?_⟩) ?_ ?_
  rotate_left
  · intro w'
    go_simp
    with_reducible rfl
  rotate_left
  · simp only [Act.put, List.setIfInBounds_toArray, List.set_cons_zero, List.set_cons_succ, i64_w, i32_w]
    rfl
  refine take_ (i := 4) (N := some 30) (v := ?_) (a' := ?_) #[true, true, true, true, true, true, true, false, false, false, false, false, false, false] rfl rfl (take_ofW HT_.out HW_.out (by kernel_rfl)) (fun _ _ _ h => h) (Or.inl ⟨by rfl, ?_⟩) hHeld ?_ ?_
  rotate_left
  · intro w' s0
    go_simp
    with_reducible rfl
  rotate_left
  · simp only [Act.put, List.setIfInBounds_toArray, List.set_cons_zero, List.set_cons_succ, i64_w, i32_w]
    rfl
  refine one_ (i := 7) (N := some 33) #[true, true, true, true, true, true, true, true, false, false, false, false, false, false] rfl rfl (one_of HT_.out (by kernel_rfl)) (by decide) (fun K hK => ?_)
  obtain ⟨y, hy⟩ : ∃ y : List Int, y = ([] : List Int) ++ l := ⟨_, rfl⟩
  have HY := Aside0.mk hy
  clear hy
  refine Kd.R_append_rows_step (Kd.int .u8) (w0 := w0) w0.heap.size (by rfl) (.const (.slice none 0 0)) (.tmp 32) 38 5 (.int .u8 0) 1 rfl Try.underlying38 info5 rfl (by decide) (by omega) (.slice none 0 0) ([] : List Int) l _ _ _ (fun k_ => (some k_ ≠ (.slice A1 l1.length c1 : Value).ownBlock ∧ k_ ≠ g) ∧ P_ k_) (fun _ => False) rfl rfl ?aO ?aR (fun _ _ h => h) (fun _ h => h.elim) ?aF ?aB ?aS ?aL ?_
  (case aR => exact HR1.out)
  (case aB => exact HB1.out)
  (case aF => exact (fun k_ hk => ⟨⟨Kd.fresh' (Kd.R_lt HO1.out) k_ hk, Kd.freshB BK1.out k_ hk⟩, HP.out k_ (Nat.le_trans HK1.out.1 hk)⟩))
  (case aO => exact (Kd.R_nil _ _ _ _ _))
  (case aS => exact below_size HB1.out)
  (case aL => have := HL3.out; simp only [List.length_nil]; omega)
  intro v3 w3 ho hb hg hat
  rw [← HY.out] at ho
  have HO3 := Aside0.mk (Kd.R_after (Kd.R_apart_nil HO1.out) hg hat)
  have HS3 := Aside0.mk (Kd.S_after (Kd.S_apart_nil HS1.out) hg hat)
  have BK3 := Aside0.mk (blk_grown (g := g) BK1.out hg (by simp [Value.ownBlock]))
  have HB3 := Aside0.mk hb
  have HY3 := Aside0.mk ho
  have HK3 := Aside0.mk (Kept.of_grown (S := (fun k_ => some k_ = (Value.slice A2 l2.length c2).ownBlock ∨ k_ = g)) hg HK1.out (fun k e_ => by cases e_))
  clear HO1 HS1 BK1 HB1 HK1 ho hb hg hat HR1
  obtain ⟨Ay, cy, ey⟩ := Kd.R_slice HY3.out
  (first | subst ey | (injection ey with f1_ f2_ f3_; have f4_ := f1_.symm; have f5_ := f3_.symm; clear f1_ f2_ f3_; subst f4_; subst f5_))
  refine hK.out _ _ ((blk_cell BK3.out 2).trans rfl) (fun hHeld => ?_)
  clear hK K
  refine norm_ (a' := ?_) ?_ ?_
  rotate_left
  · show Act.put _ (some 33) _ = _
    simp only [Act.put, List.setIfInBounds_toArray, List.set_cons_zero, List.set_cons_succ, i64_w, i32_w]
    rfl
  refine pure_ (i := 8) (N := some 34) (v := ?_) (a' := ?_) #[true, true, true, true, true, true, true, true, true, false, false, false, false, false] rfl rfl (any_of HT_.out (by kernel_rfl)) (fun _ _ _ h => h) (Or.inl ⟨by rfl, ?_⟩) ?_ ?_
  rotate_left
  · intro w'
    go_simp
    with_reducible rfl
  rotate_left
  · simp only [Act.put, List.setIfInBounds_toArray, List.set_cons_zero, List.set_cons_succ, i64_w, i32_w]
    rfl
  refine one_ (i := 9) (N := some 35) #[true, true, true, true, true, true, true, true, true, true, false, false, false, false] rfl rfl (one_of HT_.out (by kernel_rfl)) (by decide) (fun K hK => ?_)
  refine value_ (w1 := ?_) (v := ?_) (by rfl) rfl ?_ ?_
  rotate_left 2
  · go_simp
    constructor
    · rfl
    · rfl
  refine hK.out _ _ ((blk_cell (blk_alloc BK3.out _) 2).trans rfl) (fun hHeld => ?_)
  clear hK K
  refine norm_ (a' := ?_) ?_ ?_
  rotate_left
  · show Act.put _ (some 35) _ = _
    simp only [Act.put, List.setIfInBounds_toArray, List.set_cons_zero, List.set_cons_succ, i64_w, i32_w]
    rfl
  refine one_ (i := 10) (N := some 36) #[true, true, true, true, true, true, true, true, true, true, true, false, false, false] rfl rfl (one_of HT_.out (by kernel_rfl)) (by decide) (fun K hK => ?_)
  obtain ⟨z, hz⟩ : ∃ z : List S67, z = l2 ++ [(⟨b, y⟩ : S67)] := ⟨_, rfl⟩
  have HZ := Aside0.mk hz
  clear hz
  refine Kd.S_append_step k67 (w0 := w0) w0.heap.size (by rfl) (.tmp 30) (.tmp 35) 45 67 (.agg #[(.int .i64 0), (.slice none 0 0)]) 32 rfl Try.underlying45 info67 rfl (by decide) (by omega) (.slice A2 l2.length c2) l2 (⟨b, y⟩ : S67) [.int .i64 b, .slice Ay y.length cy] (fun k_ => (some k_ ≠ (.slice A1 l1.length c1 : Value).ownBlock ∧ k_ ≠ g) ∧ P_ k_) (fun k_ => some k_ = (.slice Ay y.length cy : Value).ownBlock) rfl rfl ?aP (fun k_ hk_ => ((Kd.R_mono (ok' := fun k_ => ((fun k_ => (some k_ ≠ (.slice A1 l1.length c1 : Value).ownBlock ∧ k_ ≠ g) ∧ P_ k_) k_) ∧ some k_ ≠ (Value.slice A2 l2.length c2).ownBlock) (Kd.R_apart' (HY3.out) (Kd.S_typed HS3.out) (by decide)) (fun k_ hk => hk))).1 k_ hk_.symm) ?aF ?aO ?aB ?aS ?aL ?_
  (case aP => exact k67_mkM _ _ _ (⟨b, y⟩ : S67) (Kd.R_mono (Kd.R_tight rfl (Kd.R_mono (ok' := fun k_ => ((fun k_ => (some k_ ≠ (.slice A1 l1.length c1 : Value).ownBlock ∧ k_ ≠ g) ∧ P_ k_) k_) ∧ some k_ ≠ (Value.slice A2 l2.length c2).ownBlock) (Kd.R_apart' (HY3.out) (Kd.S_typed HS3.out) (by decide)) (fun k_ hk => hk))) (fun _ h_ => h_)))
  (case aB => exact (by repeat (first | (with_reducible first | exact HB3.out | apply below_alloc | apply pw_below_drewN | apply below_drew1) | exact HB3.out)))
  (case aF => exact (fun k_ hk => ⟨⟨Kd.fresh' (Kd.R_lt (by (with_reducible repeat (first | apply Kd.R_alloc | apply Kd.R_drewN | apply Kd.R_drew)); exact HO3.out)) k_ hk, Kd.freshB (by (with_reducible repeat (first | refine blk_drewN ?_ _ | refine blk_drew ?_ | refine blk_alloc ?_ _)); exact BK3.out) k_ hk⟩, HP.out k_ (Nat.le_trans HK3.out.1 hk)⟩))
  (case aO => exact (by (with_reducible repeat (first | apply Kd.S_alloc | apply Kd.S_drewN | apply Kd.S_drew)); exact Kd.S_mono HS3.out (fun k_ hk => ⟨hk.1, fun e_ => hk.2 e_⟩)))
  (case aS => exact (below_size (by repeat (first | (with_reducible first | exact HB3.out | apply below_alloc | apply pw_below_drewN | apply below_drew1) | exact HB3.out))))
  (case aL => have := HL4.out; omega)
  intro v4 w4 ho hb hg hat
  rw [← HZ.out] at ho
  have HO4 := Aside0.mk (Kd.R_over' (by (with_reducible repeat (first | apply Kd.R_alloc | apply Kd.R_drewN | apply Kd.R_drew)); exact HO3.out) (Kd.S_typed (by (with_reducible repeat (first | apply Kd.S_alloc | apply Kd.S_drewN | apply Kd.S_drew)); exact HS3.out)) (by decide) hg)
  have BK4 := Aside0.mk (blk_grown (g := g) (by (with_reducible repeat (first | refine blk_drewN ?_ _ | refine blk_drew ?_ | refine blk_alloc ?_ _)); exact BK3.out) hg (Kd.S_ne HS3.out BK3.out (by decide)))
  have HB4 := Aside0.mk hb
  have HS4 := Aside0.mk ho
  have HK4 := Aside0.mk (Kept.of_grown (S := (fun k_ => some k_ = (Value.slice A2 l2.length c2).ownBlock ∨ k_ = g)) hg (by (with_reducible repeat (first | apply Kept.alloc | apply Kept.drewN | apply Kept.drew)); exact HK3.out) (fun k e_ => .inl (.inl e_.symm)))
  clear HO3 HS3 BK3 HB3 HK3 ho hb hg hat HY3
  obtain ⟨A4, c4, e4⟩ := Kd.S_slice HS4.out
  (first | subst e4 | (injection e4 with f1_ f2_ f3_; have f4_ := f1_.symm; have f5_ := f3_.symm; clear f1_ f2_ f3_; subst f4_; subst f5_))
  refine hK.out _ _ ((blk_cell BK4.out 2).trans rfl) (fun hHeld => ?_)
  clear hK K
  refine norm_ (a' := ?_) ?_ ?_
  rotate_left
  · show Act.put _ (some 36) _ = _
    simp only [Act.put, List.setIfInBounds_toArray, List.set_cons_zero, List.set_cons_succ, i64_w, i32_w]
    rfl
  refine pure_ (i := 11) (N := some 37) (v := ?_) (a' := ?_) #[true, true, true, true, true, true, true, true, true, true, true, true, false, false] rfl rfl (any_of HT_.out (by kernel_rfl)) (fun _ _ _ h => h) (Or.inl ⟨by rfl, ?_⟩) ?_ ?_
  rotate_left
  · intro w'
    go_simp
    with_reducible rfl
  rotate_left
  · simp only [Act.put, List.setIfInBounds_toArray, List.set_cons_zero, List.set_cons_succ, i64_w, i32_w]
    rfl
  refine pure_ (i := 12) (N := some 38) (v := ?_) (a' := ?_) #[true, true, true, true, true, true, true, true, true, true, true, true, true, false] rfl rfl (any_of HT_.out (by kernel_rfl)) (fun _ _ _ h => h) (Or.inl ⟨by rfl, ?_⟩) ?_ ?_
  rotate_left
  · intro w'
    go_simp
    with_reducible rfl
  rotate_left
  · simp only [Act.put, List.setIfInBounds_toArray, List.set_cons_zero, List.set_cons_succ, i64_w, i32_w]
    rfl
  refine last_ (i := 13) (N := none) #[true, true, true, true, true, true, true, true, true, true, true, true, true, true] rfl rfl (one_of HT_.out (by kernel_rfl)) (by decide) (fun K hK => ?_)
  have hs2 : w4.cell? ⟨g, 2, none⟩ = some (.slice A2 l2.length c2) := (blk_cell BK4.out 2).trans rfl
  have hfs2 := blk_frozen BK4.out 2
  refine skip_ (w1 := ?_) (by rfl) rfl ?_ ?_
  rotate_left
  · go_simp
    rfl
  refine hK.out _ _ ?_
  clear hK K
  refine done_ (done_of HT_.out (by kernel_rfl)) ?_
  try go_wp2
  refine bodyPost_ret (v := .int .i64 0) (by simp [results, Try.f87, go_sem, *]) rfl ?_
  have ez : z = l2 ++ [⟨b, l⟩] := by rw [HZ.out, HY.out, List.nil_append]
  rw [← ez]
  refine ⟨.slice A4 z.length c4, rfl, ?_, ?_, ?_, ?_, ?_⟩
  · (with_reducible repeat (first | refine blk_drewN ?_ _ | refine blk_drew ?_ | refine blk_alloc ?_ _)); exact blk_put (cs := #[.int .i64 a0, .slice A1 l1.length c1, .slice A2 l2.length c2]) BK4.out 2 _ rfl
  · (with_reducible repeat (first | apply Kd.R_alloc | apply Kd.R_drewN | apply Kd.R_drew)); exact Kd.R_mono (Kd.R_far (p := ⟨g, 2, none⟩) (Kd.R_types HO4.out BK4.out (by decide)) (fun _ hk => hk.2) _) (fun _ hk => trivial)
  · (with_reducible repeat (first | apply Kd.S_alloc | apply Kd.S_drewN | apply Kd.S_drew)); exact Kd.S_mono (Kd.S_far (p := ⟨g, 2, none⟩) (Kd.S_types HS4.out BK4.out (by decide)) (fun _ hk => hk.2) _) (fun _ hk => hk.1)
  · repeat (first | (with_reducible first | exact below_set HB4.out HG.out | apply below_alloc | apply pw_below_drewN | apply below_drew1) | exact below_set HB4.out HG.out)
  · repeat (first | (with_reducible first | apply Kept.alloc | apply Kept.drewN | apply Kept.drew) | exact Kept.setCell HK4.out (.inl (.inr rfl)) _)

/-! ### impl.DevWrite -/
set_option maxHeartbeats 16000000 in
set_option maxRecDepth 100000 in
theorem impl_DevWrite.walk0 (a0_0 : Int) (A0_1 : Option Addr) (c0_1 : Nat) (l0_1 : List Int) (A0_2 : Option Addr) (c0_2 : Nat) (l0_2 : List S67) (a1 : Int) (A2 : Option Addr) (c2 : Nat) (l2 : List Int) (W : World) (hr0_1 : Kd.C (Kd.int .u8) W A0_1 l0_1.length l0_1) (hc0_1 : l0_1.length ≤ c0_1) (hr0_2 : Kd.C k67 W A0_2 l0_2.length l0_2) (hc0_2 : l0_2.length ≤ c0_2) (hr2 : Kd.C (Kd.int .u8) W A2 l2.length l2) (hc2 : l2.length ≤ c2) (k : Nat) (E7 : impl_validDevice.f k a0_0 l0_1 l0_2 = some false)  :
    Calls Try.prog 44 #[.agg #[.int .i64 a0_0, .slice A0_1 l0_1.length c0_1, .slice A0_2 l0_2.length c0_2], .int .i64 a1, .slice A2 l2.length c2] W fun e w' => e = .returned (.tuple #[.agg #[.int .i64 0, .slice none 0 0, .slice none 0 0], .int .i64 1]) ∧ Below W.heap.size W w' := by
  have HB := Aside0.mk (Below.refl W.heap.size W)
  have I : Law.Inv [] W := trivial
  have hu47 := Try.underlying47
  replace E7 := Aside0.mk E7
  go_enter Try.func44, Try.ntmps44
  go_wp2_with (first
    | ((with_reducible refine gate_dst (N := 3) rfl ?_)
       refine box_event ?hg (N := 3) ?hd (cs := #[.int .i64 a0_0, .slice A0_1 l0_1.length c0_1, .slice A0_2 l0_2.length c0_2]) (t := 47) ?hr ?_
       (case hd => rfl)
       (case hg => rfl)
       (case hr => first | (go_simp; done) | (go_simp; rfl))
       intro gb1 hg w2 hbox hb
       have I1 := Law.Inv.below (Law.Inv.on I (fun I => by (with_reducible repeat (first | apply Law.Inv.alloc | apply Law.Inv.drewN | apply Law.Inv.drew)); exact I)) hb
       have HB1 := Aside0.mk (below_step (by repeat (first | (with_reducible first | exact HB.out | apply below_alloc | apply pw_below_drewN | apply below_drew1) | exact HB.out)) hb)
       have SZ3 := Aside0.mk (show W.heap.size ≤ gb1 ∧ gb1 + 1 ≤ w2.heap.size from ⟨by rw [hg]; exact (by repeat (first | (with_reducible first | exact HB.out | apply below_alloc | apply pw_below_drewN | apply below_drew1) | exact HB.out) : Below W.heap.size W _).size, blk_lt hbox⟩)
       have I2 := Law.Inv.cons (s := Law.boxI gb1 #[.int .i64 a0_0, .slice A0_1 l0_1.length c0_1, .slice A0_2 l0_2.length c0_2] 47) ⟨hbox, blk_lt hbox⟩ I1
       clear I HB hbox hb hg I1
       have I := I2
       have HB := HB1
       clear I2 HB1
       have hcz_gb1_w2_0 : w2.cell? ⟨gb1, 0, none⟩ = some (.int .i64 a0_0) := (blk_cell (Law.blk_of (I.1.1)) 0).trans rfl
       have hfz_gb1_w2_0 := blk_frozen (Law.blk_of (I.1.1)) 0
       have hcz_gb1_w2_1 : w2.cell? ⟨gb1, 1, none⟩ = some (.slice A0_1 l0_1.length c0_1) := (blk_cell (Law.blk_of (I.1.1)) 1).trans rfl
       have hfz_gb1_w2_1 := blk_frozen (Law.blk_of (I.1.1)) 1
       have hcz_gb1_w2_2 : w2.cell? ⟨gb1, 2, none⟩ = some (.slice A0_2 l0_2.length c0_2) := (blk_cell (Law.blk_of (I.1.1)) 2).trans rfl
       have hfz_gb1_w2_2 := blk_frozen (Law.blk_of (I.1.1)) 2)
    | ((with_reducible refine gate_dst (N := 6) rfl ?_)
       refine box_event ?hg (N := 6) ?hd (cs := #[.int .i64 0, .slice none 0 0, .slice none 0 0]) (t := 47) ?hr ?_
       (case hd => rfl)
       (case hg => rfl)
       (case hr => first | (go_simp; done) | (go_simp; rfl))
       intro gb4 hg w5 hbox hb
       have I1 := Law.Inv.below (Law.Inv.on I (fun I => by (with_reducible repeat (first | apply Law.Inv.alloc | apply Law.Inv.drewN | apply Law.Inv.drew)); exact I)) hb
       have HB1 := Aside0.mk (below_step (by repeat (first | (with_reducible first | exact HB.out | apply below_alloc | apply pw_below_drewN | apply below_drew1) | exact HB.out)) hb)
       have SZ6 := Aside0.mk (show W.heap.size ≤ gb4 ∧ gb1 + 1 ≤ gb4 ∧ gb4 + 1 ≤ w5.heap.size from ⟨by rw [hg]; exact (by repeat (first | (with_reducible first | exact HB.out | apply below_alloc | apply pw_below_drewN | apply below_drew1) | exact HB.out) : Below W.heap.size W _).size, by rw [hg]; exact (Law.Inv.on I (fun I => by (with_reducible repeat (first | apply Law.Inv.alloc | apply Law.Inv.drewN | apply Law.Inv.drew)); exact I)).1.2, blk_lt hbox⟩)
       have I2 := Law.Inv.cons (s := Law.boxI gb4 #[.int .i64 0, .slice none 0 0, .slice none 0 0] 47) ⟨hbox, blk_lt hbox⟩ I1
       clear I HB hbox hb hg I1
       have I := I2
       have HB := HB1
       clear I2 HB1
       have hne_gb4_gb1 : gb4 ≠ gb1 := (by have := SZ3.out; have := SZ6.out; first | omega | (simp only [Law.rowI, Law.rowsI, Law.boxI]; omega))
       have hne_gb1_gb4 : gb1 ≠ gb4 := (by have := SZ3.out; have := SZ6.out; first | omega | (simp only [Law.rowI, Law.rowsI, Law.boxI]; omega))
       have hcz_gb1_w5_0 : w5.cell? ⟨gb1, 0, none⟩ = some (.int .i64 a0_0) := (blk_cell (Law.blk_of (I.2.1.1)) 0).trans rfl
       have hfz_gb1_w5_0 := blk_frozen (Law.blk_of (I.2.1.1)) 0
       have hcz_gb1_w5_1 : w5.cell? ⟨gb1, 1, none⟩ = some (.slice A0_1 l0_1.length c0_1) := (blk_cell (Law.blk_of (I.2.1.1)) 1).trans rfl
       have hfz_gb1_w5_1 := blk_frozen (Law.blk_of (I.2.1.1)) 1
       have hcz_gb1_w5_2 : w5.cell? ⟨gb1, 2, none⟩ = some (.slice A0_2 l0_2.length c0_2) := (blk_cell (Law.blk_of (I.2.1.1)) 2).trans rfl
       have hfz_gb1_w5_2 := blk_frozen (Law.blk_of (I.2.1.1)) 2
       have hcz_gb4_w5_0 : w5.cell? ⟨gb4, 0, none⟩ = some (.int .i64 0) := (blk_cell (Law.blk_of (I.1.1)) 0).trans rfl
       have hfz_gb4_w5_0 := blk_frozen (Law.blk_of (I.1.1)) 0
       have hcz_gb4_w5_1 : w5.cell? ⟨gb4, 1, none⟩ = some (.slice none 0 0) := (blk_cell (Law.blk_of (I.1.1)) 1).trans rfl
       have hfz_gb4_w5_1 := blk_frozen (Law.blk_of (I.1.1)) 1
       have hcz_gb4_w5_2 : w5.cell? ⟨gb4, 2, none⟩ = some (.slice none 0 0) := (blk_cell (Law.blk_of (I.1.1)) 2).trans rfl
       have hfz_gb4_w5_2 := blk_frozen (Law.blk_of (I.1.1)) 2)
    | ((with_reducible refine gate_callee (f := 74) rfl ?_)
       refine goesL_ (some 11) rfl rfl Try.func74 (by kernel_rfl) rfl #[.agg #[.int .i64 a0_0, .slice A0_1 l0_1.length c0_1, .slice A0_2 l0_2.length c0_2]] rfl (by (try simp only [List.map_toArray, List.map_cons, List.map_nil]); first | done | rfl) ?_
       refine Law.at_world (fun w8 hw1 => ?_)
       have I1 := Law.Inv.to I hw1 (fun I => by (with_reducible repeat (first | apply Law.Inv.alloc | apply Law.Inv.drewN | apply Law.Inv.drew)); exact I)
       have HB1 := Aside0.mk (show Below W.heap.size W w8 by rw [hw1]; repeat (first | (with_reducible first | exact HB.out | apply below_alloc | apply pw_below_drewN | apply below_drew1) | exact HB.out))
       clear I HB hw1
       have I := I1
       have HB := HB1
       clear I1 HB1
       refine (impl_validDevice.calls k a0_0 A0_1 c0_1 l0_1 A0_2 c0_2 l0_2 false w8 ?_ ?_ ?_ ?_ E7.out).mono ?_
       · exact Kd.C_below hr0_1 HB.out
       · exact hc0_1
       · exact Kd.C_below hr0_2 HB.out
       · exact hc0_2
       rintro e w9 ⟨rfl, hq0⟩
       refine ⟨_, rfl, ?_⟩
       have I1 := Law.Inv.below I hq0
       have HB1 := Aside0.mk (below_step HB.out hq0)
       have SZ10 := Aside0.mk (show W.heap.size ≤ w8.heap.size ∧ gb4 + 1 ≤ w8.heap.size ∧ w8.heap.size ≤ w9.heap.size from ⟨HB.out.size, I.1.2, hq0.size⟩)
       clear I HB
       have I := I1
       have HB := HB1
       clear I1 HB1
       have hcz_gb1_w9_0 : w9.cell? ⟨gb1, 0, none⟩ = some (.int .i64 a0_0) := (blk_cell (Law.blk_of (I.2.1.1)) 0).trans rfl
       have hfz_gb1_w9_0 := blk_frozen (Law.blk_of (I.2.1.1)) 0
       have hcz_gb1_w9_1 : w9.cell? ⟨gb1, 1, none⟩ = some (.slice A0_1 l0_1.length c0_1) := (blk_cell (Law.blk_of (I.2.1.1)) 1).trans rfl
       have hfz_gb1_w9_1 := blk_frozen (Law.blk_of (I.2.1.1)) 1
       have hcz_gb1_w9_2 : w9.cell? ⟨gb1, 2, none⟩ = some (.slice A0_2 l0_2.length c0_2) := (blk_cell (Law.blk_of (I.2.1.1)) 2).trans rfl
       have hfz_gb1_w9_2 := blk_frozen (Law.blk_of (I.2.1.1)) 2
       have hcz_gb4_w9_0 : w9.cell? ⟨gb4, 0, none⟩ = some (.int .i64 0) := (blk_cell (Law.blk_of (I.1.1)) 0).trans rfl
       have hfz_gb4_w9_0 := blk_frozen (Law.blk_of (I.1.1)) 0
       have hcz_gb4_w9_1 : w9.cell? ⟨gb4, 1, none⟩ = some (.slice none 0 0) := (blk_cell (Law.blk_of (I.1.1)) 1).trans rfl
       have hfz_gb4_w9_1 := blk_frozen (Law.blk_of (I.1.1)) 1
       have hcz_gb4_w9_2 : w9.cell? ⟨gb4, 2, none⟩ = some (.slice none 0 0) := (blk_cell (Law.blk_of (I.1.1)) 2).trans rfl
       have hfz_gb4_w9_2 := blk_frozen (Law.blk_of (I.1.1)) 2))
  try go_wp2
  refine Law.post_world (fun wE hwE => ?_)
  have I1 : Law.Inv [Law.boxI gb4 #[.int .i64 0, .slice none 0 0, .slice none 0 0] 47, Law.boxI gb1 #[.int .i64 a0_0, .slice A0_1 l0_1.length c0_1, .slice A0_2 l0_2.length c0_2] 47] wE := by rw [hwE]; (with_reducible repeat (first | apply Law.Inv.alloc | apply Law.Inv.drewN | apply Law.Inv.drew)); refine Law.Inv.put (cs := #[.int .i64 0, .slice none 0 0, .slice none 0 0]) ?_ (by have := SZ3.out; have := SZ6.out; have := SZ10.out; refine ⟨?_, trivial⟩ <;> simp only [Law.rowI, Law.rowsI, Law.boxI] <;> omega) rfl; (with_reducible repeat (first | apply Law.Inv.alloc | apply Law.Inv.drewN | apply Law.Inv.drew)); refine Law.Inv.put (cs := #[.int .i64 0, .slice none 0 0, .slice none 0 0]) ?_ (by have := SZ3.out; have := SZ6.out; have := SZ10.out; refine ⟨?_, trivial⟩ <;> simp only [Law.rowI, Law.rowsI, Law.boxI] <;> omega) rfl; (with_reducible repeat (first | apply Law.Inv.alloc | apply Law.Inv.drewN | apply Law.Inv.drew)); refine Law.Inv.put (cs := #[.int .i64 0, .slice none 0 0, .slice none 0 0]) ?_ (by have := SZ3.out; have := SZ6.out; have := SZ10.out; refine ⟨?_, trivial⟩ <;> simp only [Law.rowI, Law.rowsI, Law.boxI] <;> omega) rfl; (with_reducible repeat (first | apply Law.Inv.alloc | apply Law.Inv.drewN | apply Law.Inv.drew)); exact I
  have HB1 : Below W.heap.size W wE := by rw [hwE]; repeat (first | (with_reducible first | exact HB.out | apply below_alloc | apply pw_below_drewN | apply below_drew1 | refine below_set ?_ (by have := SZ3.out; have := SZ6.out; have := SZ10.out; first | omega | (simp only [Law.rowI, Law.rowsI, Law.boxI]; omega))) | exact HB.out)
  clear hwE I HB
  have I := I1
  have HB := Aside0.mk HB1
  clear I1 HB1
  have hcz_gb1_wE_0 : wE.cell? ⟨gb1, 0, none⟩ = some (.int .i64 a0_0) := (blk_cell (Law.blk_of (I.2.1.1)) 0).trans rfl
  have hfz_gb1_wE_0 := blk_frozen (Law.blk_of (I.2.1.1)) 0
  have hcz_gb1_wE_1 : wE.cell? ⟨gb1, 1, none⟩ = some (.slice A0_1 l0_1.length c0_1) := (blk_cell (Law.blk_of (I.2.1.1)) 1).trans rfl
  have hfz_gb1_wE_1 := blk_frozen (Law.blk_of (I.2.1.1)) 1
  have hcz_gb1_wE_2 : wE.cell? ⟨gb1, 2, none⟩ = some (.slice A0_2 l0_2.length c0_2) := (blk_cell (Law.blk_of (I.2.1.1)) 2).trans rfl
  have hfz_gb1_wE_2 := blk_frozen (Law.blk_of (I.2.1.1)) 2
  have hcz_gb4_wE_0 : wE.cell? ⟨gb4, 0, none⟩ = some (.int .i64 0) := (blk_cell (Law.blk_of (I.1.1)) 0).trans rfl
  have hfz_gb4_wE_0 := blk_frozen (Law.blk_of (I.1.1)) 0
  have hcz_gb4_wE_1 : wE.cell? ⟨gb4, 1, none⟩ = some (.slice none 0 0) := (blk_cell (Law.blk_of (I.1.1)) 1).trans rfl
  have hfz_gb4_wE_1 := blk_frozen (Law.blk_of (I.1.1)) 1
  have hcz_gb4_wE_2 : wE.cell? ⟨gb4, 2, none⟩ = some (.slice none 0 0) := (blk_cell (Law.blk_of (I.1.1)) 2).trans rfl
  have hfz_gb4_wE_2 := blk_frozen (Law.blk_of (I.1.1)) 2
  refine bodyPost_ret (v := .tuple #[.agg #[.int .i64 0, .slice none 0 0, .slice none 0 0], .int .i64 1]) ?_ rfl ?_
  · simp [results, Try.f44, go_sem, *]
  · exact ⟨rfl, HB.out⟩
set_option maxHeartbeats 16000000 in
set_option maxRecDepth 100000 in
theorem impl_DevWrite.walk1 (a0_0 : Int) (A0_1 : Option Addr) (c0_1 : Nat) (l0_1 : List Int) (A0_2 : Option Addr) (c0_2 : Nat) (l0_2 : List S67) (a1 : Int) (A2 : Option Addr) (c2 : Nat) (l2 : List Int) (W : World) (hr0_1 : Kd.C (Kd.int .u8) W A0_1 l0_1.length l0_1) (hc0_1 : l0_1.length ≤ c0_1) (hr0_2 : Kd.C k67 W A0_2 l0_2.length l0_2) (hc0_2 : l0_2.length ≤ c0_2) (hr2 : Kd.C (Kd.int .u8) W A2 l2.length l2) (hc2 : l2.length ≤ c2) (k : Nat) (r11 : Int) (r12 : List Int) (r13 : List (S67)) (E7 : impl_validDevice.f k a0_0 l0_1 l0_2 = some true) (E14 : impl_copyDevice.f k a0_0 l0_1 l0_2 = some (r11, r12, r13))  :
    Calls Try.prog 44 #[.agg #[.int .i64 a0_0, .slice A0_1 l0_1.length c0_1, .slice A0_2 l0_2.length c0_2], .int .i64 a1, .slice A2 l2.length c2] W fun e w' => ∃ v1_ v2_ : Value, e = .returned (.tuple #[.agg #[.int .i64 r11, v1_, v2_], .int .i64 (writeC r11 a1 l2 r13)]) ∧ Kd.R (Kd.int .u8) 5 w' W.heap.size (fun _ => True) v1_ r12 ∧ Kd.S k67 67 w' W.heap.size (fun k_ => some k_ ≠ (v1_ : Value).ownBlock) v2_ (writeL r11 a1 l2 r13) ∧ Below W.heap.size W w' := by
  have HB := Aside0.mk (Below.refl W.heap.size W)
  have I : Law.Inv [] W := trivial
  have hu47 := Try.underlying47
  replace E7 := Aside0.mk E7
  replace E14 := Aside0.mk E14
  go_enter Try.func44, Try.ntmps44
  go_wp2_with (first
    | ((with_reducible refine gate_dst (N := 3) rfl ?_)
       refine box_event ?hg (N := 3) ?hd (cs := #[.int .i64 a0_0, .slice A0_1 l0_1.length c0_1, .slice A0_2 l0_2.length c0_2]) (t := 47) ?hr ?_
       (case hd => rfl)
       (case hg => rfl)
       (case hr => first | (go_simp; done) | (go_simp; rfl))
       intro gb1 hg w2 hbox hb
       have I1 := Law.Inv.below (Law.Inv.on I (fun I => by (with_reducible repeat (first | apply Law.Inv.alloc | apply Law.Inv.drewN | apply Law.Inv.drew)); exact I)) hb
       have HB1 := Aside0.mk (below_step (by repeat (first | (with_reducible first | exact HB.out | apply below_alloc | apply pw_below_drewN | apply below_drew1) | exact HB.out)) hb)
       have SZ3 := Aside0.mk (show W.heap.size ≤ gb1 ∧ gb1 + 1 ≤ w2.heap.size from ⟨by rw [hg]; exact (by repeat (first | (with_reducible first | exact HB.out | apply below_alloc | apply pw_below_drewN | apply below_drew1) | exact HB.out) : Below W.heap.size W _).size, blk_lt hbox⟩)
       have I2 := Law.Inv.cons (s := Law.boxI gb1 #[.int .i64 a0_0, .slice A0_1 l0_1.length c0_1, .slice A0_2 l0_2.length c0_2] 47) ⟨hbox, blk_lt hbox⟩ I1
       clear I HB hbox hb hg I1
       have I := I2
       have HB := HB1
       clear I2 HB1
       have hcz_gb1_w2_0 : w2.cell? ⟨gb1, 0, none⟩ = some (.int .i64 a0_0) := (blk_cell (Law.blk_of (I.1.1)) 0).trans rfl
       have hfz_gb1_w2_0 := blk_frozen (Law.blk_of (I.1.1)) 0
       have hcz_gb1_w2_1 : w2.cell? ⟨gb1, 1, none⟩ = some (.slice A0_1 l0_1.length c0_1) := (blk_cell (Law.blk_of (I.1.1)) 1).trans rfl
       have hfz_gb1_w2_1 := blk_frozen (Law.blk_of (I.1.1)) 1
       have hcz_gb1_w2_2 : w2.cell? ⟨gb1, 2, none⟩ = some (.slice A0_2 l0_2.length c0_2) := (blk_cell (Law.blk_of (I.1.1)) 2).trans rfl
       have hfz_gb1_w2_2 := blk_frozen (Law.blk_of (I.1.1)) 2)
    | ((with_reducible refine gate_dst (N := 6) rfl ?_)
       refine box_event ?hg (N := 6) ?hd (cs := #[.int .i64 0, .slice none 0 0, .slice none 0 0]) (t := 47) ?hr ?_
       (case hd => rfl)
       (case hg => rfl)
       (case hr => first | (go_simp; done) | (go_simp; rfl))
       intro gb4 hg w5 hbox hb
       have I1 := Law.Inv.below (Law.Inv.on I (fun I => by (with_reducible repeat (first | apply Law.Inv.alloc | apply Law.Inv.drewN | apply Law.Inv.drew)); exact I)) hb
       have HB1 := Aside0.mk (below_step (by repeat (first | (with_reducible first | exact HB.out | apply below_alloc | apply pw_below_drewN | apply below_drew1) | exact HB.out)) hb)
       have SZ6 := Aside0.mk (show W.heap.size ≤ gb4 ∧ gb1 + 1 ≤ gb4 ∧ gb4 + 1 ≤ w5.heap.size from ⟨by rw [hg]; exact (by repeat (first | (with_reducible first | exact HB.out | apply below_alloc | apply pw_below_drewN | apply below_drew1) | exact HB.out) : Below W.heap.size W _).size, by rw [hg]; exact (Law.Inv.on I (fun I => by (with_reducible repeat (first | apply Law.Inv.alloc | apply Law.Inv.drewN | apply Law.Inv.drew)); exact I)).1.2, blk_lt hbox⟩)
       have I2 := Law.Inv.cons (s := Law.boxI gb4 #[.int .i64 0, .slice none 0 0, .slice none 0 0] 47) ⟨hbox, blk_lt hbox⟩ I1
       clear I HB hbox hb hg I1
       have I := I2
       have HB := HB1
       clear I2 HB1
       have hne_gb4_gb1 : gb4 ≠ gb1 := (by have := SZ3.out; have := SZ6.out; first | omega | (simp only [Law.rowI, Law.rowsI, Law.boxI]; omega))
       have hne_gb1_gb4 : gb1 ≠ gb4 := (by have := SZ3.out; have := SZ6.out; first | omega | (simp only [Law.rowI, Law.rowsI, Law.boxI]; omega))
       have hcz_gb1_w5_0 : w5.cell? ⟨gb1, 0, none⟩ = some (.int .i64 a0_0) := (blk_cell (Law.blk_of (I.2.1.1)) 0).trans rfl
       have hfz_gb1_w5_0 := blk_frozen (Law.blk_of (I.2.1.1)) 0
       have hcz_gb1_w5_1 : w5.cell? ⟨gb1, 1, none⟩ = some (.slice A0_1 l0_1.length c0_1) := (blk_cell (Law.blk_of (I.2.1.1)) 1).trans rfl
       have hfz_gb1_w5_1 := blk_frozen (Law.blk_of (I.2.1.1)) 1
       have hcz_gb1_w5_2 : w5.cell? ⟨gb1, 2, none⟩ = some (.slice A0_2 l0_2.length c0_2) := (blk_cell (Law.blk_of (I.2.1.1)) 2).trans rfl
       have hfz_gb1_w5_2 := blk_frozen (Law.blk_of (I.2.1.1)) 2
       have hcz_gb4_w5_0 : w5.cell? ⟨gb4, 0, none⟩ = some (.int .i64 0) := (blk_cell (Law.blk_of (I.1.1)) 0).trans rfl
       have hfz_gb4_w5_0 := blk_frozen (Law.blk_of (I.1.1)) 0
       have hcz_gb4_w5_1 : w5.cell? ⟨gb4, 1, none⟩ = some (.slice none 0 0) := (blk_cell (Law.blk_of (I.1.1)) 1).trans rfl
       have hfz_gb4_w5_1 := blk_frozen (Law.blk_of (I.1.1)) 1
       have hcz_gb4_w5_2 : w5.cell? ⟨gb4, 2, none⟩ = some (.slice none 0 0) := (blk_cell (Law.blk_of (I.1.1)) 2).trans rfl
       have hfz_gb4_w5_2 := blk_frozen (Law.blk_of (I.1.1)) 2)
    | ((with_reducible refine gate_callee (f := 74) rfl ?_)
       refine goesL_ (some 11) rfl rfl Try.func74 (by kernel_rfl) rfl #[.agg #[.int .i64 a0_0, .slice A0_1 l0_1.length c0_1, .slice A0_2 l0_2.length c0_2]] rfl (by (try simp only [List.map_toArray, List.map_cons, List.map_nil]); first | done | rfl) ?_
       refine Law.at_world (fun w8 hw1 => ?_)
       have I1 := Law.Inv.to I hw1 (fun I => by (with_reducible repeat (first | apply Law.Inv.alloc | apply Law.Inv.drewN | apply Law.Inv.drew)); exact I)
       have HB1 := Aside0.mk (show Below W.heap.size W w8 by rw [hw1]; repeat (first | (with_reducible first | exact HB.out | apply below_alloc | apply pw_below_drewN | apply below_drew1) | exact HB.out))
       clear I HB hw1
       have I := I1
       have HB := HB1
       clear I1 HB1
       refine (impl_validDevice.calls k a0_0 A0_1 c0_1 l0_1 A0_2 c0_2 l0_2 true w8 ?_ ?_ ?_ ?_ E7.out).mono ?_
       · exact Kd.C_below hr0_1 HB.out
       · exact hc0_1
       · exact Kd.C_below hr0_2 HB.out
       · exact hc0_2
       rintro e w9 ⟨rfl, hq0⟩
       refine ⟨_, rfl, ?_⟩
       have I1 := Law.Inv.below I hq0
       have HB1 := Aside0.mk (below_step HB.out hq0)
       have SZ10 := Aside0.mk (show W.heap.size ≤ w8.heap.size ∧ gb4 + 1 ≤ w8.heap.size ∧ w8.heap.size ≤ w9.heap.size from ⟨HB.out.size, I.1.2, hq0.size⟩)
       clear I HB
       have I := I1
       have HB := HB1
       clear I1 HB1
       have hcz_gb1_w9_0 : w9.cell? ⟨gb1, 0, none⟩ = some (.int .i64 a0_0) := (blk_cell (Law.blk_of (I.2.1.1)) 0).trans rfl
       have hfz_gb1_w9_0 := blk_frozen (Law.blk_of (I.2.1.1)) 0
       have hcz_gb1_w9_1 : w9.cell? ⟨gb1, 1, none⟩ = some (.slice A0_1 l0_1.length c0_1) := (blk_cell (Law.blk_of (I.2.1.1)) 1).trans rfl
       have hfz_gb1_w9_1 := blk_frozen (Law.blk_of (I.2.1.1)) 1
       have hcz_gb1_w9_2 : w9.cell? ⟨gb1, 2, none⟩ = some (.slice A0_2 l0_2.length c0_2) := (blk_cell (Law.blk_of (I.2.1.1)) 2).trans rfl
       have hfz_gb1_w9_2 := blk_frozen (Law.blk_of (I.2.1.1)) 2
       have hcz_gb4_w9_0 : w9.cell? ⟨gb4, 0, none⟩ = some (.int .i64 0) := (blk_cell (Law.blk_of (I.1.1)) 0).trans rfl
       have hfz_gb4_w9_0 := blk_frozen (Law.blk_of (I.1.1)) 0
       have hcz_gb4_w9_1 : w9.cell? ⟨gb4, 1, none⟩ = some (.slice none 0 0) := (blk_cell (Law.blk_of (I.1.1)) 1).trans rfl
       have hfz_gb4_w9_1 := blk_frozen (Law.blk_of (I.1.1)) 1
       have hcz_gb4_w9_2 : w9.cell? ⟨gb4, 2, none⟩ = some (.slice none 0 0) := (blk_cell (Law.blk_of (I.1.1)) 2).trans rfl
       have hfz_gb4_w9_2 := blk_frozen (Law.blk_of (I.1.1)) 2)
    | ((with_reducible refine gate_callee (f := 81) rfl ?_)
       refine goesL_ (some 15) rfl rfl Try.func81 (by kernel_rfl) rfl #[.agg #[.int .i64 a0_0, .slice A0_1 l0_1.length c0_1, .slice A0_2 l0_2.length c0_2]] rfl (by (try simp only [List.map_toArray, List.map_cons, List.map_nil]); first | done | rfl) ?_
       refine Law.at_world (fun w15 hw1 => ?_)
       have I1 := Law.Inv.to I hw1 (fun I => by (with_reducible repeat (first | apply Law.Inv.alloc | apply Law.Inv.drewN | apply Law.Inv.drew)); exact I)
       have HB1 := Aside0.mk (show Below W.heap.size W w15 by rw [hw1]; repeat (first | (with_reducible first | exact HB.out | apply below_alloc | apply pw_below_drewN | apply below_drew1) | exact HB.out))
       clear I HB hw1
       have I := I1
       have HB := HB1
       clear I1 HB1
       refine (impl_copyDevice.calls k a0_0 A0_1 c0_1 l0_1 A0_2 c0_2 l0_2 r11 r12 r13 w15 ?_ ?_ ?_ ?_ E14.out).mono ?_
       · exact Kd.C_below hr0_1 HB.out
       · exact hc0_1
       · exact Kd.C_below hr0_2 HB.out
       · exact hc0_2
       rintro e w16 ⟨v17, v18, rfl, hq0, hq1, hq2⟩
       refine ⟨_, rfl, ?_⟩
       obtain ⟨Ao19, co20, eo21⟩ := Kd.R_slice hq0
       subst eo21
       obtain ⟨Ao22, co23, eo24⟩ := Kd.S_slice hq1
       subst eo24
       have I1 := Law.Inv.below I hq2
       have HB1 := Aside0.mk (below_step HB.out hq2)
       have SZ25 := Aside0.mk (show W.heap.size ≤ w15.heap.size ∧ gb4 + 1 ≤ w15.heap.size ∧ w15.heap.size ≤ w16.heap.size from ⟨HB.out.size, I.1.2, hq2.size⟩)
       have I1 := Law.Inv.cons (s := Law.rowI (Kd.int .u8) 5 w15.heap.size w15.heap.size w16.heap.size (fun _ => True) (.slice Ao19 r12.length co20) r12) (Law.rowI_new hq0 (fun _ h => h)) I1
       have I1 := Law.Inv.cons (s := Law.rowsI k67 67 w15.heap.size w15.heap.size w16.heap.size (fun k_ => some k_ ≠ (.slice Ao19 r12.length co20 : Value).ownBlock) (.slice Ao22 r13.length co23) r13) (Law.rowsI_new hq1 (fun _ h => h)) I1
       clear I HB
       have I := I1
       have HB := HB1
       clear I1 HB1
       have hcz_gb1_w16_0 : w16.cell? ⟨gb1, 0, none⟩ = some (.int .i64 a0_0) := (blk_cell (Law.blk_of (I.2.2.2.1.1)) 0).trans rfl
       have hfz_gb1_w16_0 := blk_frozen (Law.blk_of (I.2.2.2.1.1)) 0
       have hcz_gb1_w16_1 : w16.cell? ⟨gb1, 1, none⟩ = some (.slice A0_1 l0_1.length c0_1) := (blk_cell (Law.blk_of (I.2.2.2.1.1)) 1).trans rfl
       have hfz_gb1_w16_1 := blk_frozen (Law.blk_of (I.2.2.2.1.1)) 1
       have hcz_gb1_w16_2 : w16.cell? ⟨gb1, 2, none⟩ = some (.slice A0_2 l0_2.length c0_2) := (blk_cell (Law.blk_of (I.2.2.2.1.1)) 2).trans rfl
       have hfz_gb1_w16_2 := blk_frozen (Law.blk_of (I.2.2.2.1.1)) 2
       have hcz_gb4_w16_0 : w16.cell? ⟨gb4, 0, none⟩ = some (.int .i64 0) := (blk_cell (Law.blk_of (I.2.2.1.1)) 0).trans rfl
       have hfz_gb4_w16_0 := blk_frozen (Law.blk_of (I.2.2.1.1)) 0
       have hcz_gb4_w16_1 : w16.cell? ⟨gb4, 1, none⟩ = some (.slice none 0 0) := (blk_cell (Law.blk_of (I.2.2.1.1)) 1).trans rfl
       have hfz_gb4_w16_1 := blk_frozen (Law.blk_of (I.2.2.1.1)) 1
       have hcz_gb4_w16_2 : w16.cell? ⟨gb4, 2, none⟩ = some (.slice none 0 0) := (blk_cell (Law.blk_of (I.2.2.1.1)) 2).trans rfl
       have hfz_gb4_w16_2 := blk_frozen (Law.blk_of (I.2.2.1.1)) 2)
    | ((with_reducible refine gate_dst (N := 8) rfl ?_)
       refine box_event ?hg (N := 8) ?hd (cs := #[.int .i64 0, .slice none 0 0, .slice none 0 0]) (t := 47) ?hr ?_
       (case hd => rfl)
       (case hg => rfl)
       (case hr => first | (go_simp; done) | (go_simp; rfl))
       intro gb26 hg w27 hbox hb
       have I1 := Law.Inv.below (Law.Inv.on I (fun I => by (with_reducible repeat (first | apply Law.Inv.alloc | apply Law.Inv.drewN | apply Law.Inv.drew)); exact I)) hb
       have HB1 := Aside0.mk (below_step (by repeat (first | (with_reducible first | exact HB.out | apply below_alloc | apply pw_below_drewN | apply below_drew1) | exact HB.out)) hb)
       have SZ28 := Aside0.mk (show W.heap.size ≤ gb26 ∧ w16.heap.size ≤ gb26 ∧ gb26 + 1 ≤ w27.heap.size from ⟨by rw [hg]; exact (by repeat (first | (with_reducible first | exact HB.out | apply below_alloc | apply pw_below_drewN | apply below_drew1) | exact HB.out) : Below W.heap.size W _).size, by rw [hg]; exact (Law.Inv.on I (fun I => by (with_reducible repeat (first | apply Law.Inv.alloc | apply Law.Inv.drewN | apply Law.Inv.drew)); exact I)).1.2, blk_lt hbox⟩)
       have I2 := Law.Inv.cons (s := Law.boxI gb26 #[.int .i64 0, .slice none 0 0, .slice none 0 0] 47) ⟨hbox, blk_lt hbox⟩ I1
       clear I HB hbox hb hg I1
       have I := I2
       have HB := HB1
       clear I2 HB1
       have hne_gb26_gb1 : gb26 ≠ gb1 := (by have := SZ3.out; have := SZ6.out; have := SZ10.out; have := SZ25.out; have := SZ28.out; first | omega | (simp only [Law.rowI, Law.rowsI, Law.boxI]; omega))
       have hne_gb1_gb26 : gb1 ≠ gb26 := (by have := SZ3.out; have := SZ6.out; have := SZ10.out; have := SZ25.out; have := SZ28.out; first | omega | (simp only [Law.rowI, Law.rowsI, Law.boxI]; omega))
       have hne_gb26_gb4 : gb26 ≠ gb4 := (by have := SZ3.out; have := SZ6.out; have := SZ10.out; have := SZ25.out; have := SZ28.out; first | omega | (simp only [Law.rowI, Law.rowsI, Law.boxI]; omega))
       have hne_gb4_gb26 : gb4 ≠ gb26 := (by have := SZ3.out; have := SZ6.out; have := SZ10.out; have := SZ25.out; have := SZ28.out; first | omega | (simp only [Law.rowI, Law.rowsI, Law.boxI]; omega))
       have hcz_gb1_w27_0 : w27.cell? ⟨gb1, 0, none⟩ = some (.int .i64 a0_0) := (blk_cell (Law.blk_of (I.2.2.2.2.1.1)) 0).trans rfl
       have hfz_gb1_w27_0 := blk_frozen (Law.blk_of (I.2.2.2.2.1.1)) 0
       have hcz_gb1_w27_1 : w27.cell? ⟨gb1, 1, none⟩ = some (.slice A0_1 l0_1.length c0_1) := (blk_cell (Law.blk_of (I.2.2.2.2.1.1)) 1).trans rfl
       have hfz_gb1_w27_1 := blk_frozen (Law.blk_of (I.2.2.2.2.1.1)) 1
       have hcz_gb1_w27_2 : w27.cell? ⟨gb1, 2, none⟩ = some (.slice A0_2 l0_2.length c0_2) := (blk_cell (Law.blk_of (I.2.2.2.2.1.1)) 2).trans rfl
       have hfz_gb1_w27_2 := blk_frozen (Law.blk_of (I.2.2.2.2.1.1)) 2
       have hcz_gb4_w27_0 : w27.cell? ⟨gb4, 0, none⟩ = some (.int .i64 0) := (blk_cell (Law.blk_of (I.2.2.2.1.1)) 0).trans rfl
       have hfz_gb4_w27_0 := blk_frozen (Law.blk_of (I.2.2.2.1.1)) 0
       have hcz_gb4_w27_1 : w27.cell? ⟨gb4, 1, none⟩ = some (.slice none 0 0) := (blk_cell (Law.blk_of (I.2.2.2.1.1)) 1).trans rfl
       have hfz_gb4_w27_1 := blk_frozen (Law.blk_of (I.2.2.2.1.1)) 1
       have hcz_gb4_w27_2 : w27.cell? ⟨gb4, 2, none⟩ = some (.slice none 0 0) := (blk_cell (Law.blk_of (I.2.2.2.1.1)) 2).trans rfl
       have hfz_gb4_w27_2 := blk_frozen (Law.blk_of (I.2.2.2.1.1)) 2
       have hcz_gb26_w27_0 : w27.cell? ⟨gb26, 0, none⟩ = some (.int .i64 0) := (blk_cell (Law.blk_of (I.1.1)) 0).trans rfl
       have hfz_gb26_w27_0 := blk_frozen (Law.blk_of (I.1.1)) 0
       have hcz_gb26_w27_1 : w27.cell? ⟨gb26, 1, none⟩ = some (.slice none 0 0) := (blk_cell (Law.blk_of (I.1.1)) 1).trans rfl
       have hfz_gb26_w27_1 := blk_frozen (Law.blk_of (I.1.1)) 1
       have hcz_gb26_w27_2 : w27.cell? ⟨gb26, 2, none⟩ = some (.slice none 0 0) := (blk_cell (Law.blk_of (I.1.1)) 2).trans rfl
       have hfz_gb26_w27_2 := blk_frozen (Law.blk_of (I.1.1)) 2)
    | ((with_reducible refine gate_callee (f := 87) rfl ?_)
       refine goesL_ (some 18) rfl rfl Try.func87 (by kernel_rfl) rfl #[.pointer (some ⟨gb26, 0, none⟩), .int .i64 a1, .slice A2 l2.length c2] rfl (by (try simp only [List.map_toArray, List.map_cons, List.map_nil]); first | done | rfl) ?_
       refine Law.at_world (fun w29 hw1 => ?_)
       have I1 : Law.Inv [Law.boxI gb26 #[.int .i64 r11, .slice Ao19 r12.length co20, .slice Ao22 r13.length co23] 47, Law.rowsI k67 67 w15.heap.size w15.heap.size w16.heap.size (fun k_ => some k_ ≠ (.slice Ao19 r12.length co20 : Value).ownBlock) (.slice Ao22 r13.length co23) r13, Law.rowI (Kd.int .u8) 5 w15.heap.size w15.heap.size w16.heap.size (fun _ => True) (.slice Ao19 r12.length co20) r12, Law.boxI gb4 #[.int .i64 0, .slice none 0 0, .slice none 0 0] 47, Law.boxI gb1 #[.int .i64 a0_0, .slice A0_1 l0_1.length c0_1, .slice A0_2 l0_2.length c0_2] 47] w29 := by rw [hw1]; (with_reducible repeat (first | apply Law.Inv.alloc | apply Law.Inv.drewN | apply Law.Inv.drew)); refine Law.Inv.put (cs := #[.int .i64 r11, .slice Ao19 r12.length co20, .slice none 0 0]) ?_ (by have := SZ3.out; have := SZ6.out; have := SZ10.out; have := SZ25.out; have := SZ28.out; refine ⟨?_, ?_, ?_, ?_, trivial⟩ <;> simp only [Law.rowI, Law.rowsI, Law.boxI] <;> omega) rfl; (with_reducible repeat (first | apply Law.Inv.alloc | apply Law.Inv.drewN | apply Law.Inv.drew)); refine Law.Inv.put (cs := #[.int .i64 r11, .slice none 0 0, .slice none 0 0]) ?_ (by have := SZ3.out; have := SZ6.out; have := SZ10.out; have := SZ25.out; have := SZ28.out; refine ⟨?_, ?_, ?_, ?_, trivial⟩ <;> simp only [Law.rowI, Law.rowsI, Law.boxI] <;> omega) rfl; (with_reducible repeat (first | apply Law.Inv.alloc | apply Law.Inv.drewN | apply Law.Inv.drew)); refine Law.Inv.put (cs := #[.int .i64 0, .slice none 0 0, .slice none 0 0]) ?_ (by have := SZ3.out; have := SZ6.out; have := SZ10.out; have := SZ25.out; have := SZ28.out; refine ⟨?_, ?_, ?_, ?_, trivial⟩ <;> simp only [Law.rowI, Law.rowsI, Law.boxI] <;> omega) rfl; (with_reducible repeat (first | apply Law.Inv.alloc | apply Law.Inv.drewN | apply Law.Inv.drew)); exact I
       have HB1 := Aside0.mk (show Below W.heap.size W w29 by rw [hw1]; repeat (first | (with_reducible first | exact HB.out | apply below_alloc | apply pw_below_drewN | apply below_drew1 | refine below_set ?_ (by have := SZ3.out; have := SZ6.out; have := SZ10.out; have := SZ25.out; have := SZ28.out; first | omega | (simp only [Law.rowI, Law.rowsI, Law.boxI]; omega))) | exact HB.out))
       clear I HB hw1
       have I := I1
       have HB := HB1
       clear I1 HB1
       have SZ31 := Aside0.mk (show W.heap.size ≤ w29.heap.size ∧ gb26 + 1 ≤ w29.heap.size from ⟨HB.out.size, I.1.2⟩)
       refine (impl_write.own gb26 r11 a1 A2 c2 l2 (.slice Ao19 r12.length co20) r12 (.slice Ao22 r13.length co23) r13 (fun k_ => w15.heap.size ≤ k_) W w29 HB.out (I.1.1) (by have := SZ3.out; have := SZ6.out; have := SZ10.out; have := SZ25.out; have := SZ28.out; have := SZ31.out; first | omega | (simp only [Law.rowI, Law.rowsI, Law.boxI]; omega)) (Kd.R_lower (Kd.R_mono (I.2.2.1.1) (fun _ _ => trivial)) (by have := SZ3.out; have := SZ6.out; have := SZ10.out; have := SZ25.out; have := SZ28.out; have := SZ31.out; first | omega | (simp only [Law.rowI, Law.rowsI, Law.boxI]; omega))) (Kd.S_lower (Kd.S_mono (I.2.1.1) (fun k_ hk_ => ⟨⟨hk_.2, fun e_ => by have z_ := hk_.1; rw [e_] at z_; have := SZ3.out; have := SZ6.out; have := SZ10.out; have := SZ25.out; have := SZ28.out; have := SZ31.out; omega⟩, hk_.1.1⟩)) (by have := SZ3.out; have := SZ6.out; have := SZ10.out; have := SZ25.out; have := SZ28.out; have := SZ31.out; first | omega | (simp only [Law.rowI, Law.rowsI, Law.boxI]; omega))) (fun k_ hk_ => Nat.le_trans (by have := SZ3.out; have := SZ6.out; have := SZ10.out; have := SZ25.out; have := SZ28.out; have := SZ31.out; first | omega | (simp only [Law.rowI, Law.rowsI, Law.boxI]; omega)) hk_) (Kd.C_below hr2 HB.out) hc2).mono ?_
       rintro e w30 ⟨v3_, rfl, hq0, hq1, hq2, hq3, hq4⟩; refine ⟨_, rfl, ?_⟩
       obtain ⟨Ao32, co33, eo34⟩ := Kd.S_slice hq2
       subst eo34
       have SZ35 := Aside0.mk (show W.heap.size ≤ w29.heap.size ∧ gb26 + 1 ≤ w29.heap.size ∧ w29.heap.size ≤ w30.heap.size from ⟨HB.out.size, I.1.2, hq4.1⟩)
       have I1 : Law.Inv [Law.boxI gb4 #[.int .i64 0, .slice none 0 0, .slice none 0 0] 47, Law.boxI gb1 #[.int .i64 a0_0, .slice A0_1 l0_1.length c0_1, .slice A0_2 l0_2.length c0_2] 47] w30 := Law.Inv.kept2 hq4 (lo := w15.heap.size) (hi := w16.heap.size) (g := gb26) (fun k_ h_ => h_.imp (fun e_ => ((I.2.1.1).choose_spec.1 _ e_.symm).1) id) (show Law.Inv [Law.boxI gb4 #[.int .i64 0, .slice none 0 0, .slice none 0 0] 47, Law.boxI gb1 #[.int .i64 a0_0, .slice A0_1 l0_1.length c0_1, .slice A0_2 l0_2.length c0_2] 47] w29 from ⟨I.2.2.2.1, I.2.2.2.2.1, trivial⟩) (by have := SZ3.out; have := SZ6.out; have := SZ10.out; have := SZ25.out; have := SZ28.out; have := SZ31.out; have := SZ35.out; refine ⟨?_, ?_, trivial⟩ <;> simp only [Law.rowI, Law.rowsI, Law.boxI] <;> omega) (by have := SZ3.out; have := SZ6.out; have := SZ10.out; have := SZ25.out; have := SZ28.out; have := SZ31.out; have := SZ35.out; refine ⟨?_, ?_, trivial⟩ <;> simp only [Law.rowI, Law.rowsI, Law.boxI] <;> omega)
       have I1 := Law.Inv.cons (s := Law.rowI (Kd.int .u8) 5 W.heap.size w15.heap.size w16.heap.size (fun _ => True) (.slice Ao19 r12.length co20) r12) ⟨Kd.R_reok rfl (Kd.R_lower hq1 (Nat.le_refl _)) (fun k_ e_ => ⟨((I.2.2.1.1).1 k_ e_).1, trivial⟩), (by have := SZ3.out; have := SZ6.out; have := SZ10.out; have := SZ25.out; have := SZ28.out; have := SZ31.out; have := SZ35.out; first | omega | (simp only [Law.rowI, Law.rowsI, Law.boxI]; omega))⟩ I1
       have I1 := Law.Inv.cons (s := Law.rowsI k67 67 W.heap.size w15.heap.size w30.heap.size (fun k_ => some k_ ≠ (.slice Ao19 r12.length co20 : Value).ownBlock ∧ k_ ≠ gb26) (.slice Ao32 (writeL r11 a1 l2 r13).length co33) (writeL r11 a1 l2 r13)) ⟨Kd.S_mono (Kd.S_bound hq2) (fun k_ hk_ => ⟨⟨hk_.1.2, hk_.2.2.1⟩, hk_.1.1⟩), Nat.le_refl _⟩ I1
       have I1 := Law.Inv.cons (s := Law.boxI gb26 #[.int .i64 r11, .slice Ao19 r12.length co20, .slice Ao32 (writeL r11 a1 l2 r13).length co33] 47) ⟨hq0, (by have := SZ3.out; have := SZ6.out; have := SZ10.out; have := SZ25.out; have := SZ28.out; have := SZ31.out; have := SZ35.out; first | omega | (simp only [Law.rowI, Law.rowsI, Law.boxI]; omega))⟩ I1
       have HB1 := Aside0.mk hq3
       clear I HB
       have I := I1
       have HB := HB1
       clear I1 HB1
       have hcz_gb1_w30_0 : w30.cell? ⟨gb1, 0, none⟩ = some (.int .i64 a0_0) := (blk_cell (Law.blk_of (I.2.2.2.2.1.1)) 0).trans rfl
       have hfz_gb1_w30_0 := blk_frozen (Law.blk_of (I.2.2.2.2.1.1)) 0
       have hcz_gb1_w30_1 : w30.cell? ⟨gb1, 1, none⟩ = some (.slice A0_1 l0_1.length c0_1) := (blk_cell (Law.blk_of (I.2.2.2.2.1.1)) 1).trans rfl
       have hfz_gb1_w30_1 := blk_frozen (Law.blk_of (I.2.2.2.2.1.1)) 1
       have hcz_gb1_w30_2 : w30.cell? ⟨gb1, 2, none⟩ = some (.slice A0_2 l0_2.length c0_2) := (blk_cell (Law.blk_of (I.2.2.2.2.1.1)) 2).trans rfl
       have hfz_gb1_w30_2 := blk_frozen (Law.blk_of (I.2.2.2.2.1.1)) 2
       have hcz_gb4_w30_0 : w30.cell? ⟨gb4, 0, none⟩ = some (.int .i64 0) := (blk_cell (Law.blk_of (I.2.2.2.1.1)) 0).trans rfl
       have hfz_gb4_w30_0 := blk_frozen (Law.blk_of (I.2.2.2.1.1)) 0
       have hcz_gb4_w30_1 : w30.cell? ⟨gb4, 1, none⟩ = some (.slice none 0 0) := (blk_cell (Law.blk_of (I.2.2.2.1.1)) 1).trans rfl
       have hfz_gb4_w30_1 := blk_frozen (Law.blk_of (I.2.2.2.1.1)) 1
       have hcz_gb4_w30_2 : w30.cell? ⟨gb4, 2, none⟩ = some (.slice none 0 0) := (blk_cell (Law.blk_of (I.2.2.2.1.1)) 2).trans rfl
       have hfz_gb4_w30_2 := blk_frozen (Law.blk_of (I.2.2.2.1.1)) 2
       have hcz_gb26_w30_0 : w30.cell? ⟨gb26, 0, none⟩ = some (.int .i64 r11) := (blk_cell (Law.blk_of (I.1.1)) 0).trans rfl
       have hfz_gb26_w30_0 := blk_frozen (Law.blk_of (I.1.1)) 0
       have hcz_gb26_w30_1 : w30.cell? ⟨gb26, 1, none⟩ = some (.slice Ao19 r12.length co20) := (blk_cell (Law.blk_of (I.1.1)) 1).trans rfl
       have hfz_gb26_w30_1 := blk_frozen (Law.blk_of (I.1.1)) 1
       have hcz_gb26_w30_2 : w30.cell? ⟨gb26, 2, none⟩ = some (.slice Ao32 (writeL r11 a1 l2 r13).length co33) := (blk_cell (Law.blk_of (I.1.1)) 2).trans rfl
       have hfz_gb26_w30_2 := blk_frozen (Law.blk_of (I.1.1)) 2
       have I1 : Law.Inv [Law.boxI gb4 #[.int .i64 0, .slice none 0 0, .slice none 0 0] 47, Law.boxI gb26 #[.int .i64 r11, .slice Ao19 r12.length co20, .slice Ao32 (writeL r11 a1 l2 r13).length co33] 47, Law.rowsI k67 67 W.heap.size w15.heap.size w30.heap.size (fun k_ => some k_ ≠ (.slice Ao19 r12.length co20 : Value).ownBlock ∧ k_ ≠ gb26) (.slice Ao32 (writeL r11 a1 l2 r13).length co33) (writeL r11 a1 l2 r13), Law.rowI (Kd.int .u8) 5 W.heap.size w15.heap.size w16.heap.size (fun _ => True) (.slice Ao19 r12.length co20) r12, Law.boxI gb1 #[.int .i64 a0_0, .slice A0_1 l0_1.length c0_1, .slice A0_2 l0_2.length c0_2] 47] w30 := ⟨I.2.2.2.1, I.1, I.2.1, I.2.2.1, I.2.2.2.2.1, trivial⟩
       clear I
       have I := I1
       clear I1))
  try go_wp2
  refine Law.post_world (fun wE hwE => ?_)
  have I1 : Law.Inv [Law.boxI gb4 #[.int .i64 r11, .slice Ao19 r12.length co20, .slice Ao32 (writeL r11 a1 l2 r13).length co33] 47, Law.boxI gb26 #[.int .i64 r11, .slice Ao19 r12.length co20, .slice Ao32 (writeL r11 a1 l2 r13).length co33] 47, Law.rowsI k67 67 W.heap.size w15.heap.size w30.heap.size (fun k_ => some k_ ≠ (.slice Ao19 r12.length co20 : Value).ownBlock ∧ k_ ≠ gb26) (.slice Ao32 (writeL r11 a1 l2 r13).length co33) (writeL r11 a1 l2 r13), Law.rowI (Kd.int .u8) 5 W.heap.size w15.heap.size w16.heap.size (fun _ => True) (.slice Ao19 r12.length co20) r12, Law.boxI gb1 #[.int .i64 a0_0, .slice A0_1 l0_1.length c0_1, .slice A0_2 l0_2.length c0_2] 47] wE := by rw [hwE]; (with_reducible repeat (first | apply Law.Inv.alloc | apply Law.Inv.drewN | apply Law.Inv.drew)); refine Law.Inv.put (cs := #[.int .i64 r11, .slice Ao19 r12.length co20, .slice none 0 0]) ?_ (by have := SZ3.out; have := SZ6.out; have := SZ10.out; have := SZ25.out; have := SZ28.out; have := SZ31.out; have := SZ35.out; refine ⟨?_, ?_, ?_, ?_, trivial⟩ <;> simp only [Law.rowI, Law.rowsI, Law.boxI] <;> omega) rfl; (with_reducible repeat (first | apply Law.Inv.alloc | apply Law.Inv.drewN | apply Law.Inv.drew)); refine Law.Inv.put (cs := #[.int .i64 r11, .slice none 0 0, .slice none 0 0]) ?_ (by have := SZ3.out; have := SZ6.out; have := SZ10.out; have := SZ25.out; have := SZ28.out; have := SZ31.out; have := SZ35.out; refine ⟨?_, ?_, ?_, ?_, trivial⟩ <;> simp only [Law.rowI, Law.rowsI, Law.boxI] <;> omega) rfl; (with_reducible repeat (first | apply Law.Inv.alloc | apply Law.Inv.drewN | apply Law.Inv.drew)); refine Law.Inv.put (cs := #[.int .i64 0, .slice none 0 0, .slice none 0 0]) ?_ (by have := SZ3.out; have := SZ6.out; have := SZ10.out; have := SZ25.out; have := SZ28.out; have := SZ31.out; have := SZ35.out; refine ⟨?_, ?_, ?_, ?_, trivial⟩ <;> simp only [Law.rowI, Law.rowsI, Law.boxI] <;> omega) rfl; (with_reducible repeat (first | apply Law.Inv.alloc | apply Law.Inv.drewN | apply Law.Inv.drew)); exact I
  have HB1 : Below W.heap.size W wE := by rw [hwE]; repeat (first | (with_reducible first | exact HB.out | apply below_alloc | apply pw_below_drewN | apply below_drew1 | refine below_set ?_ (by have := SZ3.out; have := SZ6.out; have := SZ10.out; have := SZ25.out; have := SZ28.out; have := SZ31.out; have := SZ35.out; first | omega | (simp only [Law.rowI, Law.rowsI, Law.boxI]; omega))) | exact HB.out)
  clear hwE I HB
  have I := I1
  have HB := Aside0.mk HB1
  clear I1 HB1
  have hcz_gb1_wE_0 : wE.cell? ⟨gb1, 0, none⟩ = some (.int .i64 a0_0) := (blk_cell (Law.blk_of (I.2.2.2.2.1.1)) 0).trans rfl
  have hfz_gb1_wE_0 := blk_frozen (Law.blk_of (I.2.2.2.2.1.1)) 0
  have hcz_gb1_wE_1 : wE.cell? ⟨gb1, 1, none⟩ = some (.slice A0_1 l0_1.length c0_1) := (blk_cell (Law.blk_of (I.2.2.2.2.1.1)) 1).trans rfl
  have hfz_gb1_wE_1 := blk_frozen (Law.blk_of (I.2.2.2.2.1.1)) 1
  have hcz_gb1_wE_2 : wE.cell? ⟨gb1, 2, none⟩ = some (.slice A0_2 l0_2.length c0_2) := (blk_cell (Law.blk_of (I.2.2.2.2.1.1)) 2).trans rfl
  have hfz_gb1_wE_2 := blk_frozen (Law.blk_of (I.2.2.2.2.1.1)) 2
  have hcz_gb4_wE_0 : wE.cell? ⟨gb4, 0, none⟩ = some (.int .i64 r11) := (blk_cell (Law.blk_of (I.1.1)) 0).trans rfl
  have hfz_gb4_wE_0 := blk_frozen (Law.blk_of (I.1.1)) 0
  have hcz_gb4_wE_1 : wE.cell? ⟨gb4, 1, none⟩ = some (.slice Ao19 r12.length co20) := (blk_cell (Law.blk_of (I.1.1)) 1).trans rfl
  have hfz_gb4_wE_1 := blk_frozen (Law.blk_of (I.1.1)) 1
  have hcz_gb4_wE_2 : wE.cell? ⟨gb4, 2, none⟩ = some (.slice Ao32 (writeL r11 a1 l2 r13).length co33) := (blk_cell (Law.blk_of (I.1.1)) 2).trans rfl
  have hfz_gb4_wE_2 := blk_frozen (Law.blk_of (I.1.1)) 2
  have hcz_gb26_wE_0 : wE.cell? ⟨gb26, 0, none⟩ = some (.int .i64 r11) := (blk_cell (Law.blk_of (I.2.1.1)) 0).trans rfl
  have hfz_gb26_wE_0 := blk_frozen (Law.blk_of (I.2.1.1)) 0
  have hcz_gb26_wE_1 : wE.cell? ⟨gb26, 1, none⟩ = some (.slice Ao19 r12.length co20) := (blk_cell (Law.blk_of (I.2.1.1)) 1).trans rfl
  have hfz_gb26_wE_1 := blk_frozen (Law.blk_of (I.2.1.1)) 1
  have hcz_gb26_wE_2 : wE.cell? ⟨gb26, 2, none⟩ = some (.slice Ao32 (writeL r11 a1 l2 r13).length co33) := (blk_cell (Law.blk_of (I.2.1.1)) 2).trans rfl
  have hfz_gb26_wE_2 := blk_frozen (Law.blk_of (I.2.1.1)) 2
  refine bodyPost_ret (v := .tuple #[.agg #[.int .i64 r11, .slice Ao19 r12.length co20, .slice Ao32 (writeL r11 a1 l2 r13).length co33], .int .i64 (writeC r11 a1 l2 r13)]) ?_ rfl ?_
  · simp [results, Try.f44, go_sem, *]
  · exact ⟨_, _, rfl, Kd.R_mono (I.2.2.2.1.1) (fun _ _ => trivial), Kd.S_mono (I.2.2.1.1) (fun _ h_ => h_.2.1), HB.out⟩
def impl_DevWrite.f (k : Nat) (a0_0 : Int) (l0_1 : List Int) (l0_2 : List (S67)) (a1 : Int) (l2 : List Int) : Option (Int × List Int × (List (S67)) × Int) := (impl_validDevice.f k a0_0 l0_1 l0_2).bind fun t => if t = true then ((impl_copyDevice.f k a0_0 l0_1 l0_2).bind fun c => some (c.1, c.2.1, writeL c.1 a1 l2 c.2.2, writeC c.1 a1 l2 c.2.2)) else some (0, [], [], 1)
theorem impl_DevWrite.calls (k : Nat) (a0_0 : Int) (A0_1 : Option Addr) (c0_1 : Nat) (l0_1 : List Int) (A0_2 : Option Addr) (c0_2 : Nat) (l0_2 : List (S67)) (a1 : Int) (A2 : Option Addr) (c2 : Nat) (l2 : List Int) (r1 : Int) (r2 : List Int) (r3 : List (S67)) (r4 : Int) (w : World) (hr0_1 : Kd.C (Kd.int .u8) w A0_1 l0_1.length l0_1) (hc0_1 : l0_1.length ≤ c0_1) (hr0_2 : Kd.C k67 w A0_2 l0_2.length l0_2) (hc0_2 : l0_2.length ≤ c0_2) (hr2 : Kd.C (Kd.int .u8) w A2 l2.length l2) (hc2 : l2.length ≤ c2) (h : impl_DevWrite.f k a0_0 l0_1 l0_2 a1 l2 = some (r1, r2, r3, r4)) :
    Calls Try.prog 44 #[.agg #[.int .i64 a0_0, .slice A0_1 l0_1.length c0_1, .slice A0_2 l0_2.length c0_2], .int .i64 a1, .slice A2 l2.length c2] w fun e w' => ∃ v1_ v2_ : Value, e = .returned (.tuple #[.agg #[.int .i64 r1, v1_, v2_], .int .i64 r4]) ∧ Kd.R (Kd.int .u8) 5 w' w.heap.size (fun _ => True) v1_ r2 ∧ Kd.S k67 67 w' w.heap.size (fun k_ => some k_ ≠ (v1_ : Value).ownBlock) v2_ r3 ∧ Below w.heap.size w w' := by
  obtain ⟨t, h1, h⟩ := Option.bind_eq_some_iff.mp h
  cases t with
  | false =>
    rw [if_neg (by simp)] at h
    injection h with h
    obtain ⟨rfl, rfl, rfl, rfl⟩ : 0 = r1 ∧ [] = r2 ∧ [] = r3 ∧ 1 = r4 := by simpa using h
    exact (impl_DevWrite.walk0 a0_0 A0_1 c0_1 l0_1 A0_2 c0_2 l0_2 a1 A2 c2 l2 w hr0_1 hc0_1 hr0_2 hc0_2 hr2 hc2 k h1).mono fun e w' hp => ⟨_, _, hp.1, Kd.R_nil _ _ _ _ _, Kd.S_nil _ _ _ _ _, hp.2⟩
  | true =>
    rw [if_pos rfl] at h
    obtain ⟨⟨d1, d2, d3⟩, h2, h⟩ := Option.bind_eq_some_iff.mp h
    injection h with h
    obtain ⟨rfl, rfl, rfl, rfl⟩ : d1 = r1 ∧ d2 = r2 ∧ writeL d1 a1 l2 d3 = r3 ∧ writeC d1 a1 l2 d3 = r4 := by simpa using h
    exact impl_DevWrite.walk1 a0_0 A0_1 c0_1 l0_1 A0_2 c0_2 l0_2 a1 A2 c2 l2 w hr0_1 hc0_1 hr0_2 hc0_2 hr2 hc2 k d1 d2 d3 h1 h2

end Go.Proofs.Ytbimmmmjdimebaa.PFnExactDevWrite
