/- Contracts by hand, beside the printed ones. -/
import Derived.Test.YtbimmmmjdimebaaPFnExactDevReadx0
import Derived.Test.YtbimmmmjdimebaaPFnExactDevReadx1
import Derived.Test.YtbimmmmjdimebaaPFnExactDevReadx2
import Derived.Test.YtbimmmmjdimebaaPFnExactDevReadx3
import Derived.Test.YtbimmmmjdimebaaPFnExactDevReadx4
import Derived.Test.YtbimmmmjdimebaaLaw
namespace Go.Proofs.Ytbimmmmjdimebaa.PFnExactDevRead
open Go.RowKit Go.Proofs.YtbimmmmjdimebaaW.PrintWords Go.Proofs.YtbimmmmjdimebaaW.PrintLast Go.Proofs.YtbimmmmjdimebaaW.PrintMore
attribute [local go_sem] max2_int min2_int max_two min_two max_three min_three max_four min_four   -- for this text's walks alone
set_option linter.unusedVariables false
set_option linter.unusedSimpArgs false

/-! ### laws.markPendingS, rows of rows that are the call's own -/
def laws_markPendingS.l0 : Nat → List S67 → Int → Int → Option (Int × List S67)
  | 0, _, _, _ => none
  | k + 1, x0, x1, x5 => if x5 < (x0.length : Int) then (if 0 ≤ x5 then ((laws_markByteS.f k (rd_T67 x0 x5).f1 (wrap64 (x1 + 1))).bind fun b => laws_markPendingS.l0 k (x0.set x5.toNat ⟨x1, b.2⟩) b.1 (wrap64 (x5 + 1))) else none) else some (x1, x0)
def laws_markPendingS.f (k : Nat) (l0 : List S67) (a1 : Int) : Option (Int × List S67) := laws_markPendingS.l0 k l0 a1 0
set_option maxHeartbeats 8000000 in
set_option maxRecDepth 100000 in
theorem laws_markPendingS.calls (k : Nat) (P0_ : Nat → Prop) (u : Value) (l0 : List S67) (a1 r1 : Int) (r2 : List S67) (w0 w : World) (hB : Below w0.heap.size w0 w) (ho0 : Kd.S k67 67 w w0.heap.size P0_ u l0) (h : laws_markPendingS.f k l0 a1 = some (r1, r2)) :
    Calls Try.prog 76 #[u, .int .i64 a1] w fun e w' => e = .returned (.int .i64 r1) ∧ Kd.S k67 67 w' w0.heap.size P0_ u r2 ∧ Below w0.heap.size w0 w' ∧ Kept w w' P0_ := by
  have HO0 := Aside0.mk ho0
  have HK := Aside0.mk (Kept.refl w P0_)
  have HB := Aside0.mk hB
  clear hB ho0
  have H' := Aside0.mk (show laws_markPendingS.l0 k l0 a1 0 = some (r1, r2) from h)
  clear h
  have hu67 := Try.underlying67
  go_enter Try.func76, Try.ntmps76
  go_wp2
  go_loopg [1, 5] k (fun kq v1 v5 w' => ∃ (x0_1 : List S67) (x1_1 : Int) (x5_1 : Int), v1 = .int .i64 x1_1 ∧ v5 = .int .i64 x5_1 ∧ Aside0 (laws_markPendingS.l0 kq x0_1 x1_1 x5_1 = some (r1, r2)) ∧ Aside0 (kq ≤ k) ∧ Aside0 (Kd.S k67 67 w' w0.heap.size P0_ u x0_1) ∧ Aside0 (Kept w w' P0_) ∧ Aside0 (Below w0.heap.size w0 w'))
  case atStart => exact ⟨l0, a1, 0, rfl, rfl, H', ⟨Nat.le_refl _⟩, ⟨by (with_reducible repeat (first | apply Kd.S_alloc | apply Kd.S_drewN | apply Kd.S_drew)); exact HO0.out⟩, ⟨by repeat (first | (with_reducible first | exact HK.out | apply Kept.alloc | apply Kept.drewN | apply Kept.drew) | exact HK.out)⟩, ⟨by repeat (first | (with_reducible first | exact HB.out | apply below_alloc | apply pw_below_drewN | apply below_drew1) | exact HB.out)⟩⟩
  case round =>
    clear H' HO0
    try clear p2
    obtain ⟨x0_1, x1_1, x5_1, rfl, rfl, HA, HK1, HO_0, HK, HB⟩ := hrel
    cases gk with
    | zero => exact absurd HA.out (by simp [laws_markPendingS.l0])
    | succ k1 =>
      have H := HA.out
      clear HA
      simp only [laws_markPendingS.l0] at H
      by_cases c3 : x5_1 < (x0_1.length : Int)
      · rw [if_pos c3] at H
        have c3b0 : decide (x5_1 < (x0_1.length : Int)) = true := decide_eq_true c3
        by_cases c4 : 0 ≤ x5_1
        · rw [if_pos c4] at H
          have c4b0 : decide (0 ≤ x5_1) = true := decide_eq_true c4
          obtain ⟨⟨b1, b2⟩, hbt, H⟩ := Option.bind_eq_some_iff.mp H
          obtain ⟨y0, hy0⟩ : ∃ y0, x0_1.getD x5_1.toNat z67 = y0 := ⟨_, rfl⟩
          have A1 := Aside0.mk (show laws_markByteS.f k1 y0.f1 (wrap64 (x1_1 + 1)) = some (b1, b2) from by rw [← hy0]; exact hbt)
          have H' := Aside0.mk (show laws_markPendingS.l0 k1 (x0_1.set x5_1.toNat ⟨x1_1, b2⟩) b1 (wrap64 (x5_1 + 1)) = some (r1, r2) from H)
          clear H hbt
          obtain ⟨go5, co5, eo5, gb5, gl5, cl5, HG5⟩ := Kd.S_form HO_0.out (by omega)
          subst eo5
          have GB5 := Aside0.mk gb5
          clear gb5 gl5 HG5
          have C3 := Aside0.mk c3
          have C4 := Aside0.mk c4
          have hil : x5_1.toNat < x0_1.length := by omega
          obtain ⟨oki, c, hcl, hM, hcc, hfr, hoki, hH⟩ := Kd.S_elem HO_0.out z67 x5_1 c4 c3
          rw [hy0] at hM
          obtain ⟨v1, rfl, hR⟩ := k67_openM hM
          have hP0g := Aside0.mk (HO_0.out.choose_spec.1 go5 rfl : P0_ go5)
          have E1 := Aside0.mk hR
          have E2 := Aside0.mk hH
          have hx5_0 : wr.cell? ⟨go5, x5_1.toNat * 2, none⟩ = some (.int .i64 y0.f0) := hcc 0 _ rfl
          have hf5_0 : wr.frozen? ⟨go5, x5_1.toNat * 2, none⟩ = false := hfr 0
          have hgd : (x0_1.set x5_1.toNat ⟨x1_1, y0.f1⟩).getD x5_1.toNat z67 = ⟨x1_1, y0.f1⟩ := by simp [hil]
          have HGD := Aside0.mk hgd
          have HL := Aside0.mk (show ((x0_1.set x5_1.toNat ⟨x1_1, y0.f1⟩).length : Int) = (x0_1.length : Int) by simp)
          have Ssz := Aside0.mk (show x5_1.toNat * 2 = x5_1.toNat * k67.sz + 0 from rfl)
          clear hcl hM hcc hfr hH hR hgd hoki hil hy0
          have p5 : 0 ≤ (x5_1 : Int) := c4
          have q5 : (x5_1 : Int) < ((x0_1.length : Int) : Int) := c3
          clear c3 c4
          replace p5 := eq_true p5
          replace q5 := eq_true q5
          go_wp2_with (first
            | ((with_reducible refine gate_store (t := 2) (p := 16) rfl ?_)
               refine Kd.H_store (w0 := w0) k67 w0.heap.size rfl rfl 2 _ _ rfl 67 (g := go5) (o' := x5_1.toNat * 2) x5_1 0 x0_1 ⟨x1_1, y0.f1⟩ (.int .i64 x1_1) [.int .i64 x1_1] _ P0_ oki oki rfl Ssz.out rfl rfl (by kernel_rfl) (by simp [Value.oneCell']) E2.out C4.out C3.out (show 1 ≤ 2 by decide) (k67_mkM _ _ _ ⟨x1_1, y0.f1⟩ E1.out) (fun _ h => h) HB.out ?_
               intro w8 hS8 hB8 hG8
               have HK8 := Aside0.mk (Kept.of_grown (S := P0_) hG8 HK.out (fun k_ e_ => .inl (by injection e_ with e_; rw [← e_]; exact hP0g.out)))
               obtain ⟨oki2, c2, hcl2, hM2, hcc2, hfr2, hoki2, hH2⟩ := Kd.S_elem hS8 z67 x5_1 C4.out C3.out
               obtain ⟨v2, rfl, hR2⟩ := k67_openM hM2
               rw [HGD.out] at hR2 hH2 hcc2
               obtain ⟨Ao2, co2, eo2⟩ := Kd.R_slice hR2
               subst eo2
               have E5 := Aside0.mk hR2
               have E6 := Aside0.mk hH2
               have E7 := Aside0.mk (show ∀ k, oki2 k → P0_ k from fun k hk => (hoki2 k hk).1)
               have HB8 := Aside0.mk hB8
               have hx8_1 : w8.cell? ⟨go5, x5_1.toNat * 2 + 1, none⟩ = some (.slice Ao2 y0.f1.length co2) := hcc2 1 _ rfl
               have hf8_1 : w8.frozen? ⟨go5, x5_1.toNat * 2 + 1, none⟩ = false := hfr2 1
               clear hcl2 hM2 hcc2 hfr2 hH2 hR2 hoki2 hS8 hG8 hB8)
            | ((with_reducible refine gate_callee (f := 33) rfl ?_)
               refine goesL_ (some 25) rfl rfl Try.func33 (by kernel_rfl) rfl #[.slice Ao2 y0.f1.length co2, .int .i64 (wrap64 (x1_1 + 1))] rfl (by (try simp only [List.map_toArray, List.map_cons, List.map_nil]); first | done | rfl) ?_
               (with_reducible refine (laws_markByteS.calls k1 oki2 _ _ _ b1 b2 w0 _ ?side1 ?side2 A1.out).mono ?_)
               (case side1 => repeat (first | (with_reducible first | exact HB8.out | apply below_alloc | apply pw_below_drewN | apply below_drew1) | exact HB8.out))
               (case side2 => (with_reducible repeat (first | apply Kd.R_alloc | apply Kd.R_drewN | apply Kd.R_drew)); exact E5.out)
               rintro e w9 ⟨rfl, hy9, hb9, hk9⟩
               refine ⟨_, rfl, ?_⟩
               have HK9 := Aside0.mk (Kept.then_ (S := P0_) (by repeat (first | (with_reducible first | exact HK8.out | apply Kept.alloc | apply Kept.drewN | apply Kept.drew) | exact HK8.out)) hk9 (fun k hk => .inl (E7.out k hk)))
               have HB9 := Aside0.mk hb9
               have HS9 := Aside0.mk (Kd.H_back (Kd.H_kept (by (with_reducible repeat (first | apply Kd.H_alloc | apply Kd.H_drewN | apply Kd.H_drew)); exact E6.out) hk9 (fun _ _ hn => hn)) (k67_mkM _ _ oki2 ⟨x1_1, b2⟩ (Kd.R_reok rfl hy9 (fun k_ e_ => E5.out.1 k_ e_))) (fun _ h => h))
               clear hy9 hb9 hk9))
          go_roundg k1
          case measure => have := HK1.out; omega
          case rel =>
            refine ⟨x0_1.set x5_1.toNat ⟨x1_1, b2⟩, b1, wrap64 (x5_1 + 1), rfl, rfl, H', ⟨by have := HK1.out; omega⟩, ⟨?_⟩, ⟨by repeat (first | (with_reducible first | exact HK9.out | apply Kept.alloc | apply Kept.drewN | apply Kept.drew) | exact HK9.out)⟩, ⟨by repeat (first | (with_reducible first | exact HB9.out | apply below_alloc | apply pw_below_drewN | apply below_drew1) | exact HB9.out)⟩⟩
            have h9 := HS9.out
            rw [List.set_set] at h9
            (with_reducible repeat (first | apply Kd.S_alloc | apply Kd.S_drewN | apply Kd.S_drew))
            exact h9
        · rw [if_neg c4] at H
          exact absurd H (by simp)
      · rw [if_neg c3] at H
        have c3b0 : decide (x5_1 < (x0_1.length : Int)) = false := decide_eq_false c3
        clear c3
        simp only [Option.some.injEq, Prod.mk.injEq] at H
        obtain ⟨rfl, rfl⟩ := H
        obtain ⟨Ao9, co9, eo9⟩ := Kd.S_slice HO_0.out
        subst eo9
        go_wp2
        go_ret
        exact ⟨rfl, by (with_reducible repeat (first | apply Kd.S_alloc | apply Kd.S_drewN | apply Kd.S_drew)); exact HO_0.out, by repeat (first | (with_reducible first | exact HB.out | apply below_alloc | apply pw_below_drewN | apply below_drew1) | exact HB.out), by repeat (first | (with_reducible first | exact HK.out | apply Kept.alloc | apply Kept.drewN | apply Kept.drew) | exact HK.out)⟩

/-! ### laws.markDevice, of the call's own -/
def laws_markDevice.f (k : Nat) (a0 : Int) (l1 : List Int) (l2 : List S67) (a1 : Int) : Option (Int × List Int × List S67) := (laws_markByteS.f k l1 a1).bind fun b => (laws_markPendingS.f k l2 b.1).bind fun c => some (c.1, b.2, c.2)
set_option maxHeartbeats 8000000 in
set_option maxRecDepth 100000 in
theorem laws_markDevice.calls (k : Nat) (P0_ : Nat → Prop) (a0 : Int) (u1 : Value) (l1 : List Int) (u2 : Value) (l2 : List S67) (a1 : Int) (r1 : Int) (r2 : List Int) (r3 : List S67) (w0 w : World) (hB : Below w0.heap.size w0 w) (h1 : Kd.R (Kd.int .u8) 5 w w0.heap.size P0_ u1 l1) (h2 : Kd.S k67 67 w w0.heap.size (fun k_ => P0_ k_ ∧ some k_ ≠ (u1 : Value).ownBlock) u2 l2) (h : laws_markDevice.f k a0 l1 l2 a1 = some (r1, r2, r3)) :
    Calls Try.prog 32 #[.agg #[.int .i64 a0, u1, u2], .int .i64 a1] w fun e w' => e = .returned (.int .i64 r1) ∧ Kd.R (Kd.int .u8) 5 w' w0.heap.size (fun k_ => P0_ k_) u1 r2 ∧ Kd.S k67 67 w' w0.heap.size (fun k_ => P0_ k_ ∧ some k_ ≠ (u1 : Value).ownBlock) u2 r3 ∧ Below w0.heap.size w0 w' ∧ Kept w w' (fun k_ => P0_ k_) := by
  obtain ⟨⟨b1, b2⟩, hb1, h⟩ := Option.bind_eq_some_iff.mp h
  obtain ⟨⟨c1, c2⟩, hc1, h⟩ := Option.bind_eq_some_iff.mp h
  simp only [Option.some.injEq, Prod.mk.injEq] at h
  obtain ⟨rfl, rfl, rfl⟩ := h
  obtain ⟨A1, z1, e1⟩ := Kd.R_slice h1
  subst e1
  obtain ⟨A2, z2, e2⟩ := Kd.S_slice h2
  subst e2
  have E1 := Aside0.mk (show laws_markByteS.f k l1 a1 = some (b1, b2) from hb1)
  have E2 := Aside0.mk (show laws_markPendingS.f k l2 b1 = some (c1, c2) from hc1)
  have HO := Aside0.mk h1
  have HS := Aside0.mk h2
  have HK := Aside0.mk (Kept.refl w P0_)
  have HB := Aside0.mk hB
  clear h1 h2 hB hb1 hc1
  have hu47 := Try.underlying47
  go_enter Try.func32, Try.ntmps32
  go_wp2_with (first
    | ((with_reducible refine gate_dst (N := 2) rfl ?_)
       refine box_event ?hg (N := 2) ?hd (cs := #[.int .i64 a0, .slice A1 l1.length z1, .slice A2 l2.length z2]) (t := 47) ?hr ?_
       (case hd => rfl)
       (case hg => rfl)
       (case hr => first | (go_simp; done) | (go_simp; rfl))
       intro gb hg w2 hbox hb
       have n0 := Aside0.mk (Kd.R_below (by (with_reducible repeat (first | apply Kd.R_alloc | apply Kd.R_drewN | apply Kd.R_drew)); exact HO.out) hb)
       have n1 := Aside0.mk (Kd.S_below (by (with_reducible repeat (first | apply Kd.S_alloc | apply Kd.S_drewN | apply Kd.S_drew)); exact HS.out) hb)
       have n2 := Aside0.mk (Kept.below (S := P0_) (by repeat (first | (with_reducible first | exact HK.out | apply Kept.alloc | apply Kept.drewN | apply Kept.drew) | exact HK.out)) hb)
       have n3 := Aside0.mk (below_step (by repeat (first | (with_reducible first | exact HB.out | apply below_alloc | apply pw_below_drewN | apply below_drew1) | exact HB.out)) hb)
       have BK := Aside0.mk hbox
       clear HO HS HK HB hb hbox hg
       have HO := n0
       have HS := n1
       have HK := n2
       have HB := n3
       clear n0 n1 n2 n3
       have hc0 : w2.cell? ⟨gb, 0, none⟩ = some (.int .i64 a0) := (blk_cell BK.out 0).trans rfl
       have hc1 : w2.cell? ⟨gb, 1, none⟩ = some (.slice A1 l1.length z1) := (blk_cell BK.out 1).trans rfl
       have hc2 : w2.cell? ⟨gb, 2, none⟩ = some (.slice A2 l2.length z2) := (blk_cell BK.out 2).trans rfl
       have hf0 := blk_frozen BK.out 0
       have hf1 := blk_frozen BK.out 1
       have hf2 := blk_frozen BK.out 2)
    | ((with_reducible refine gate_callee (f := 33) rfl ?_)
       refine goesL_ (some 8) rfl rfl Try.func33 (by kernel_rfl) rfl #[.slice A1 l1.length z1, .int .i64 a1] rfl (by (try simp only [List.map_toArray, List.map_cons, List.map_nil]); first | done | rfl) ?_
       refine (laws_markByteS.calls k (fun k_ => some k_ = (.slice A1 l1.length z1 : Value).ownBlock) _ l1 a1 b1 b2 w0 _ ?s1 ?s2 E1.out).mono ?_
       (case s1 => repeat (first | (with_reducible first | exact HB.out | apply below_alloc | apply pw_below_drewN | apply below_drew1) | exact HB.out))
       (case s2 => (with_reducible repeat (first | apply Kd.R_alloc | apply Kd.R_drewN | apply Kd.R_drew)); exact Kd.R_tight rfl HO.out)
       rintro e w4 ⟨rfl, hy, hb, hk⟩
       refine ⟨_, rfl, ?_⟩
       have n0 := Aside0.mk (Kd.R_reok rfl hy (fun k_ e_ => HO.out.1 k_ e_))
       have n1 := Aside0.mk (Kd.S_kept (by (with_reducible repeat (first | apply Kd.S_alloc | apply Kd.S_drewN | apply Kd.S_drew)); exact HS.out) hk (fun k_ (h_ : P0_ k_ ∧ some k_ ≠ (.slice A1 l1.length z1 : Value).ownBlock) e_ => h_.2 e_))
       have n2 := Aside0.mk (Kept.then_ (S := P0_) (by repeat (first | (with_reducible first | exact HK.out | apply Kept.alloc | apply Kept.drewN | apply Kept.drew) | exact HK.out)) hk (fun k_ h_ => .inl (HO.out.1 k_ h_.symm)))
       have n3 := Aside0.mk hb
       have n4 := Aside0.mk (blk_kept (g := gb) (o := .cells #[.int .i64 a0, .slice A1 l1.length z1, .slice A2 l2.length z2] 47 (0, 0)) (by (with_reducible repeat (first | refine blk_drewN ?_ _ | refine blk_drew ?_ | refine blk_alloc ?_ _)); exact BK.out) hk (fun e_ => Kd.R_ne HO.out BK.out (by decide) e_))
       clear HO HS HK HB hb hk hy BK
       have HO := n0
       have HS := n1
       have HK := n2
       have HB := n3
       have BK := n4
       clear n0 n1 n2 n3 n4
       have hd0 : w4.cell? ⟨gb, 0, none⟩ = some (.int .i64 a0) := (blk_cell BK.out 0).trans rfl
       have hd1 : w4.cell? ⟨gb, 1, none⟩ = some (.slice A1 l1.length z1) := (blk_cell BK.out 1).trans rfl
       have hd2 : w4.cell? ⟨gb, 2, none⟩ = some (.slice A2 l2.length z2) := (blk_cell BK.out 2).trans rfl
       have hg0 := blk_frozen BK.out 0
       have hg1 := blk_frozen BK.out 1
       have hg2 := blk_frozen BK.out 2)
    | ((with_reducible refine gate_callee (f := 76) rfl ?_)
       refine goesL_ (some 12) rfl rfl Try.func76 (by kernel_rfl) rfl #[.slice A2 l2.length z2, .int .i64 b1] rfl (by (try simp only [List.map_toArray, List.map_cons, List.map_nil]); first | done | rfl) ?_
       refine (laws_markPendingS.calls k (fun k_ => P0_ k_ ∧ some k_ ≠ (.slice A1 l1.length z1 : Value).ownBlock) _ l2 b1 c1 c2 w0 _ ?s1 ?s2 E2.out).mono ?_
       (case s1 => repeat (first | (with_reducible first | exact HB.out | apply below_alloc | apply pw_below_drewN | apply below_drew1) | exact HB.out))
       (case s2 => (with_reducible repeat (first | apply Kd.S_alloc | apply Kd.S_drewN | apply Kd.S_drew)); exact HS.out)
       rintro e w6 ⟨rfl, hy, hb, hk⟩
       refine ⟨_, rfl, ?_⟩
       have n0 := Aside0.mk (Kd.R_reok (ok := fun k_ => P0_ k_) rfl (Kd.R_kept (by (with_reducible repeat (first | apply Kd.R_alloc | apply Kd.R_drewN | apply Kd.R_drew)); exact Kd.R_tight rfl HO.out) hk (fun k_ e_ (h_ : P0_ k_ ∧ some k_ ≠ (.slice A1 l1.length z1 : Value).ownBlock) => h_.2 e_)) (fun k_ e_ => HO.out.1 k_ e_))
       have n1 := Aside0.mk hy
       have n2 := Aside0.mk (Kept.then_ (S := P0_) (by repeat (first | (with_reducible first | exact HK.out | apply Kept.alloc | apply Kept.drewN | apply Kept.drew) | exact HK.out)) hk (fun k_ h_ => .inl h_.1))
       have n3 := Aside0.mk hb
       clear HO HS HK HB hb hk hy
       have HO := n0
       have HS := n1
       have HK := n2
       have HB := n3
       clear n0 n1 n2 n3))
  go_ret
  exact ⟨rfl, by (with_reducible repeat (first | apply Kd.R_alloc | apply Kd.R_drewN | apply Kd.R_drew)); exact HO.out, by (with_reducible repeat (first | apply Kd.S_alloc | apply Kd.S_drewN | apply Kd.S_drew)); exact HS.out, by repeat (first | (with_reducible first | exact HB.out | apply below_alloc | apply pw_below_drewN | apply below_drew1) | exact HB.out), by repeat (first | (with_reducible first | exact HK.out | apply Kept.alloc | apply Kept.drewN | apply Kept.drew) | exact HK.out)⟩

/-! ### laws_FnExactDevRead: what each call on its way comes to; its walk -/
def laws_FnExactDevRead.Facts (a0_0 : Int) (l0_1 : List Int) (l0_2 : List S127) (a1 : Int) : Prop :=
  (∃ (k : Nat) (r4 : Int), laws_szDevice.f k a0_0 l0_1 l0_2 1048576 = some r4 ∧ r4 < 0) ∨
  (∃ (k : Nat) (r4 : Int) (r10 : Int) (r11 : List Int) (r12 : List (S67)) (r25 : List Int) (r26 : Int) (r78 : Int) (r79 : List Int) (r80 : List S67) (r91 : Int) (r92 : List Int), laws_szDevice.f k a0_0 l0_1 l0_2 1048576 = some r4 ∧ ¬ r4 < 0 ∧ laws_toDevice.f k a0_0 l0_1 l0_2 = some (r10, r11, r12) ∧ spec_DevRead.f k r10 r11 r12 a1 = some (r25, r26) ∧ impl_DevRead.f k r10 r11 r12 a1 = some (r25, r26) ∧ laws_eqByteS.f k r25 r25 = some true ∧ laws_eqDevice.f k r10 r11 r12 r10 r11 r12 = some true ∧ laws_markDevice.f k r10 r11 r12 1 = some (r78, r79, r80) ∧ ¬ r78 < 0 ∧ laws_markByteS.f k r25 1 = some (r91, r92) ∧ laws_heldByteS.f k r92 1 = some r91 ∧ ¬ r91 < 0)
set_option maxHeartbeats 16000000 in
set_option maxRecDepth 100000 in
theorem laws_FnExactDevRead.walk0 (a0_0 : Int) (A0_1 : Option Addr) (c0_1 : Nat) (l0_1 : List Int) (A0_2 : Option Addr) (c0_2 : Nat) (l0_2 : List S127) (a1 : Int) (W : World) (hr0_1 : Kd.C (Kd.int .u8) W A0_1 l0_1.length l0_1) (hc0_1 : l0_1.length ≤ c0_1) (hr0_2 : Kd.C k127 W A0_2 l0_2.length l0_2) (hc0_2 : l0_2.length ≤ c0_2) (k : Nat) (r4 : Int) (E5 : laws_szDevice.f k a0_0 l0_1 l0_2 1048576 = some r4) (T9 : r4 < 0) :
    Calls Try.prog 5 #[.agg #[.int .i64 a0_0, .slice A0_1 l0_1.length c0_1, .slice A0_2 l0_2.length c0_2], .int .i64 a1] W fun e w' => e = .returned (.bool true) ∧ Below W.heap.size W w' := by
  have HB := Aside0.mk (Below.refl W.heap.size W)
  have I : Law.Inv [] W := trivial
  have hu41 := Try.underlying41
  have DT9 : decide (r4 < 0) = true := decide_eq_true T9
  clear T9
  replace E5 := Aside0.mk E5
  go_enter Try.func5, Try.ntmps5
  go_wp2_with (first
    | ((with_reducible refine gate_dst (N := 2) rfl ?_)
       refine box_event ?hg (N := 2) ?hd (cs := #[.int .i64 a0_0, .slice A0_1 l0_1.length c0_1, .slice A0_2 l0_2.length c0_2]) (t := 41) ?hr ?_
       (case hd => rfl)
       (case hg => rfl)
       (case hr => first | (go_simp; done) | (go_simp; rfl))
       intro gb1 hg w2 hbox hb
       have I1 : Law.Inv [] w2 := Law.Inv.below (by (with_reducible repeat (first | apply Law.Inv.alloc | apply Law.Inv.drewN | apply Law.Inv.drew)); exact I) hb
       have HB1 := Aside0.mk (below_step (by repeat (first | (with_reducible first | exact HB.out | apply below_alloc | apply pw_below_drewN | apply below_drew1) | exact HB.out)) hb)
       have SZ3 := Aside0.mk (show W.heap.size ≤ gb1 ∧ gb1 + 1 ≤ w2.heap.size from ⟨by rw [hg]; exact (by repeat (first | (with_reducible first | exact HB.out | apply below_alloc | apply pw_below_drewN | apply below_drew1) | exact HB.out) : Below W.heap.size W _).size, blk_lt hbox⟩)
       have I2 : Law.Inv (Law.boxI gb1 #[.int .i64 a0_0, .slice A0_1 l0_1.length c0_1, .slice A0_2 l0_2.length c0_2] 41 :: []) w2 := ⟨⟨hbox, blk_lt hbox⟩, I1⟩
       clear I HB hbox hb hg I1
       have I := I2
       have HB := HB1
       clear I2 HB1
       have hcz_gb1_w2_0 : w2.cell? ⟨gb1, 0, none⟩ = some (.int .i64 a0_0) := (blk_cell (Law.blk_of (I.1.1)) 0).trans rfl
       have hfz_gb1_w2_0 := blk_frozen (Law.blk_of (I.1.1)) 0
       have hcz_gb1_w2_1 : w2.cell? ⟨gb1, 1, none⟩ = some (.slice A0_1 l0_1.length c0_1) := (blk_cell (Law.blk_of (I.1.1)) 1).trans rfl
       have hfz_gb1_w2_1 := blk_frozen (Law.blk_of (I.1.1)) 1
       have hcz_gb1_w2_2 : w2.cell? ⟨gb1, 2, none⟩ = some (.slice A0_2 l0_2.length c0_2) := (blk_cell (Law.blk_of (I.1.1)) 2).trans rfl
       have hfz_gb1_w2_2 := blk_frozen (Law.blk_of (I.1.1)) 2)
    | ((with_reducible refine gate_callee (f := 26) rfl ?_)
       refine goesL_ (some 18) rfl rfl Try.func26 (by kernel_rfl) rfl #[.agg #[.int .i64 a0_0, .slice A0_1 l0_1.length c0_1, .slice A0_2 l0_2.length c0_2], .int .i64 1048576] rfl (by (try simp only [List.map_toArray, List.map_cons, List.map_nil]); first | done | rfl) ?_
       refine Law.at_world (fun w6 hw1 => ?_)
       have I1 : Law.Inv [Law.boxI gb1 #[.int .i64 a0_0, .slice A0_1 l0_1.length c0_1, .slice A0_2 l0_2.length c0_2] 41] w6 := by rw [hw1]; (with_reducible repeat (first | apply Law.Inv.alloc | apply Law.Inv.drewN | apply Law.Inv.drew)); exact I
       have HB1 := Aside0.mk (show Below W.heap.size W w6 by rw [hw1]; repeat (first | (with_reducible first | exact HB.out | apply below_alloc | apply pw_below_drewN | apply below_drew1) | exact HB.out))
       clear I HB hw1
       have I := I1
       have HB := HB1
       clear I1 HB1
       refine (laws_szDevice.calls k a0_0 A0_1 c0_1 l0_1 A0_2 c0_2 l0_2 1048576 r4 w6 ?_ ?_ ?_ ?_ E5.out).mono ?_
       · exact Kd.C_below hr0_1 HB.out
       · exact hc0_1
       · exact Kd.C_below hr0_2 HB.out
       · exact hc0_2
       rintro e w7 ⟨rfl, hq0⟩
       refine ⟨_, rfl, ?_⟩
       have I1 : Law.Inv [Law.boxI gb1 #[.int .i64 a0_0, .slice A0_1 l0_1.length c0_1, .slice A0_2 l0_2.length c0_2] 41] w7 := Law.Inv.below I hq0
       have HB1 := Aside0.mk (below_step HB.out hq0)
       have SZ8 := Aside0.mk (show W.heap.size ≤ w6.heap.size ∧ gb1 + 1 ≤ w6.heap.size ∧ w6.heap.size ≤ w7.heap.size from ⟨HB.out.size, I.1.2, hq0.size⟩)
       clear I HB
       have I := I1
       have HB := HB1
       clear I1 HB1
       have hcz_gb1_w7_0 : w7.cell? ⟨gb1, 0, none⟩ = some (.int .i64 a0_0) := (blk_cell (Law.blk_of (I.1.1)) 0).trans rfl
       have hfz_gb1_w7_0 := blk_frozen (Law.blk_of (I.1.1)) 0
       have hcz_gb1_w7_1 : w7.cell? ⟨gb1, 1, none⟩ = some (.slice A0_1 l0_1.length c0_1) := (blk_cell (Law.blk_of (I.1.1)) 1).trans rfl
       have hfz_gb1_w7_1 := blk_frozen (Law.blk_of (I.1.1)) 1
       have hcz_gb1_w7_2 : w7.cell? ⟨gb1, 2, none⟩ = some (.slice A0_2 l0_2.length c0_2) := (blk_cell (Law.blk_of (I.1.1)) 2).trans rfl
       have hfz_gb1_w7_2 := blk_frozen (Law.blk_of (I.1.1)) 2))
  try go_wp2
  go_ret
  exact ⟨rfl, by repeat (first | (with_reducible first | exact HB.out | apply below_alloc | apply pw_below_drewN | apply below_drew1) | exact HB.out)⟩
set_option maxHeartbeats 16000000 in
set_option maxRecDepth 100000 in
theorem laws_FnExactDevRead.walk1 (a0_0 : Int) (A0_1 : Option Addr) (c0_1 : Nat) (l0_1 : List Int) (A0_2 : Option Addr) (c0_2 : Nat) (l0_2 : List S127) (a1 : Int) (W : World) (hr0_1 : Kd.C (Kd.int .u8) W A0_1 l0_1.length l0_1) (hc0_1 : l0_1.length ≤ c0_1) (hr0_2 : Kd.C k127 W A0_2 l0_2.length l0_2) (hc0_2 : l0_2.length ≤ c0_2) (k : Nat) (r4 : Int) (r10 : Int) (r11 : List Int) (r12 : List (S67)) (r25 : List Int) (r26 : Int) (r78 : Int) (r79 : List Int) (r80 : List S67) (r91 : Int) (r92 : List Int) (E5 : laws_szDevice.f k a0_0 l0_1 l0_2 1048576 = some r4) (T9 : ¬ r4 < 0) (E13 : laws_toDevice.f k a0_0 l0_1 l0_2 = some (r10, r11, r12)) (E27 : spec_DevRead.f k r10 r11 r12 a1 = some (r25, r26)) (E49 : impl_DevRead.f k r10 r11 r12 a1 = some (r25, r26)) (E57 : laws_eqByteS.f k r25 r25 = some true) (E74 : laws_eqDevice.f k r10 r11 r12 r10 r11 r12 = some true) (E81 : laws_markDevice.f k r10 r11 r12 1 = some (r78, r79, r80)) (T87 : ¬ r78 < 0) (E93 : laws_markByteS.f k r25 1 = some (r91, r92)) (E98 : laws_heldByteS.f k r92 1 = some r91) (T102 : ¬ r91 < 0) :
    Calls Try.prog 5 #[.agg #[.int .i64 a0_0, .slice A0_1 l0_1.length c0_1, .slice A0_2 l0_2.length c0_2], .int .i64 a1] W fun e w' => e = .returned (.bool true) ∧ Below W.heap.size W w' := by
  have HB := Aside0.mk (Below.refl W.heap.size W)
  have I : Law.Inv [] W := trivial
  have hu41 := Try.underlying41
  have hu47 := Try.underlying47
  have DT9 : decide (r4 < 0) = false := decide_eq_false T9
  clear T9
  have DT87 : decide (r78 < 0) = false := decide_eq_false T87
  clear T87
  have DT102 : decide (r91 < 0) = false := decide_eq_false T102
  clear T102
  replace E5 := Aside0.mk E5
  replace E13 := Aside0.mk E13
  replace E27 := Aside0.mk E27
  replace E49 := Aside0.mk E49
  replace E57 := Aside0.mk E57
  replace E74 := Aside0.mk E74
  replace E81 := Aside0.mk E81
  replace E93 := Aside0.mk E93
  replace E98 := Aside0.mk E98
  go_enter Try.func5, Try.ntmps5
  go_wp2_with (first
    | ((with_reducible refine gate_dst (N := 2) rfl ?_)
       refine box_event ?hg (N := 2) ?hd (cs := #[.int .i64 a0_0, .slice A0_1 l0_1.length c0_1, .slice A0_2 l0_2.length c0_2]) (t := 41) ?hr ?_
       (case hd => rfl)
       (case hg => rfl)
       (case hr => first | (go_simp; done) | (go_simp; rfl))
       intro gb1 hg w2 hbox hb
       have I1 : Law.Inv [] w2 := Law.Inv.below (by (with_reducible repeat (first | apply Law.Inv.alloc | apply Law.Inv.drewN | apply Law.Inv.drew)); exact I) hb
       have HB1 := Aside0.mk (below_step (by repeat (first | (with_reducible first | exact HB.out | apply below_alloc | apply pw_below_drewN | apply below_drew1) | exact HB.out)) hb)
       have SZ3 := Aside0.mk (show W.heap.size ≤ gb1 ∧ gb1 + 1 ≤ w2.heap.size from ⟨by rw [hg]; exact (by repeat (first | (with_reducible first | exact HB.out | apply below_alloc | apply pw_below_drewN | apply below_drew1) | exact HB.out) : Below W.heap.size W _).size, blk_lt hbox⟩)
       have I2 : Law.Inv (Law.boxI gb1 #[.int .i64 a0_0, .slice A0_1 l0_1.length c0_1, .slice A0_2 l0_2.length c0_2] 41 :: []) w2 := ⟨⟨hbox, blk_lt hbox⟩, I1⟩
       clear I HB hbox hb hg I1
       have I := I2
       have HB := HB1
       clear I2 HB1
       have hcz_gb1_w2_0 : w2.cell? ⟨gb1, 0, none⟩ = some (.int .i64 a0_0) := (blk_cell (Law.blk_of (I.1.1)) 0).trans rfl
       have hfz_gb1_w2_0 := blk_frozen (Law.blk_of (I.1.1)) 0
       have hcz_gb1_w2_1 : w2.cell? ⟨gb1, 1, none⟩ = some (.slice A0_1 l0_1.length c0_1) := (blk_cell (Law.blk_of (I.1.1)) 1).trans rfl
       have hfz_gb1_w2_1 := blk_frozen (Law.blk_of (I.1.1)) 1
       have hcz_gb1_w2_2 : w2.cell? ⟨gb1, 2, none⟩ = some (.slice A0_2 l0_2.length c0_2) := (blk_cell (Law.blk_of (I.1.1)) 2).trans rfl
       have hfz_gb1_w2_2 := blk_frozen (Law.blk_of (I.1.1)) 2)
    | ((with_reducible refine gate_callee (f := 26) rfl ?_)
       refine goesL_ (some 18) rfl rfl Try.func26 (by kernel_rfl) rfl #[.agg #[.int .i64 a0_0, .slice A0_1 l0_1.length c0_1, .slice A0_2 l0_2.length c0_2], .int .i64 1048576] rfl (by (try simp only [List.map_toArray, List.map_cons, List.map_nil]); first | done | rfl) ?_
       refine Law.at_world (fun w6 hw1 => ?_)
       have I1 : Law.Inv [Law.boxI gb1 #[.int .i64 a0_0, .slice A0_1 l0_1.length c0_1, .slice A0_2 l0_2.length c0_2] 41] w6 := by rw [hw1]; (with_reducible repeat (first | apply Law.Inv.alloc | apply Law.Inv.drewN | apply Law.Inv.drew)); exact I
       have HB1 := Aside0.mk (show Below W.heap.size W w6 by rw [hw1]; repeat (first | (with_reducible first | exact HB.out | apply below_alloc | apply pw_below_drewN | apply below_drew1) | exact HB.out))
       clear I HB hw1
       have I := I1
       have HB := HB1
       clear I1 HB1
       refine (laws_szDevice.calls k a0_0 A0_1 c0_1 l0_1 A0_2 c0_2 l0_2 1048576 r4 w6 ?_ ?_ ?_ ?_ E5.out).mono ?_
       · exact Kd.C_below hr0_1 HB.out
       · exact hc0_1
       · exact Kd.C_below hr0_2 HB.out
       · exact hc0_2
       rintro e w7 ⟨rfl, hq0⟩
       refine ⟨_, rfl, ?_⟩
       have I1 : Law.Inv [Law.boxI gb1 #[.int .i64 a0_0, .slice A0_1 l0_1.length c0_1, .slice A0_2 l0_2.length c0_2] 41] w7 := Law.Inv.below I hq0
       have HB1 := Aside0.mk (below_step HB.out hq0)
       have SZ8 := Aside0.mk (show W.heap.size ≤ w6.heap.size ∧ gb1 + 1 ≤ w6.heap.size ∧ w6.heap.size ≤ w7.heap.size from ⟨HB.out.size, I.1.2, hq0.size⟩)
       clear I HB
       have I := I1
       have HB := HB1
       clear I1 HB1
       have hcz_gb1_w7_0 : w7.cell? ⟨gb1, 0, none⟩ = some (.int .i64 a0_0) := (blk_cell (Law.blk_of (I.1.1)) 0).trans rfl
       have hfz_gb1_w7_0 := blk_frozen (Law.blk_of (I.1.1)) 0
       have hcz_gb1_w7_1 : w7.cell? ⟨gb1, 1, none⟩ = some (.slice A0_1 l0_1.length c0_1) := (blk_cell (Law.blk_of (I.1.1)) 1).trans rfl
       have hfz_gb1_w7_1 := blk_frozen (Law.blk_of (I.1.1)) 1
       have hcz_gb1_w7_2 : w7.cell? ⟨gb1, 2, none⟩ = some (.slice A0_2 l0_2.length c0_2) := (blk_cell (Law.blk_of (I.1.1)) 2).trans rfl
       have hfz_gb1_w7_2 := blk_frozen (Law.blk_of (I.1.1)) 2)
    | ((with_reducible refine gate_callee (f := 28) rfl ?_)
       refine goesL_ (some 23) rfl rfl Try.func28 (by kernel_rfl) rfl #[.agg #[.int .i64 a0_0, .slice A0_1 l0_1.length c0_1, .slice A0_2 l0_2.length c0_2]] rfl (by (try simp only [List.map_toArray, List.map_cons, List.map_nil]); first | done | rfl) ?_
       refine Law.at_world (fun w14 hw1 => ?_)
       have I1 : Law.Inv [Law.boxI gb1 #[.int .i64 a0_0, .slice A0_1 l0_1.length c0_1, .slice A0_2 l0_2.length c0_2] 41] w14 := by rw [hw1]; (with_reducible repeat (first | apply Law.Inv.alloc | apply Law.Inv.drewN | apply Law.Inv.drew)); exact I
       have HB1 := Aside0.mk (show Below W.heap.size W w14 by rw [hw1]; repeat (first | (with_reducible first | exact HB.out | apply below_alloc | apply pw_below_drewN | apply below_drew1) | exact HB.out))
       clear I HB hw1
       have I := I1
       have HB := HB1
       clear I1 HB1
       refine (laws_toDevice.calls k a0_0 A0_1 c0_1 l0_1 A0_2 c0_2 l0_2 r10 r11 r12 w14 ?_ ?_ ?_ ?_ E13.out).mono ?_
       · exact Kd.C_below hr0_1 HB.out
       · exact hc0_1
       · exact Kd.C_below hr0_2 HB.out
       · exact hc0_2
       rintro e w15 ⟨v16, v17, rfl, hq0, hq1, hq2⟩
       refine ⟨_, rfl, ?_⟩
       obtain ⟨Ao18, co19, eo20⟩ := Kd.R_slice hq0
       subst eo20
       obtain ⟨Ao21, co22, eo23⟩ := Kd.S_slice hq1
       subst eo23
       have I1 : Law.Inv [Law.boxI gb1 #[.int .i64 a0_0, .slice A0_1 l0_1.length c0_1, .slice A0_2 l0_2.length c0_2] 41] w15 := Law.Inv.below I hq2
       have HB1 := Aside0.mk (below_step HB.out hq2)
       have SZ24 := Aside0.mk (show W.heap.size ≤ w14.heap.size ∧ gb1 + 1 ≤ w14.heap.size ∧ w14.heap.size ≤ w15.heap.size from ⟨HB.out.size, I.1.2, hq2.size⟩)
       have I1 : Law.Inv (Law.rowI (Kd.int .u8) 5 w14.heap.size w14.heap.size w15.heap.size (fun _ => True) (.slice Ao18 r11.length co19) r11 :: [Law.boxI gb1 #[.int .i64 a0_0, .slice A0_1 l0_1.length c0_1, .slice A0_2 l0_2.length c0_2] 41]) w15 := ⟨Law.rowI_new hq0 (fun _ h => h), I1⟩
       have I1 : Law.Inv (Law.rowsI k67 67 w14.heap.size w14.heap.size w15.heap.size (fun k_ => some k_ ≠ (.slice Ao18 r11.length co19 : Value).ownBlock) (.slice Ao21 r12.length co22) r12 :: [Law.rowI (Kd.int .u8) 5 w14.heap.size w14.heap.size w15.heap.size (fun _ => True) (.slice Ao18 r11.length co19) r11, Law.boxI gb1 #[.int .i64 a0_0, .slice A0_1 l0_1.length c0_1, .slice A0_2 l0_2.length c0_2] 41]) w15 := ⟨Law.rowsI_new hq1 (fun _ h => h), I1⟩
       clear I HB
       have I := I1
       have HB := HB1
       clear I1 HB1
       have hcz_gb1_w15_0 : w15.cell? ⟨gb1, 0, none⟩ = some (.int .i64 a0_0) := (blk_cell (Law.blk_of (I.2.2.1.1)) 0).trans rfl
       have hfz_gb1_w15_0 := blk_frozen (Law.blk_of (I.2.2.1.1)) 0
       have hcz_gb1_w15_1 : w15.cell? ⟨gb1, 1, none⟩ = some (.slice A0_1 l0_1.length c0_1) := (blk_cell (Law.blk_of (I.2.2.1.1)) 1).trans rfl
       have hfz_gb1_w15_1 := blk_frozen (Law.blk_of (I.2.2.1.1)) 1
       have hcz_gb1_w15_2 : w15.cell? ⟨gb1, 2, none⟩ = some (.slice A0_2 l0_2.length c0_2) := (blk_cell (Law.blk_of (I.2.2.1.1)) 2).trans rfl
       have hfz_gb1_w15_2 := blk_frozen (Law.blk_of (I.2.2.1.1)) 2)
    | ((with_reducible refine gate_callee (f := 27) rfl ?_)
       refine goesL_ (some 25) rfl rfl Try.func27 (by kernel_rfl) rfl #[.agg #[.int .i64 r10, .slice Ao18 r11.length co19, .slice Ao21 r12.length co22], .int .i64 a1] rfl (by (try simp only [List.map_toArray, List.map_cons, List.map_nil]); first | done | rfl) ?_
       refine Law.at_world (fun w28 hw1 => ?_)
       have I1 : Law.Inv [Law.rowsI k67 67 w14.heap.size w14.heap.size w15.heap.size (fun k_ => some k_ ≠ (.slice Ao18 r11.length co19 : Value).ownBlock) (.slice Ao21 r12.length co22) r12, Law.rowI (Kd.int .u8) 5 w14.heap.size w14.heap.size w15.heap.size (fun _ => True) (.slice Ao18 r11.length co19) r11, Law.boxI gb1 #[.int .i64 a0_0, .slice A0_1 l0_1.length c0_1, .slice A0_2 l0_2.length c0_2] 41] w28 := by rw [hw1]; (with_reducible repeat (first | apply Law.Inv.alloc | apply Law.Inv.drewN | apply Law.Inv.drew)); exact I
       have HB1 := Aside0.mk (show Below W.heap.size W w28 by rw [hw1]; repeat (first | (with_reducible first | exact HB.out | apply below_alloc | apply pw_below_drewN | apply below_drew1) | exact HB.out))
       clear I HB hw1
       have I := I1
       have HB := HB1
       clear I1 HB1
       refine (spec_DevRead.calls k r10 Ao18 co19 r11 Ao21 co22 r12 a1 r25 r26 w28 ?_ ?_ ?_ ?_ E27.out).mono ?_
       · exact (Kd.R_reads' (I.2.1.1)).2.2
       · exact (Kd.R_reads' (I.2.1.1)).2.1
       · exact (Kd.S_reads' (I.1.1)).2.2
       · exact (Kd.S_reads' (I.1.1)).2.1
       rintro e w29 ⟨v30, rfl, hq0, hq1⟩
       refine ⟨_, rfl, ?_⟩
       obtain ⟨Ao31, co32, eo33⟩ := Kd.R_slice hq0
       subst eo33
       have I1 : Law.Inv [Law.rowsI k67 67 w14.heap.size w14.heap.size w15.heap.size (fun k_ => some k_ ≠ (.slice Ao18 r11.length co19 : Value).ownBlock) (.slice Ao21 r12.length co22) r12, Law.rowI (Kd.int .u8) 5 w14.heap.size w14.heap.size w15.heap.size (fun _ => True) (.slice Ao18 r11.length co19) r11, Law.boxI gb1 #[.int .i64 a0_0, .slice A0_1 l0_1.length c0_1, .slice A0_2 l0_2.length c0_2] 41] w29 := Law.Inv.below I hq1
       have HB1 := Aside0.mk (below_step HB.out hq1)
       have SZ34 := Aside0.mk (show W.heap.size ≤ w28.heap.size ∧ w15.heap.size ≤ w28.heap.size ∧ w15.heap.size ≤ w28.heap.size ∧ gb1 + 1 ≤ w28.heap.size ∧ w28.heap.size ≤ w29.heap.size from ⟨HB.out.size, I.1.2, I.2.1.2, I.2.2.1.2, hq1.size⟩)
       have I1 : Law.Inv (Law.rowI (Kd.int .u8) 5 w28.heap.size w28.heap.size w29.heap.size (fun _ => True) (.slice Ao31 r25.length co32) r25 :: [Law.rowsI k67 67 w14.heap.size w14.heap.size w15.heap.size (fun k_ => some k_ ≠ (.slice Ao18 r11.length co19 : Value).ownBlock) (.slice Ao21 r12.length co22) r12, Law.rowI (Kd.int .u8) 5 w14.heap.size w14.heap.size w15.heap.size (fun _ => True) (.slice Ao18 r11.length co19) r11, Law.boxI gb1 #[.int .i64 a0_0, .slice A0_1 l0_1.length c0_1, .slice A0_2 l0_2.length c0_2] 41]) w29 := ⟨Law.rowI_new hq0 (fun _ h => h), I1⟩
       clear I HB
       have I := I1
       have HB := HB1
       clear I1 HB1
       have hcz_gb1_w29_0 : w29.cell? ⟨gb1, 0, none⟩ = some (.int .i64 a0_0) := (blk_cell (Law.blk_of (I.2.2.2.1.1)) 0).trans rfl
       have hfz_gb1_w29_0 := blk_frozen (Law.blk_of (I.2.2.2.1.1)) 0
       have hcz_gb1_w29_1 : w29.cell? ⟨gb1, 1, none⟩ = some (.slice A0_1 l0_1.length c0_1) := (blk_cell (Law.blk_of (I.2.2.2.1.1)) 1).trans rfl
       have hfz_gb1_w29_1 := blk_frozen (Law.blk_of (I.2.2.2.1.1)) 1
       have hcz_gb1_w29_2 : w29.cell? ⟨gb1, 2, none⟩ = some (.slice A0_2 l0_2.length c0_2) := (blk_cell (Law.blk_of (I.2.2.2.1.1)) 2).trans rfl
       have hfz_gb1_w29_2 := blk_frozen (Law.blk_of (I.2.2.2.1.1)) 2)
    | ((with_reducible refine gate_callee (f := 28) rfl ?_)
       refine goesL_ (some 29) rfl rfl Try.func28 (by kernel_rfl) rfl #[.agg #[.int .i64 a0_0, .slice A0_1 l0_1.length c0_1, .slice A0_2 l0_2.length c0_2]] rfl (by (try simp only [List.map_toArray, List.map_cons, List.map_nil]); first | done | rfl) ?_
       refine Law.at_world (fun w35 hw1 => ?_)
       have I1 : Law.Inv [Law.rowI (Kd.int .u8) 5 w28.heap.size w28.heap.size w29.heap.size (fun _ => True) (.slice Ao31 r25.length co32) r25, Law.rowsI k67 67 w14.heap.size w14.heap.size w15.heap.size (fun k_ => some k_ ≠ (.slice Ao18 r11.length co19 : Value).ownBlock) (.slice Ao21 r12.length co22) r12, Law.rowI (Kd.int .u8) 5 w14.heap.size w14.heap.size w15.heap.size (fun _ => True) (.slice Ao18 r11.length co19) r11, Law.boxI gb1 #[.int .i64 a0_0, .slice A0_1 l0_1.length c0_1, .slice A0_2 l0_2.length c0_2] 41] w35 := by rw [hw1]; (with_reducible repeat (first | apply Law.Inv.alloc | apply Law.Inv.drewN | apply Law.Inv.drew)); exact I
       have HB1 := Aside0.mk (show Below W.heap.size W w35 by rw [hw1]; repeat (first | (with_reducible first | exact HB.out | apply below_alloc | apply pw_below_drewN | apply below_drew1) | exact HB.out))
       clear I HB hw1
       have I := I1
       have HB := HB1
       clear I1 HB1
       refine (laws_toDevice.calls k a0_0 A0_1 c0_1 l0_1 A0_2 c0_2 l0_2 r10 r11 r12 w35 ?_ ?_ ?_ ?_ E13.out).mono ?_
       · exact Kd.C_below hr0_1 HB.out
       · exact hc0_1
       · exact Kd.C_below hr0_2 HB.out
       · exact hc0_2
       rintro e w36 ⟨v37, v38, rfl, hq0, hq1, hq2⟩
       refine ⟨_, rfl, ?_⟩
       obtain ⟨Ao39, co40, eo41⟩ := Kd.R_slice hq0
       subst eo41
       obtain ⟨Ao42, co43, eo44⟩ := Kd.S_slice hq1
       subst eo44
       have I1 : Law.Inv [Law.rowI (Kd.int .u8) 5 w28.heap.size w28.heap.size w29.heap.size (fun _ => True) (.slice Ao31 r25.length co32) r25, Law.rowsI k67 67 w14.heap.size w14.heap.size w15.heap.size (fun k_ => some k_ ≠ (.slice Ao18 r11.length co19 : Value).ownBlock) (.slice Ao21 r12.length co22) r12, Law.rowI (Kd.int .u8) 5 w14.heap.size w14.heap.size w15.heap.size (fun _ => True) (.slice Ao18 r11.length co19) r11, Law.boxI gb1 #[.int .i64 a0_0, .slice A0_1 l0_1.length c0_1, .slice A0_2 l0_2.length c0_2] 41] w36 := Law.Inv.below I hq2
       have HB1 := Aside0.mk (below_step HB.out hq2)
       have SZ45 := Aside0.mk (show W.heap.size ≤ w35.heap.size ∧ w29.heap.size ≤ w35.heap.size ∧ w15.heap.size ≤ w35.heap.size ∧ w15.heap.size ≤ w35.heap.size ∧ gb1 + 1 ≤ w35.heap.size ∧ w35.heap.size ≤ w36.heap.size from ⟨HB.out.size, I.1.2, I.2.1.2, I.2.2.1.2, I.2.2.2.1.2, hq2.size⟩)
       have I1 : Law.Inv (Law.rowI (Kd.int .u8) 5 w35.heap.size w35.heap.size w36.heap.size (fun _ => True) (.slice Ao39 r11.length co40) r11 :: [Law.rowI (Kd.int .u8) 5 w28.heap.size w28.heap.size w29.heap.size (fun _ => True) (.slice Ao31 r25.length co32) r25, Law.rowsI k67 67 w14.heap.size w14.heap.size w15.heap.size (fun k_ => some k_ ≠ (.slice Ao18 r11.length co19 : Value).ownBlock) (.slice Ao21 r12.length co22) r12, Law.rowI (Kd.int .u8) 5 w14.heap.size w14.heap.size w15.heap.size (fun _ => True) (.slice Ao18 r11.length co19) r11, Law.boxI gb1 #[.int .i64 a0_0, .slice A0_1 l0_1.length c0_1, .slice A0_2 l0_2.length c0_2] 41]) w36 := ⟨Law.rowI_new hq0 (fun _ h => h), I1⟩
       have I1 : Law.Inv (Law.rowsI k67 67 w35.heap.size w35.heap.size w36.heap.size (fun k_ => some k_ ≠ (.slice Ao39 r11.length co40 : Value).ownBlock) (.slice Ao42 r12.length co43) r12 :: [Law.rowI (Kd.int .u8) 5 w35.heap.size w35.heap.size w36.heap.size (fun _ => True) (.slice Ao39 r11.length co40) r11, Law.rowI (Kd.int .u8) 5 w28.heap.size w28.heap.size w29.heap.size (fun _ => True) (.slice Ao31 r25.length co32) r25, Law.rowsI k67 67 w14.heap.size w14.heap.size w15.heap.size (fun k_ => some k_ ≠ (.slice Ao18 r11.length co19 : Value).ownBlock) (.slice Ao21 r12.length co22) r12, Law.rowI (Kd.int .u8) 5 w14.heap.size w14.heap.size w15.heap.size (fun _ => True) (.slice Ao18 r11.length co19) r11, Law.boxI gb1 #[.int .i64 a0_0, .slice A0_1 l0_1.length c0_1, .slice A0_2 l0_2.length c0_2] 41]) w36 := ⟨Law.rowsI_new hq1 (fun _ h => h), I1⟩
       clear I HB
       have I := I1
       have HB := HB1
       clear I1 HB1
       have hcz_gb1_w36_0 : w36.cell? ⟨gb1, 0, none⟩ = some (.int .i64 a0_0) := (blk_cell (Law.blk_of (I.2.2.2.2.2.1.1)) 0).trans rfl
       have hfz_gb1_w36_0 := blk_frozen (Law.blk_of (I.2.2.2.2.2.1.1)) 0
       have hcz_gb1_w36_1 : w36.cell? ⟨gb1, 1, none⟩ = some (.slice A0_1 l0_1.length c0_1) := (blk_cell (Law.blk_of (I.2.2.2.2.2.1.1)) 1).trans rfl
       have hfz_gb1_w36_1 := blk_frozen (Law.blk_of (I.2.2.2.2.2.1.1)) 1
       have hcz_gb1_w36_2 : w36.cell? ⟨gb1, 2, none⟩ = some (.slice A0_2 l0_2.length c0_2) := (blk_cell (Law.blk_of (I.2.2.2.2.2.1.1)) 2).trans rfl
       have hfz_gb1_w36_2 := blk_frozen (Law.blk_of (I.2.2.2.2.2.1.1)) 2)
    | ((with_reducible refine gate_dst (N := 8) rfl ?_)
       refine box_event ?hg (N := 8) ?hd (cs := #[.int .i64 0, .slice none 0 0, .slice none 0 0]) (t := 47) ?hr ?_
       (case hd => rfl)
       (case hg => rfl)
       (case hr => first | (go_simp; done) | (go_simp; rfl))
       intro gb46 hg w47 hbox hb
       have I1 : Law.Inv [Law.rowsI k67 67 w35.heap.size w35.heap.size w36.heap.size (fun k_ => some k_ ≠ (.slice Ao39 r11.length co40 : Value).ownBlock) (.slice Ao42 r12.length co43) r12, Law.rowI (Kd.int .u8) 5 w35.heap.size w35.heap.size w36.heap.size (fun _ => True) (.slice Ao39 r11.length co40) r11, Law.rowI (Kd.int .u8) 5 w28.heap.size w28.heap.size w29.heap.size (fun _ => True) (.slice Ao31 r25.length co32) r25, Law.rowsI k67 67 w14.heap.size w14.heap.size w15.heap.size (fun k_ => some k_ ≠ (.slice Ao18 r11.length co19 : Value).ownBlock) (.slice Ao21 r12.length co22) r12, Law.rowI (Kd.int .u8) 5 w14.heap.size w14.heap.size w15.heap.size (fun _ => True) (.slice Ao18 r11.length co19) r11, Law.boxI gb1 #[.int .i64 a0_0, .slice A0_1 l0_1.length c0_1, .slice A0_2 l0_2.length c0_2] 41] w47 := Law.Inv.below (by (with_reducible repeat (first | apply Law.Inv.alloc | apply Law.Inv.drewN | apply Law.Inv.drew)); exact I) hb
       have HB1 := Aside0.mk (below_step (by repeat (first | (with_reducible first | exact HB.out | apply below_alloc | apply pw_below_drewN | apply below_drew1) | exact HB.out)) hb)
       have SZ48 := Aside0.mk (show W.heap.size ≤ gb46 ∧ w36.heap.size ≤ gb46 ∧ w36.heap.size ≤ gb46 ∧ w29.heap.size ≤ gb46 ∧ w15.heap.size ≤ gb46 ∧ w15.heap.size ≤ gb46 ∧ gb1 + 1 ≤ gb46 ∧ gb46 + 1 ≤ w47.heap.size from ⟨by rw [hg]; exact (by repeat (first | (with_reducible first | exact HB.out | apply below_alloc | apply pw_below_drewN | apply below_drew1) | exact HB.out) : Below W.heap.size W _).size, by rw [hg]; exact (by (with_reducible repeat (first | apply Law.Inv.alloc | apply Law.Inv.drewN | apply Law.Inv.drew)); exact I : Law.Inv [Law.rowsI k67 67 w35.heap.size w35.heap.size w36.heap.size (fun k_ => some k_ ≠ (.slice Ao39 r11.length co40 : Value).ownBlock) (.slice Ao42 r12.length co43) r12, Law.rowI (Kd.int .u8) 5 w35.heap.size w35.heap.size w36.heap.size (fun _ => True) (.slice Ao39 r11.length co40) r11, Law.rowI (Kd.int .u8) 5 w28.heap.size w28.heap.size w29.heap.size (fun _ => True) (.slice Ao31 r25.length co32) r25, Law.rowsI k67 67 w14.heap.size w14.heap.size w15.heap.size (fun k_ => some k_ ≠ (.slice Ao18 r11.length co19 : Value).ownBlock) (.slice Ao21 r12.length co22) r12, Law.rowI (Kd.int .u8) 5 w14.heap.size w14.heap.size w15.heap.size (fun _ => True) (.slice Ao18 r11.length co19) r11, Law.boxI gb1 #[.int .i64 a0_0, .slice A0_1 l0_1.length c0_1, .slice A0_2 l0_2.length c0_2] 41] _).1.2, by rw [hg]; exact (by (with_reducible repeat (first | apply Law.Inv.alloc | apply Law.Inv.drewN | apply Law.Inv.drew)); exact I : Law.Inv [Law.rowsI k67 67 w35.heap.size w35.heap.size w36.heap.size (fun k_ => some k_ ≠ (.slice Ao39 r11.length co40 : Value).ownBlock) (.slice Ao42 r12.length co43) r12, Law.rowI (Kd.int .u8) 5 w35.heap.size w35.heap.size w36.heap.size (fun _ => True) (.slice Ao39 r11.length co40) r11, Law.rowI (Kd.int .u8) 5 w28.heap.size w28.heap.size w29.heap.size (fun _ => True) (.slice Ao31 r25.length co32) r25, Law.rowsI k67 67 w14.heap.size w14.heap.size w15.heap.size (fun k_ => some k_ ≠ (.slice Ao18 r11.length co19 : Value).ownBlock) (.slice Ao21 r12.length co22) r12, Law.rowI (Kd.int .u8) 5 w14.heap.size w14.heap.size w15.heap.size (fun _ => True) (.slice Ao18 r11.length co19) r11, Law.boxI gb1 #[.int .i64 a0_0, .slice A0_1 l0_1.length c0_1, .slice A0_2 l0_2.length c0_2] 41] _).2.1.2, by rw [hg]; exact (by (with_reducible repeat (first | apply Law.Inv.alloc | apply Law.Inv.drewN | apply Law.Inv.drew)); exact I : Law.Inv [Law.rowsI k67 67 w35.heap.size w35.heap.size w36.heap.size (fun k_ => some k_ ≠ (.slice Ao39 r11.length co40 : Value).ownBlock) (.slice Ao42 r12.length co43) r12, Law.rowI (Kd.int .u8) 5 w35.heap.size w35.heap.size w36.heap.size (fun _ => True) (.slice Ao39 r11.length co40) r11, Law.rowI (Kd.int .u8) 5 w28.heap.size w28.heap.size w29.heap.size (fun _ => True) (.slice Ao31 r25.length co32) r25, Law.rowsI k67 67 w14.heap.size w14.heap.size w15.heap.size (fun k_ => some k_ ≠ (.slice Ao18 r11.length co19 : Value).ownBlock) (.slice Ao21 r12.length co22) r12, Law.rowI (Kd.int .u8) 5 w14.heap.size w14.heap.size w15.heap.size (fun _ => True) (.slice Ao18 r11.length co19) r11, Law.boxI gb1 #[.int .i64 a0_0, .slice A0_1 l0_1.length c0_1, .slice A0_2 l0_2.length c0_2] 41] _).2.2.1.2, by rw [hg]; exact (by (with_reducible repeat (first | apply Law.Inv.alloc | apply Law.Inv.drewN | apply Law.Inv.drew)); exact I : Law.Inv [Law.rowsI k67 67 w35.heap.size w35.heap.size w36.heap.size (fun k_ => some k_ ≠ (.slice Ao39 r11.length co40 : Value).ownBlock) (.slice Ao42 r12.length co43) r12, Law.rowI (Kd.int .u8) 5 w35.heap.size w35.heap.size w36.heap.size (fun _ => True) (.slice Ao39 r11.length co40) r11, Law.rowI (Kd.int .u8) 5 w28.heap.size w28.heap.size w29.heap.size (fun _ => True) (.slice Ao31 r25.length co32) r25, Law.rowsI k67 67 w14.heap.size w14.heap.size w15.heap.size (fun k_ => some k_ ≠ (.slice Ao18 r11.length co19 : Value).ownBlock) (.slice Ao21 r12.length co22) r12, Law.rowI (Kd.int .u8) 5 w14.heap.size w14.heap.size w15.heap.size (fun _ => True) (.slice Ao18 r11.length co19) r11, Law.boxI gb1 #[.int .i64 a0_0, .slice A0_1 l0_1.length c0_1, .slice A0_2 l0_2.length c0_2] 41] _).2.2.2.1.2, by rw [hg]; exact (by (with_reducible repeat (first | apply Law.Inv.alloc | apply Law.Inv.drewN | apply Law.Inv.drew)); exact I : Law.Inv [Law.rowsI k67 67 w35.heap.size w35.heap.size w36.heap.size (fun k_ => some k_ ≠ (.slice Ao39 r11.length co40 : Value).ownBlock) (.slice Ao42 r12.length co43) r12, Law.rowI (Kd.int .u8) 5 w35.heap.size w35.heap.size w36.heap.size (fun _ => True) (.slice Ao39 r11.length co40) r11, Law.rowI (Kd.int .u8) 5 w28.heap.size w28.heap.size w29.heap.size (fun _ => True) (.slice Ao31 r25.length co32) r25, Law.rowsI k67 67 w14.heap.size w14.heap.size w15.heap.size (fun k_ => some k_ ≠ (.slice Ao18 r11.length co19 : Value).ownBlock) (.slice Ao21 r12.length co22) r12, Law.rowI (Kd.int .u8) 5 w14.heap.size w14.heap.size w15.heap.size (fun _ => True) (.slice Ao18 r11.length co19) r11, Law.boxI gb1 #[.int .i64 a0_0, .slice A0_1 l0_1.length c0_1, .slice A0_2 l0_2.length c0_2] 41] _).2.2.2.2.1.2, by rw [hg]; exact (by (with_reducible repeat (first | apply Law.Inv.alloc | apply Law.Inv.drewN | apply Law.Inv.drew)); exact I : Law.Inv [Law.rowsI k67 67 w35.heap.size w35.heap.size w36.heap.size (fun k_ => some k_ ≠ (.slice Ao39 r11.length co40 : Value).ownBlock) (.slice Ao42 r12.length co43) r12, Law.rowI (Kd.int .u8) 5 w35.heap.size w35.heap.size w36.heap.size (fun _ => True) (.slice Ao39 r11.length co40) r11, Law.rowI (Kd.int .u8) 5 w28.heap.size w28.heap.size w29.heap.size (fun _ => True) (.slice Ao31 r25.length co32) r25, Law.rowsI k67 67 w14.heap.size w14.heap.size w15.heap.size (fun k_ => some k_ ≠ (.slice Ao18 r11.length co19 : Value).ownBlock) (.slice Ao21 r12.length co22) r12, Law.rowI (Kd.int .u8) 5 w14.heap.size w14.heap.size w15.heap.size (fun _ => True) (.slice Ao18 r11.length co19) r11, Law.boxI gb1 #[.int .i64 a0_0, .slice A0_1 l0_1.length c0_1, .slice A0_2 l0_2.length c0_2] 41] _).2.2.2.2.2.1.2, blk_lt hbox⟩)
       have I2 : Law.Inv (Law.boxI gb46 #[.int .i64 0, .slice none 0 0, .slice none 0 0] 47 :: [Law.rowsI k67 67 w35.heap.size w35.heap.size w36.heap.size (fun k_ => some k_ ≠ (.slice Ao39 r11.length co40 : Value).ownBlock) (.slice Ao42 r12.length co43) r12, Law.rowI (Kd.int .u8) 5 w35.heap.size w35.heap.size w36.heap.size (fun _ => True) (.slice Ao39 r11.length co40) r11, Law.rowI (Kd.int .u8) 5 w28.heap.size w28.heap.size w29.heap.size (fun _ => True) (.slice Ao31 r25.length co32) r25, Law.rowsI k67 67 w14.heap.size w14.heap.size w15.heap.size (fun k_ => some k_ ≠ (.slice Ao18 r11.length co19 : Value).ownBlock) (.slice Ao21 r12.length co22) r12, Law.rowI (Kd.int .u8) 5 w14.heap.size w14.heap.size w15.heap.size (fun _ => True) (.slice Ao18 r11.length co19) r11, Law.boxI gb1 #[.int .i64 a0_0, .slice A0_1 l0_1.length c0_1, .slice A0_2 l0_2.length c0_2] 41]) w47 := ⟨⟨hbox, blk_lt hbox⟩, I1⟩
       clear I HB hbox hb hg I1
       have I := I2
       have HB := HB1
       clear I2 HB1
       have hne_gb46_gb1 : gb46 ≠ gb1 := (by have := SZ3.out; have := SZ8.out; have := SZ24.out; have := SZ34.out; have := SZ45.out; have := SZ48.out; first | omega | (simp only [Law.rowI, Law.rowsI, Law.boxI]; omega))
       have hne_gb1_gb46 : gb1 ≠ gb46 := (by have := SZ3.out; have := SZ8.out; have := SZ24.out; have := SZ34.out; have := SZ45.out; have := SZ48.out; first | omega | (simp only [Law.rowI, Law.rowsI, Law.boxI]; omega))
       have hcz_gb1_w47_0 : w47.cell? ⟨gb1, 0, none⟩ = some (.int .i64 a0_0) := (blk_cell (Law.blk_of (I.2.2.2.2.2.2.1.1)) 0).trans rfl
       have hfz_gb1_w47_0 := blk_frozen (Law.blk_of (I.2.2.2.2.2.2.1.1)) 0
       have hcz_gb1_w47_1 : w47.cell? ⟨gb1, 1, none⟩ = some (.slice A0_1 l0_1.length c0_1) := (blk_cell (Law.blk_of (I.2.2.2.2.2.2.1.1)) 1).trans rfl
       have hfz_gb1_w47_1 := blk_frozen (Law.blk_of (I.2.2.2.2.2.2.1.1)) 1
       have hcz_gb1_w47_2 : w47.cell? ⟨gb1, 2, none⟩ = some (.slice A0_2 l0_2.length c0_2) := (blk_cell (Law.blk_of (I.2.2.2.2.2.2.1.1)) 2).trans rfl
       have hfz_gb1_w47_2 := blk_frozen (Law.blk_of (I.2.2.2.2.2.2.1.1)) 2
       have hcz_gb46_w47_0 : w47.cell? ⟨gb46, 0, none⟩ = some (.int .i64 0) := (blk_cell (Law.blk_of (I.1.1)) 0).trans rfl
       have hfz_gb46_w47_0 := blk_frozen (Law.blk_of (I.1.1)) 0
       have hcz_gb46_w47_1 : w47.cell? ⟨gb46, 1, none⟩ = some (.slice none 0 0) := (blk_cell (Law.blk_of (I.1.1)) 1).trans rfl
       have hfz_gb46_w47_1 := blk_frozen (Law.blk_of (I.1.1)) 1
       have hcz_gb46_w47_2 : w47.cell? ⟨gb46, 2, none⟩ = some (.slice none 0 0) := (blk_cell (Law.blk_of (I.1.1)) 2).trans rfl
       have hfz_gb46_w47_2 := blk_frozen (Law.blk_of (I.1.1)) 2)
    | ((with_reducible refine gate_callee (f := 29) rfl ?_)
       refine goesL_ (some 33) rfl rfl Try.func29 (by kernel_rfl) rfl #[.agg #[.int .i64 r10, .slice Ao39 r11.length co40, .slice Ao42 r12.length co43], .int .i64 a1] rfl (by (try simp only [List.map_toArray, List.map_cons, List.map_nil]); first | done | rfl) ?_
       refine Law.at_world (fun w50 hw1 => ?_)
       have I1 : Law.Inv [Law.boxI gb46 #[.int .i64 r10, .slice Ao39 r11.length co40, .slice Ao42 r12.length co43] 47, Law.rowsI k67 67 w35.heap.size w35.heap.size w36.heap.size (fun k_ => some k_ ≠ (.slice Ao39 r11.length co40 : Value).ownBlock) (.slice Ao42 r12.length co43) r12, Law.rowI (Kd.int .u8) 5 w35.heap.size w35.heap.size w36.heap.size (fun _ => True) (.slice Ao39 r11.length co40) r11, Law.rowI (Kd.int .u8) 5 w28.heap.size w28.heap.size w29.heap.size (fun _ => True) (.slice Ao31 r25.length co32) r25, Law.rowsI k67 67 w14.heap.size w14.heap.size w15.heap.size (fun k_ => some k_ ≠ (.slice Ao18 r11.length co19 : Value).ownBlock) (.slice Ao21 r12.length co22) r12, Law.rowI (Kd.int .u8) 5 w14.heap.size w14.heap.size w15.heap.size (fun _ => True) (.slice Ao18 r11.length co19) r11, Law.boxI gb1 #[.int .i64 a0_0, .slice A0_1 l0_1.length c0_1, .slice A0_2 l0_2.length c0_2] 41] w50 := by rw [hw1]; (with_reducible repeat (first | apply Law.Inv.alloc | apply Law.Inv.drewN | apply Law.Inv.drew)); refine Law.Inv.put (cs := #[.int .i64 r10, .slice Ao39 r11.length co40, .slice none 0 0]) ?_ (by have := SZ3.out; have := SZ8.out; have := SZ24.out; have := SZ34.out; have := SZ45.out; have := SZ48.out; refine ⟨?_, ?_, ?_, ?_, ?_, ?_, trivial⟩ <;> simp only [Law.rowI, Law.rowsI, Law.boxI] <;> omega) rfl; (with_reducible repeat (first | apply Law.Inv.alloc | apply Law.Inv.drewN | apply Law.Inv.drew)); refine Law.Inv.put (cs := #[.int .i64 r10, .slice none 0 0, .slice none 0 0]) ?_ (by have := SZ3.out; have := SZ8.out; have := SZ24.out; have := SZ34.out; have := SZ45.out; have := SZ48.out; refine ⟨?_, ?_, ?_, ?_, ?_, ?_, trivial⟩ <;> simp only [Law.rowI, Law.rowsI, Law.boxI] <;> omega) rfl; (with_reducible repeat (first | apply Law.Inv.alloc | apply Law.Inv.drewN | apply Law.Inv.drew)); refine Law.Inv.put (cs := #[.int .i64 0, .slice none 0 0, .slice none 0 0]) ?_ (by have := SZ3.out; have := SZ8.out; have := SZ24.out; have := SZ34.out; have := SZ45.out; have := SZ48.out; refine ⟨?_, ?_, ?_, ?_, ?_, ?_, trivial⟩ <;> simp only [Law.rowI, Law.rowsI, Law.boxI] <;> omega) rfl; (with_reducible repeat (first | apply Law.Inv.alloc | apply Law.Inv.drewN | apply Law.Inv.drew)); exact I
       have HB1 := Aside0.mk (show Below W.heap.size W w50 by rw [hw1]; repeat (first | (with_reducible first | exact HB.out | apply below_alloc | apply pw_below_drewN | apply below_drew1 | refine below_set ?_ (by have := SZ3.out; have := SZ8.out; have := SZ24.out; have := SZ34.out; have := SZ45.out; have := SZ48.out; first | omega | (simp only [Law.rowI, Law.rowsI, Law.boxI]; omega))) | exact HB.out))
       clear I HB hw1
       have I := I1
       have HB := HB1
       clear I1 HB1
       refine (impl_DevRead.calls k r10 Ao39 co40 r11 Ao42 co43 r12 a1 r25 r26 w50 ?_ ?_ ?_ ?_ E49.out).mono ?_
       · exact (Kd.R_reads' (I.2.2.1.1)).2.2
       · exact (Kd.R_reads' (I.2.2.1.1)).2.1
       · exact (Kd.S_reads' (I.2.1.1)).2.2
       · exact (Kd.S_reads' (I.2.1.1)).2.1
       rintro e w51 ⟨v52, rfl, hq0, hq1⟩
       refine ⟨_, rfl, ?_⟩
       obtain ⟨Ao53, co54, eo55⟩ := Kd.R_slice hq0
       subst eo55
       have I1 : Law.Inv [Law.boxI gb46 #[.int .i64 r10, .slice Ao39 r11.length co40, .slice Ao42 r12.length co43] 47, Law.rowsI k67 67 w35.heap.size w35.heap.size w36.heap.size (fun k_ => some k_ ≠ (.slice Ao39 r11.length co40 : Value).ownBlock) (.slice Ao42 r12.length co43) r12, Law.rowI (Kd.int .u8) 5 w35.heap.size w35.heap.size w36.heap.size (fun _ => True) (.slice Ao39 r11.length co40) r11, Law.rowI (Kd.int .u8) 5 w28.heap.size w28.heap.size w29.heap.size (fun _ => True) (.slice Ao31 r25.length co32) r25, Law.rowsI k67 67 w14.heap.size w14.heap.size w15.heap.size (fun k_ => some k_ ≠ (.slice Ao18 r11.length co19 : Value).ownBlock) (.slice Ao21 r12.length co22) r12, Law.rowI (Kd.int .u8) 5 w14.heap.size w14.heap.size w15.heap.size (fun _ => True) (.slice Ao18 r11.length co19) r11, Law.boxI gb1 #[.int .i64 a0_0, .slice A0_1 l0_1.length c0_1, .slice A0_2 l0_2.length c0_2] 41] w51 := Law.Inv.below I hq1
       have HB1 := Aside0.mk (below_step HB.out hq1)
       have SZ56 := Aside0.mk (show W.heap.size ≤ w50.heap.size ∧ gb46 + 1 ≤ w50.heap.size ∧ w36.heap.size ≤ w50.heap.size ∧ w36.heap.size ≤ w50.heap.size ∧ w29.heap.size ≤ w50.heap.size ∧ w15.heap.size ≤ w50.heap.size ∧ w15.heap.size ≤ w50.heap.size ∧ gb1 + 1 ≤ w50.heap.size ∧ w50.heap.size ≤ w51.heap.size from ⟨HB.out.size, I.1.2, I.2.1.2, I.2.2.1.2, I.2.2.2.1.2, I.2.2.2.2.1.2, I.2.2.2.2.2.1.2, I.2.2.2.2.2.2.1.2, hq1.size⟩)
       have I1 : Law.Inv (Law.rowI (Kd.int .u8) 5 w50.heap.size w50.heap.size w51.heap.size (fun _ => True) (.slice Ao53 r25.length co54) r25 :: [Law.boxI gb46 #[.int .i64 r10, .slice Ao39 r11.length co40, .slice Ao42 r12.length co43] 47, Law.rowsI k67 67 w35.heap.size w35.heap.size w36.heap.size (fun k_ => some k_ ≠ (.slice Ao39 r11.length co40 : Value).ownBlock) (.slice Ao42 r12.length co43) r12, Law.rowI (Kd.int .u8) 5 w35.heap.size w35.heap.size w36.heap.size (fun _ => True) (.slice Ao39 r11.length co40) r11, Law.rowI (Kd.int .u8) 5 w28.heap.size w28.heap.size w29.heap.size (fun _ => True) (.slice Ao31 r25.length co32) r25, Law.rowsI k67 67 w14.heap.size w14.heap.size w15.heap.size (fun k_ => some k_ ≠ (.slice Ao18 r11.length co19 : Value).ownBlock) (.slice Ao21 r12.length co22) r12, Law.rowI (Kd.int .u8) 5 w14.heap.size w14.heap.size w15.heap.size (fun _ => True) (.slice Ao18 r11.length co19) r11, Law.boxI gb1 #[.int .i64 a0_0, .slice A0_1 l0_1.length c0_1, .slice A0_2 l0_2.length c0_2] 41]) w51 := ⟨Law.rowI_new hq0 (fun _ h => h), I1⟩
       clear I HB
       have I := I1
       have HB := HB1
       clear I1 HB1
       have hcz_gb1_w51_0 : w51.cell? ⟨gb1, 0, none⟩ = some (.int .i64 a0_0) := (blk_cell (Law.blk_of (I.2.2.2.2.2.2.2.1.1)) 0).trans rfl
       have hfz_gb1_w51_0 := blk_frozen (Law.blk_of (I.2.2.2.2.2.2.2.1.1)) 0
       have hcz_gb1_w51_1 : w51.cell? ⟨gb1, 1, none⟩ = some (.slice A0_1 l0_1.length c0_1) := (blk_cell (Law.blk_of (I.2.2.2.2.2.2.2.1.1)) 1).trans rfl
       have hfz_gb1_w51_1 := blk_frozen (Law.blk_of (I.2.2.2.2.2.2.2.1.1)) 1
       have hcz_gb1_w51_2 : w51.cell? ⟨gb1, 2, none⟩ = some (.slice A0_2 l0_2.length c0_2) := (blk_cell (Law.blk_of (I.2.2.2.2.2.2.2.1.1)) 2).trans rfl
       have hfz_gb1_w51_2 := blk_frozen (Law.blk_of (I.2.2.2.2.2.2.2.1.1)) 2
       have hcz_gb46_w51_0 : w51.cell? ⟨gb46, 0, none⟩ = some (.int .i64 r10) := (blk_cell (Law.blk_of (I.2.1.1)) 0).trans rfl
       have hfz_gb46_w51_0 := blk_frozen (Law.blk_of (I.2.1.1)) 0
       have hcz_gb46_w51_1 : w51.cell? ⟨gb46, 1, none⟩ = some (.slice Ao39 r11.length co40) := (blk_cell (Law.blk_of (I.2.1.1)) 1).trans rfl
       have hfz_gb46_w51_1 := blk_frozen (Law.blk_of (I.2.1.1)) 1
       have hcz_gb46_w51_2 : w51.cell? ⟨gb46, 2, none⟩ = some (.slice Ao42 r12.length co43) := (blk_cell (Law.blk_of (I.2.1.1)) 2).trans rfl
       have hfz_gb46_w51_2 := blk_frozen (Law.blk_of (I.2.1.1)) 2)
    | ((with_reducible refine gate_callee (f := 30) rfl ?_)
       refine goesL_ (some 38) rfl rfl Try.func30 (by kernel_rfl) rfl #[.slice Ao53 r25.length co54, .slice Ao31 r25.length co32] rfl (by (try simp only [List.map_toArray, List.map_cons, List.map_nil]); first | done | rfl) ?_
       refine Law.at_world (fun w58 hw1 => ?_)
       have I1 : Law.Inv [Law.rowI (Kd.int .u8) 5 w50.heap.size w50.heap.size w51.heap.size (fun _ => True) (.slice Ao53 r25.length co54) r25, Law.boxI gb46 #[.int .i64 r10, .slice Ao39 r11.length co40, .slice Ao42 r12.length co43] 47, Law.rowsI k67 67 w35.heap.size w35.heap.size w36.heap.size (fun k_ => some k_ ≠ (.slice Ao39 r11.length co40 : Value).ownBlock) (.slice Ao42 r12.length co43) r12, Law.rowI (Kd.int .u8) 5 w35.heap.size w35.heap.size w36.heap.size (fun _ => True) (.slice Ao39 r11.length co40) r11, Law.rowI (Kd.int .u8) 5 w28.heap.size w28.heap.size w29.heap.size (fun _ => True) (.slice Ao31 r25.length co32) r25, Law.rowsI k67 67 w14.heap.size w14.heap.size w15.heap.size (fun k_ => some k_ ≠ (.slice Ao18 r11.length co19 : Value).ownBlock) (.slice Ao21 r12.length co22) r12, Law.rowI (Kd.int .u8) 5 w14.heap.size w14.heap.size w15.heap.size (fun _ => True) (.slice Ao18 r11.length co19) r11, Law.boxI gb1 #[.int .i64 a0_0, .slice A0_1 l0_1.length c0_1, .slice A0_2 l0_2.length c0_2] 41] w58 := by rw [hw1]; (with_reducible repeat (first | apply Law.Inv.alloc | apply Law.Inv.drewN | apply Law.Inv.drew)); exact I
       have HB1 := Aside0.mk (show Below W.heap.size W w58 by rw [hw1]; repeat (first | (with_reducible first | exact HB.out | apply below_alloc | apply pw_below_drewN | apply below_drew1) | exact HB.out))
       clear I HB hw1
       have I := I1
       have HB := HB1
       clear I1 HB1
       refine (laws_eqByteS.calls k Ao53 co54 r25 Ao31 co32 r25 true w58 ?_ ?_ ?_ ?_ E57.out).mono ?_
       · exact (Kd.R_reads' (I.1.1)).2.2
       · exact (Kd.R_reads' (I.1.1)).2.1
       · exact (Kd.R_reads' (I.2.2.2.2.1.1)).2.2
       · exact (Kd.R_reads' (I.2.2.2.2.1.1)).2.1
       rintro e w59 ⟨rfl, hq0⟩
       refine ⟨_, rfl, ?_⟩
       have hbb : Below w58.heap.size w58 w59 := by obtain ⟨nd, rfl⟩ := hq0; exact pw_below_drewN (Below.refl _ _) nd
       have I1 : Law.Inv [Law.rowI (Kd.int .u8) 5 w50.heap.size w50.heap.size w51.heap.size (fun _ => True) (.slice Ao53 r25.length co54) r25, Law.boxI gb46 #[.int .i64 r10, .slice Ao39 r11.length co40, .slice Ao42 r12.length co43] 47, Law.rowsI k67 67 w35.heap.size w35.heap.size w36.heap.size (fun k_ => some k_ ≠ (.slice Ao39 r11.length co40 : Value).ownBlock) (.slice Ao42 r12.length co43) r12, Law.rowI (Kd.int .u8) 5 w35.heap.size w35.heap.size w36.heap.size (fun _ => True) (.slice Ao39 r11.length co40) r11, Law.rowI (Kd.int .u8) 5 w28.heap.size w28.heap.size w29.heap.size (fun _ => True) (.slice Ao31 r25.length co32) r25, Law.rowsI k67 67 w14.heap.size w14.heap.size w15.heap.size (fun k_ => some k_ ≠ (.slice Ao18 r11.length co19 : Value).ownBlock) (.slice Ao21 r12.length co22) r12, Law.rowI (Kd.int .u8) 5 w14.heap.size w14.heap.size w15.heap.size (fun _ => True) (.slice Ao18 r11.length co19) r11, Law.boxI gb1 #[.int .i64 a0_0, .slice A0_1 l0_1.length c0_1, .slice A0_2 l0_2.length c0_2] 41] w59 := Law.Inv.below I hbb
       have HB1 := Aside0.mk (below_step HB.out hbb)
       have SZ60 := Aside0.mk (show W.heap.size ≤ w58.heap.size ∧ w51.heap.size ≤ w58.heap.size ∧ gb46 + 1 ≤ w58.heap.size ∧ w36.heap.size ≤ w58.heap.size ∧ w36.heap.size ≤ w58.heap.size ∧ w29.heap.size ≤ w58.heap.size ∧ w15.heap.size ≤ w58.heap.size ∧ w15.heap.size ≤ w58.heap.size ∧ gb1 + 1 ≤ w58.heap.size ∧ w58.heap.size ≤ w59.heap.size from ⟨HB.out.size, I.1.2, I.2.1.2, I.2.2.1.2, I.2.2.2.1.2, I.2.2.2.2.1.2, I.2.2.2.2.2.1.2, I.2.2.2.2.2.2.1.2, I.2.2.2.2.2.2.2.1.2, hbb.size⟩)
       clear I HB
       have I := I1
       have HB := HB1
       clear I1 HB1
       have hcz_gb1_w59_0 : w59.cell? ⟨gb1, 0, none⟩ = some (.int .i64 a0_0) := (blk_cell (Law.blk_of (I.2.2.2.2.2.2.2.1.1)) 0).trans rfl
       have hfz_gb1_w59_0 := blk_frozen (Law.blk_of (I.2.2.2.2.2.2.2.1.1)) 0
       have hcz_gb1_w59_1 : w59.cell? ⟨gb1, 1, none⟩ = some (.slice A0_1 l0_1.length c0_1) := (blk_cell (Law.blk_of (I.2.2.2.2.2.2.2.1.1)) 1).trans rfl
       have hfz_gb1_w59_1 := blk_frozen (Law.blk_of (I.2.2.2.2.2.2.2.1.1)) 1
       have hcz_gb1_w59_2 : w59.cell? ⟨gb1, 2, none⟩ = some (.slice A0_2 l0_2.length c0_2) := (blk_cell (Law.blk_of (I.2.2.2.2.2.2.2.1.1)) 2).trans rfl
       have hfz_gb1_w59_2 := blk_frozen (Law.blk_of (I.2.2.2.2.2.2.2.1.1)) 2
       have hcz_gb46_w59_0 : w59.cell? ⟨gb46, 0, none⟩ = some (.int .i64 r10) := (blk_cell (Law.blk_of (I.2.1.1)) 0).trans rfl
       have hfz_gb46_w59_0 := blk_frozen (Law.blk_of (I.2.1.1)) 0
       have hcz_gb46_w59_1 : w59.cell? ⟨gb46, 1, none⟩ = some (.slice Ao39 r11.length co40) := (blk_cell (Law.blk_of (I.2.1.1)) 1).trans rfl
       have hfz_gb46_w59_1 := blk_frozen (Law.blk_of (I.2.1.1)) 1
       have hcz_gb46_w59_2 : w59.cell? ⟨gb46, 2, none⟩ = some (.slice Ao42 r12.length co43) := (blk_cell (Law.blk_of (I.2.1.1)) 2).trans rfl
       have hfz_gb46_w59_2 := blk_frozen (Law.blk_of (I.2.1.1)) 2))
  try go_wp2
  refine Law.region_world (fun w61 hw1 => ?_)
  have I1 : Law.Inv [Law.rowI (Kd.int .u8) 5 w50.heap.size w50.heap.size w51.heap.size (fun _ => True) (.slice Ao53 r25.length co54) r25, Law.boxI gb46 #[.int .i64 r10, .slice Ao39 r11.length co40, .slice Ao42 r12.length co43] 47, Law.rowsI k67 67 w35.heap.size w35.heap.size w36.heap.size (fun k_ => some k_ ≠ (.slice Ao39 r11.length co40 : Value).ownBlock) (.slice Ao42 r12.length co43) r12, Law.rowI (Kd.int .u8) 5 w35.heap.size w35.heap.size w36.heap.size (fun _ => True) (.slice Ao39 r11.length co40) r11, Law.rowI (Kd.int .u8) 5 w28.heap.size w28.heap.size w29.heap.size (fun _ => True) (.slice Ao31 r25.length co32) r25, Law.rowsI k67 67 w14.heap.size w14.heap.size w15.heap.size (fun k_ => some k_ ≠ (.slice Ao18 r11.length co19 : Value).ownBlock) (.slice Ao21 r12.length co22) r12, Law.rowI (Kd.int .u8) 5 w14.heap.size w14.heap.size w15.heap.size (fun _ => True) (.slice Ao18 r11.length co19) r11, Law.boxI gb1 #[.int .i64 a0_0, .slice A0_1 l0_1.length c0_1, .slice A0_2 l0_2.length c0_2] 41] w61 := by rw [hw1]; (with_reducible repeat (first | apply Law.Inv.alloc | apply Law.Inv.drewN | apply Law.Inv.drew)); exact I
  have HB1 : Below W.heap.size W w61 := by rw [hw1]; repeat (first | (with_reducible first | exact HB.out | apply below_alloc | apply pw_below_drewN | apply below_drew1) | exact HB.out)
  obtain ⟨wd62, hwD⟩ : ∃ wD : World, wD = w61.drew := ⟨_, rfl⟩
  have I2 : Law.Inv [Law.rowI (Kd.int .u8) 5 w50.heap.size w50.heap.size w51.heap.size (fun _ => True) (.slice Ao53 r25.length co54) r25, Law.boxI gb46 #[.int .i64 r10, .slice Ao39 r11.length co40, .slice Ao42 r12.length co43] 47, Law.rowsI k67 67 w35.heap.size w35.heap.size w36.heap.size (fun k_ => some k_ ≠ (.slice Ao39 r11.length co40 : Value).ownBlock) (.slice Ao42 r12.length co43) r12, Law.rowI (Kd.int .u8) 5 w35.heap.size w35.heap.size w36.heap.size (fun _ => True) (.slice Ao39 r11.length co40) r11, Law.rowI (Kd.int .u8) 5 w28.heap.size w28.heap.size w29.heap.size (fun _ => True) (.slice Ao31 r25.length co32) r25, Law.rowsI k67 67 w14.heap.size w14.heap.size w15.heap.size (fun k_ => some k_ ≠ (.slice Ao18 r11.length co19 : Value).ownBlock) (.slice Ao21 r12.length co22) r12, Law.rowI (Kd.int .u8) 5 w14.heap.size w14.heap.size w15.heap.size (fun _ => True) (.slice Ao18 r11.length co19) r11, Law.boxI gb1 #[.int .i64 a0_0, .slice A0_1 l0_1.length c0_1, .slice A0_2 l0_2.length c0_2] 41] wd62 := by rw [hwD]; exact I1.drew
  have HB2 := Aside0.mk (show Below W.heap.size W wd62 by rw [hwD]; exact below_drew1 HB1)
  clear I HB hw1
  have I := I2
  have HB := HB2
  clear I1 HB1 I2 HB2
  refine start_ (n := 5) (S := fun w' => w'.cell? ⟨gb1, 0, none⟩ = some (.int .i64 a0_0) ∧ w'.cell? ⟨gb1, 1, none⟩ = some (.slice A0_1 l0_1.length c0_1) ∧ w'.cell? ⟨gb1, 2, none⟩ = some (.slice A0_2 l0_2.length c0_2) ∧ w'.cell? ⟨gb46, 0, none⟩ = some (.int .i64 r10) ∧ w'.cell? ⟨gb46, 1, none⟩ = some (.slice Ao39 r11.length co40) ∧ w'.cell? ⟨gb46, 2, none⟩ = some (.slice Ao42 r12.length co43)) (ds := []) #[false, false, false, false, false] (by kernel_rfl) rfl rfl (by rw [← hwD]; exact ⟨(blk_cell (Law.blk_of (I.2.2.2.2.2.2.2.1.1)) 0).trans rfl, (blk_cell (Law.blk_of (I.2.2.2.2.2.2.2.1.1)) 1).trans rfl, (blk_cell (Law.blk_of (I.2.2.2.2.2.2.2.1.1)) 2).trans rfl, (blk_cell (Law.blk_of (I.2.1.1)) 0).trans rfl, (blk_cell (Law.blk_of (I.2.1.1)) 1).trans rfl, (blk_cell (Law.blk_of (I.2.1.1)) 2).trans rfl⟩) ?_
  rw [← hwD]
  intro hHeld
  clear hwD
  have hcz_gb1_wd62_0 : wd62.cell? ⟨gb1, 0, none⟩ = some (.int .i64 a0_0) := (blk_cell (Law.blk_of (I.2.2.2.2.2.2.2.1.1)) 0).trans rfl
  have hfz_gb1_wd62_0 := blk_frozen (Law.blk_of (I.2.2.2.2.2.2.2.1.1)) 0
  have hcz_gb1_wd62_1 : wd62.cell? ⟨gb1, 1, none⟩ = some (.slice A0_1 l0_1.length c0_1) := (blk_cell (Law.blk_of (I.2.2.2.2.2.2.2.1.1)) 1).trans rfl
  have hfz_gb1_wd62_1 := blk_frozen (Law.blk_of (I.2.2.2.2.2.2.2.1.1)) 1
  have hcz_gb1_wd62_2 : wd62.cell? ⟨gb1, 2, none⟩ = some (.slice A0_2 l0_2.length c0_2) := (blk_cell (Law.blk_of (I.2.2.2.2.2.2.2.1.1)) 2).trans rfl
  have hfz_gb1_wd62_2 := blk_frozen (Law.blk_of (I.2.2.2.2.2.2.2.1.1)) 2
  have hcz_gb46_wd62_0 : wd62.cell? ⟨gb46, 0, none⟩ = some (.int .i64 r10) := (blk_cell (Law.blk_of (I.2.1.1)) 0).trans rfl
  have hfz_gb46_wd62_0 := blk_frozen (Law.blk_of (I.2.1.1)) 0
  have hcz_gb46_wd62_1 : wd62.cell? ⟨gb46, 1, none⟩ = some (.slice Ao39 r11.length co40) := (blk_cell (Law.blk_of (I.2.1.1)) 1).trans rfl
  have hfz_gb46_wd62_1 := blk_frozen (Law.blk_of (I.2.1.1)) 1
  have hcz_gb46_wd62_2 : wd62.cell? ⟨gb46, 2, none⟩ = some (.slice Ao42 r12.length co43) := (blk_cell (Law.blk_of (I.2.1.1)) 2).trans rfl
  have hfz_gb46_wd62_2 := blk_frozen (Law.blk_of (I.2.1.1)) 2
  refine take_ (i := 0) (N := some 45) (v := ?_) (a' := ?_) #[true, false, false, false, false] rfl rfl (by kernel_rfl) (fun _ _ _ h => h) (Or.inl ⟨by rfl, ?_⟩) hHeld ?_ ?_
  rotate_left
  · rintro w' ⟨s0, s1, s2, s3, s4, s5⟩
    go_simp
    with_reducible rfl
  rotate_left
  · simp only [Act.put, List.setIfInBounds_toArray, List.set_cons_zero, List.set_cons_succ, i64_w, i32_w]
    rfl
  refine take_ (i := 1) (N := some 46) (v := ?_) (a' := ?_) #[true, true, false, false, false] rfl rfl (by kernel_rfl) (fun _ _ _ h => h) (Or.inl ⟨by rfl, ?_⟩) hHeld ?_ ?_
  rotate_left
  · rintro w' ⟨s0, s1, s2, s3, s4, s5⟩
    go_simp
    with_reducible rfl
  rotate_left
  · simp only [Act.put, List.setIfInBounds_toArray, List.set_cons_zero, List.set_cons_succ, i64_w, i32_w]
    rfl
  refine one_ (i := 2) (N := some 47) #[true, true, true, false, false] rfl rfl (by kernel_rfl) (by decide) (fun K hK => ?_)
  refine goes_ Try.func28 (by kernel_rfl) rfl #[.agg #[.int .i64 a0_0, .slice A0_1 l0_1.length c0_1, .slice A0_2 l0_2.length c0_2]] (by rfl) rfl rfl (by (try simp only [List.map_toArray, List.map_cons, List.map_nil]); first | done | rfl) ?_
  refine Law.at_world (fun w63 hw1 => ?_)
  have I1 : Law.Inv [Law.rowI (Kd.int .u8) 5 w50.heap.size w50.heap.size w51.heap.size (fun _ => True) (.slice Ao53 r25.length co54) r25, Law.boxI gb46 #[.int .i64 r10, .slice Ao39 r11.length co40, .slice Ao42 r12.length co43] 47, Law.rowsI k67 67 w35.heap.size w35.heap.size w36.heap.size (fun k_ => some k_ ≠ (.slice Ao39 r11.length co40 : Value).ownBlock) (.slice Ao42 r12.length co43) r12, Law.rowI (Kd.int .u8) 5 w35.heap.size w35.heap.size w36.heap.size (fun _ => True) (.slice Ao39 r11.length co40) r11, Law.rowI (Kd.int .u8) 5 w28.heap.size w28.heap.size w29.heap.size (fun _ => True) (.slice Ao31 r25.length co32) r25, Law.rowsI k67 67 w14.heap.size w14.heap.size w15.heap.size (fun k_ => some k_ ≠ (.slice Ao18 r11.length co19 : Value).ownBlock) (.slice Ao21 r12.length co22) r12, Law.rowI (Kd.int .u8) 5 w14.heap.size w14.heap.size w15.heap.size (fun _ => True) (.slice Ao18 r11.length co19) r11, Law.boxI gb1 #[.int .i64 a0_0, .slice A0_1 l0_1.length c0_1, .slice A0_2 l0_2.length c0_2] 41] w63 := by rw [hw1]; (with_reducible repeat (first | apply Law.Inv.alloc | apply Law.Inv.drewN | apply Law.Inv.drew)); exact I
  have HB1 := Aside0.mk (show Below W.heap.size W w63 by rw [hw1]; repeat (first | (with_reducible first | exact HB.out | apply below_alloc | apply pw_below_drewN | apply below_drew1) | exact HB.out))
  clear I HB hw1
  have I := I1
  have HB := HB1
  clear I1 HB1
  refine (laws_toDevice.calls k a0_0 A0_1 c0_1 l0_1 A0_2 c0_2 l0_2 r10 r11 r12 w63 ?_ ?_ ?_ ?_ E13.out).mono ?_
  · exact Kd.C_below hr0_1 HB.out
  · exact hc0_1
  · exact Kd.C_below hr0_2 HB.out
  · exact hc0_2
  rintro e w64 ⟨v65, v66, rfl, hq0, hq1, hq2⟩
  refine ⟨_, rfl, ?_⟩
  obtain ⟨Ao67, co68, eo69⟩ := Kd.R_slice hq0
  subst eo69
  obtain ⟨Ao70, co71, eo72⟩ := Kd.S_slice hq1
  subst eo72
  have I1 : Law.Inv [Law.rowI (Kd.int .u8) 5 w50.heap.size w50.heap.size w51.heap.size (fun _ => True) (.slice Ao53 r25.length co54) r25, Law.boxI gb46 #[.int .i64 r10, .slice Ao39 r11.length co40, .slice Ao42 r12.length co43] 47, Law.rowsI k67 67 w35.heap.size w35.heap.size w36.heap.size (fun k_ => some k_ ≠ (.slice Ao39 r11.length co40 : Value).ownBlock) (.slice Ao42 r12.length co43) r12, Law.rowI (Kd.int .u8) 5 w35.heap.size w35.heap.size w36.heap.size (fun _ => True) (.slice Ao39 r11.length co40) r11, Law.rowI (Kd.int .u8) 5 w28.heap.size w28.heap.size w29.heap.size (fun _ => True) (.slice Ao31 r25.length co32) r25, Law.rowsI k67 67 w14.heap.size w14.heap.size w15.heap.size (fun k_ => some k_ ≠ (.slice Ao18 r11.length co19 : Value).ownBlock) (.slice Ao21 r12.length co22) r12, Law.rowI (Kd.int .u8) 5 w14.heap.size w14.heap.size w15.heap.size (fun _ => True) (.slice Ao18 r11.length co19) r11, Law.boxI gb1 #[.int .i64 a0_0, .slice A0_1 l0_1.length c0_1, .slice A0_2 l0_2.length c0_2] 41] w64 := Law.Inv.below I hq2
  have HB1 := Aside0.mk (below_step HB.out hq2)
  have SZ73 := Aside0.mk (show W.heap.size ≤ w63.heap.size ∧ w51.heap.size ≤ w63.heap.size ∧ gb46 + 1 ≤ w63.heap.size ∧ w36.heap.size ≤ w63.heap.size ∧ w36.heap.size ≤ w63.heap.size ∧ w29.heap.size ≤ w63.heap.size ∧ w15.heap.size ≤ w63.heap.size ∧ w15.heap.size ≤ w63.heap.size ∧ gb1 + 1 ≤ w63.heap.size ∧ w63.heap.size ≤ w64.heap.size from ⟨HB.out.size, I.1.2, I.2.1.2, I.2.2.1.2, I.2.2.2.1.2, I.2.2.2.2.1.2, I.2.2.2.2.2.1.2, I.2.2.2.2.2.2.1.2, I.2.2.2.2.2.2.2.1.2, hq2.size⟩)
  have I1 : Law.Inv (Law.rowI (Kd.int .u8) 5 w63.heap.size w63.heap.size w64.heap.size (fun _ => True) (.slice Ao67 r11.length co68) r11 :: [Law.rowI (Kd.int .u8) 5 w50.heap.size w50.heap.size w51.heap.size (fun _ => True) (.slice Ao53 r25.length co54) r25, Law.boxI gb46 #[.int .i64 r10, .slice Ao39 r11.length co40, .slice Ao42 r12.length co43] 47, Law.rowsI k67 67 w35.heap.size w35.heap.size w36.heap.size (fun k_ => some k_ ≠ (.slice Ao39 r11.length co40 : Value).ownBlock) (.slice Ao42 r12.length co43) r12, Law.rowI (Kd.int .u8) 5 w35.heap.size w35.heap.size w36.heap.size (fun _ => True) (.slice Ao39 r11.length co40) r11, Law.rowI (Kd.int .u8) 5 w28.heap.size w28.heap.size w29.heap.size (fun _ => True) (.slice Ao31 r25.length co32) r25, Law.rowsI k67 67 w14.heap.size w14.heap.size w15.heap.size (fun k_ => some k_ ≠ (.slice Ao18 r11.length co19 : Value).ownBlock) (.slice Ao21 r12.length co22) r12, Law.rowI (Kd.int .u8) 5 w14.heap.size w14.heap.size w15.heap.size (fun _ => True) (.slice Ao18 r11.length co19) r11, Law.boxI gb1 #[.int .i64 a0_0, .slice A0_1 l0_1.length c0_1, .slice A0_2 l0_2.length c0_2] 41]) w64 := ⟨Law.rowI_new hq0 (fun _ h => h), I1⟩
  have I1 : Law.Inv (Law.rowsI k67 67 w63.heap.size w63.heap.size w64.heap.size (fun k_ => some k_ ≠ (.slice Ao67 r11.length co68 : Value).ownBlock) (.slice Ao70 r12.length co71) r12 :: [Law.rowI (Kd.int .u8) 5 w63.heap.size w63.heap.size w64.heap.size (fun _ => True) (.slice Ao67 r11.length co68) r11, Law.rowI (Kd.int .u8) 5 w50.heap.size w50.heap.size w51.heap.size (fun _ => True) (.slice Ao53 r25.length co54) r25, Law.boxI gb46 #[.int .i64 r10, .slice Ao39 r11.length co40, .slice Ao42 r12.length co43] 47, Law.rowsI k67 67 w35.heap.size w35.heap.size w36.heap.size (fun k_ => some k_ ≠ (.slice Ao39 r11.length co40 : Value).ownBlock) (.slice Ao42 r12.length co43) r12, Law.rowI (Kd.int .u8) 5 w35.heap.size w35.heap.size w36.heap.size (fun _ => True) (.slice Ao39 r11.length co40) r11, Law.rowI (Kd.int .u8) 5 w28.heap.size w28.heap.size w29.heap.size (fun _ => True) (.slice Ao31 r25.length co32) r25, Law.rowsI k67 67 w14.heap.size w14.heap.size w15.heap.size (fun k_ => some k_ ≠ (.slice Ao18 r11.length co19 : Value).ownBlock) (.slice Ao21 r12.length co22) r12, Law.rowI (Kd.int .u8) 5 w14.heap.size w14.heap.size w15.heap.size (fun _ => True) (.slice Ao18 r11.length co19) r11, Law.boxI gb1 #[.int .i64 a0_0, .slice A0_1 l0_1.length c0_1, .slice A0_2 l0_2.length c0_2] 41]) w64 := ⟨Law.rowsI_new hq1 (fun _ h => h), I1⟩
  clear I HB
  have I := I1
  have HB := HB1
  clear I1 HB1
  have hcz_gb1_w64_0 : w64.cell? ⟨gb1, 0, none⟩ = some (.int .i64 a0_0) := (blk_cell (Law.blk_of (I.2.2.2.2.2.2.2.2.2.1.1)) 0).trans rfl
  have hfz_gb1_w64_0 := blk_frozen (Law.blk_of (I.2.2.2.2.2.2.2.2.2.1.1)) 0
  have hcz_gb1_w64_1 : w64.cell? ⟨gb1, 1, none⟩ = some (.slice A0_1 l0_1.length c0_1) := (blk_cell (Law.blk_of (I.2.2.2.2.2.2.2.2.2.1.1)) 1).trans rfl
  have hfz_gb1_w64_1 := blk_frozen (Law.blk_of (I.2.2.2.2.2.2.2.2.2.1.1)) 1
  have hcz_gb1_w64_2 : w64.cell? ⟨gb1, 2, none⟩ = some (.slice A0_2 l0_2.length c0_2) := (blk_cell (Law.blk_of (I.2.2.2.2.2.2.2.2.2.1.1)) 2).trans rfl
  have hfz_gb1_w64_2 := blk_frozen (Law.blk_of (I.2.2.2.2.2.2.2.2.2.1.1)) 2
  have hcz_gb46_w64_0 : w64.cell? ⟨gb46, 0, none⟩ = some (.int .i64 r10) := (blk_cell (Law.blk_of (I.2.2.2.1.1)) 0).trans rfl
  have hfz_gb46_w64_0 := blk_frozen (Law.blk_of (I.2.2.2.1.1)) 0
  have hcz_gb46_w64_1 : w64.cell? ⟨gb46, 1, none⟩ = some (.slice Ao39 r11.length co40) := (blk_cell (Law.blk_of (I.2.2.2.1.1)) 1).trans rfl
  have hfz_gb46_w64_1 := blk_frozen (Law.blk_of (I.2.2.2.1.1)) 1
  have hcz_gb46_w64_2 : w64.cell? ⟨gb46, 2, none⟩ = some (.slice Ao42 r12.length co43) := (blk_cell (Law.blk_of (I.2.2.2.1.1)) 2).trans rfl
  have hfz_gb46_w64_2 := blk_frozen (Law.blk_of (I.2.2.2.1.1)) 2
  refine hK.out _ _ ⟨(blk_cell (Law.blk_of (I.2.2.2.2.2.2.2.2.2.1.1)) 0).trans rfl, (blk_cell (Law.blk_of (I.2.2.2.2.2.2.2.2.2.1.1)) 1).trans rfl, (blk_cell (Law.blk_of (I.2.2.2.2.2.2.2.2.2.1.1)) 2).trans rfl, (blk_cell (Law.blk_of (I.2.2.2.1.1)) 0).trans rfl, (blk_cell (Law.blk_of (I.2.2.2.1.1)) 1).trans rfl, (blk_cell (Law.blk_of (I.2.2.2.1.1)) 2).trans rfl⟩ (fun hHeld => ?_)
  clear hK K
  refine norm_ (a' := ?_) ?_ ?_
  rotate_left
  · show Act.put _ (some 47) _ = _
    simp only [Act.put, List.setIfInBounds_toArray, List.set_cons_zero, List.set_cons_succ, i64_w, i32_w]
    rfl
  refine one_ (i := 3) (N := some 48) #[true, true, true, true, false] rfl rfl (by kernel_rfl) (by decide) (fun K hK => ?_)
  refine goes_ Try.func31 (by kernel_rfl) rfl #[.agg #[.int .i64 r10, .slice Ao39 r11.length co40, .slice Ao42 r12.length co43], .agg #[.int .i64 r10, .slice Ao67 r11.length co68, .slice Ao70 r12.length co71]] (by rfl) rfl rfl (by (try simp only [List.map_toArray, List.map_cons, List.map_nil]); first | done | rfl) ?_
  refine Law.at_world (fun w75 hw1 => ?_)
  have I1 : Law.Inv [Law.rowsI k67 67 w63.heap.size w63.heap.size w64.heap.size (fun k_ => some k_ ≠ (.slice Ao67 r11.length co68 : Value).ownBlock) (.slice Ao70 r12.length co71) r12, Law.rowI (Kd.int .u8) 5 w63.heap.size w63.heap.size w64.heap.size (fun _ => True) (.slice Ao67 r11.length co68) r11, Law.rowI (Kd.int .u8) 5 w50.heap.size w50.heap.size w51.heap.size (fun _ => True) (.slice Ao53 r25.length co54) r25, Law.boxI gb46 #[.int .i64 r10, .slice Ao39 r11.length co40, .slice Ao42 r12.length co43] 47, Law.rowsI k67 67 w35.heap.size w35.heap.size w36.heap.size (fun k_ => some k_ ≠ (.slice Ao39 r11.length co40 : Value).ownBlock) (.slice Ao42 r12.length co43) r12, Law.rowI (Kd.int .u8) 5 w35.heap.size w35.heap.size w36.heap.size (fun _ => True) (.slice Ao39 r11.length co40) r11, Law.rowI (Kd.int .u8) 5 w28.heap.size w28.heap.size w29.heap.size (fun _ => True) (.slice Ao31 r25.length co32) r25, Law.rowsI k67 67 w14.heap.size w14.heap.size w15.heap.size (fun k_ => some k_ ≠ (.slice Ao18 r11.length co19 : Value).ownBlock) (.slice Ao21 r12.length co22) r12, Law.rowI (Kd.int .u8) 5 w14.heap.size w14.heap.size w15.heap.size (fun _ => True) (.slice Ao18 r11.length co19) r11, Law.boxI gb1 #[.int .i64 a0_0, .slice A0_1 l0_1.length c0_1, .slice A0_2 l0_2.length c0_2] 41] w75 := by rw [hw1]; (with_reducible repeat (first | apply Law.Inv.alloc | apply Law.Inv.drewN | apply Law.Inv.drew)); exact I
  have HB1 := Aside0.mk (show Below W.heap.size W w75 by rw [hw1]; repeat (first | (with_reducible first | exact HB.out | apply below_alloc | apply pw_below_drewN | apply below_drew1) | exact HB.out))
  clear I HB hw1
  have I := I1
  have HB := HB1
  clear I1 HB1
  refine (laws_eqDevice.calls k r10 Ao39 co40 r11 Ao42 co43 r12 r10 Ao67 co68 r11 Ao70 co71 r12 true w75 ?_ ?_ ?_ ?_ ?_ ?_ ?_ ?_ E74.out).mono ?_
  · exact (Kd.R_reads' (I.2.2.2.2.2.1.1)).2.2
  · exact (Kd.R_reads' (I.2.2.2.2.2.1.1)).2.1
  · exact (Kd.S_reads' (I.2.2.2.2.1.1)).2.2
  · exact (Kd.S_reads' (I.2.2.2.2.1.1)).2.1
  · exact (Kd.R_reads' (I.2.1.1)).2.2
  · exact (Kd.R_reads' (I.2.1.1)).2.1
  · exact (Kd.S_reads' (I.1.1)).2.2
  · exact (Kd.S_reads' (I.1.1)).2.1
  rintro e w76 ⟨rfl, hq0⟩
  refine ⟨_, rfl, ?_⟩
  have I1 : Law.Inv [Law.rowsI k67 67 w63.heap.size w63.heap.size w64.heap.size (fun k_ => some k_ ≠ (.slice Ao67 r11.length co68 : Value).ownBlock) (.slice Ao70 r12.length co71) r12, Law.rowI (Kd.int .u8) 5 w63.heap.size w63.heap.size w64.heap.size (fun _ => True) (.slice Ao67 r11.length co68) r11, Law.rowI (Kd.int .u8) 5 w50.heap.size w50.heap.size w51.heap.size (fun _ => True) (.slice Ao53 r25.length co54) r25, Law.boxI gb46 #[.int .i64 r10, .slice Ao39 r11.length co40, .slice Ao42 r12.length co43] 47, Law.rowsI k67 67 w35.heap.size w35.heap.size w36.heap.size (fun k_ => some k_ ≠ (.slice Ao39 r11.length co40 : Value).ownBlock) (.slice Ao42 r12.length co43) r12, Law.rowI (Kd.int .u8) 5 w35.heap.size w35.heap.size w36.heap.size (fun _ => True) (.slice Ao39 r11.length co40) r11, Law.rowI (Kd.int .u8) 5 w28.heap.size w28.heap.size w29.heap.size (fun _ => True) (.slice Ao31 r25.length co32) r25, Law.rowsI k67 67 w14.heap.size w14.heap.size w15.heap.size (fun k_ => some k_ ≠ (.slice Ao18 r11.length co19 : Value).ownBlock) (.slice Ao21 r12.length co22) r12, Law.rowI (Kd.int .u8) 5 w14.heap.size w14.heap.size w15.heap.size (fun _ => True) (.slice Ao18 r11.length co19) r11, Law.boxI gb1 #[.int .i64 a0_0, .slice A0_1 l0_1.length c0_1, .slice A0_2 l0_2.length c0_2] 41] w76 := Law.Inv.below I hq0
  have HB1 := Aside0.mk (below_step HB.out hq0)
  have SZ77 := Aside0.mk (show W.heap.size ≤ w75.heap.size ∧ w64.heap.size ≤ w75.heap.size ∧ w64.heap.size ≤ w75.heap.size ∧ w51.heap.size ≤ w75.heap.size ∧ gb46 + 1 ≤ w75.heap.size ∧ w36.heap.size ≤ w75.heap.size ∧ w36.heap.size ≤ w75.heap.size ∧ w29.heap.size ≤ w75.heap.size ∧ w15.heap.size ≤ w75.heap.size ∧ w15.heap.size ≤ w75.heap.size ∧ gb1 + 1 ≤ w75.heap.size ∧ w75.heap.size ≤ w76.heap.size from ⟨HB.out.size, I.1.2, I.2.1.2, I.2.2.1.2, I.2.2.2.1.2, I.2.2.2.2.1.2, I.2.2.2.2.2.1.2, I.2.2.2.2.2.2.1.2, I.2.2.2.2.2.2.2.1.2, I.2.2.2.2.2.2.2.2.1.2, I.2.2.2.2.2.2.2.2.2.1.2, hq0.size⟩)
  clear I HB
  have I := I1
  have HB := HB1
  clear I1 HB1
  have hcz_gb1_w76_0 : w76.cell? ⟨gb1, 0, none⟩ = some (.int .i64 a0_0) := (blk_cell (Law.blk_of (I.2.2.2.2.2.2.2.2.2.1.1)) 0).trans rfl
  have hfz_gb1_w76_0 := blk_frozen (Law.blk_of (I.2.2.2.2.2.2.2.2.2.1.1)) 0
  have hcz_gb1_w76_1 : w76.cell? ⟨gb1, 1, none⟩ = some (.slice A0_1 l0_1.length c0_1) := (blk_cell (Law.blk_of (I.2.2.2.2.2.2.2.2.2.1.1)) 1).trans rfl
  have hfz_gb1_w76_1 := blk_frozen (Law.blk_of (I.2.2.2.2.2.2.2.2.2.1.1)) 1
  have hcz_gb1_w76_2 : w76.cell? ⟨gb1, 2, none⟩ = some (.slice A0_2 l0_2.length c0_2) := (blk_cell (Law.blk_of (I.2.2.2.2.2.2.2.2.2.1.1)) 2).trans rfl
  have hfz_gb1_w76_2 := blk_frozen (Law.blk_of (I.2.2.2.2.2.2.2.2.2.1.1)) 2
  have hcz_gb46_w76_0 : w76.cell? ⟨gb46, 0, none⟩ = some (.int .i64 r10) := (blk_cell (Law.blk_of (I.2.2.2.1.1)) 0).trans rfl
  have hfz_gb46_w76_0 := blk_frozen (Law.blk_of (I.2.2.2.1.1)) 0
  have hcz_gb46_w76_1 : w76.cell? ⟨gb46, 1, none⟩ = some (.slice Ao39 r11.length co40) := (blk_cell (Law.blk_of (I.2.2.2.1.1)) 1).trans rfl
  have hfz_gb46_w76_1 := blk_frozen (Law.blk_of (I.2.2.2.1.1)) 1
  have hcz_gb46_w76_2 : w76.cell? ⟨gb46, 2, none⟩ = some (.slice Ao42 r12.length co43) := (blk_cell (Law.blk_of (I.2.2.2.1.1)) 2).trans rfl
  have hfz_gb46_w76_2 := blk_frozen (Law.blk_of (I.2.2.2.1.1)) 2
  refine hK.out _ _ ⟨(blk_cell (Law.blk_of (I.2.2.2.2.2.2.2.2.2.1.1)) 0).trans rfl, (blk_cell (Law.blk_of (I.2.2.2.2.2.2.2.2.2.1.1)) 1).trans rfl, (blk_cell (Law.blk_of (I.2.2.2.2.2.2.2.2.2.1.1)) 2).trans rfl, (blk_cell (Law.blk_of (I.2.2.2.1.1)) 0).trans rfl, (blk_cell (Law.blk_of (I.2.2.2.1.1)) 1).trans rfl, (blk_cell (Law.blk_of (I.2.2.2.1.1)) 2).trans rfl⟩ (fun hHeld => ?_)
  clear hK K
  refine norm_ (a' := ?_) ?_ ?_
  rotate_left
  · show Act.put _ (some 48) _ = _
    simp only [Act.put, List.setIfInBounds_toArray, List.set_cons_zero, List.set_cons_succ, i64_w, i32_w]
    rfl
  refine pure_ (i := 4) (N := some 49) (v := ?_) (a' := ?_) #[true, true, true, true, true] rfl rfl (by kernel_rfl) (fun _ _ _ h => h) (Or.inl ⟨by rfl, ?_⟩) ?_ ?_
  rotate_left
  · intro w'
    go_simp
    with_reducible rfl
  rotate_left
  · simp only [Act.put, List.setIfInBounds_toArray, List.set_cons_zero, List.set_cons_succ, i64_w, i32_w]
    rfl
  refine done_ (by kernel_rfl) ?_
  go_wp2_with (first
    | ((with_reducible refine gate_callee (f := 32) rfl ?_)
       refine goesL_ (some 52) rfl rfl Try.func32 (by kernel_rfl) rfl #[.agg #[.int .i64 r10, .slice Ao39 r11.length co40, .slice Ao42 r12.length co43], .int .i64 1] rfl (by (try simp only [List.map_toArray, List.map_cons, List.map_nil]); first | done | rfl) ?_
       refine Law.at_world (fun w82 hw1 => ?_)
       have I1 : Law.Inv [Law.rowsI k67 67 w63.heap.size w63.heap.size w64.heap.size (fun k_ => some k_ ≠ (.slice Ao67 r11.length co68 : Value).ownBlock) (.slice Ao70 r12.length co71) r12, Law.rowI (Kd.int .u8) 5 w63.heap.size w63.heap.size w64.heap.size (fun _ => True) (.slice Ao67 r11.length co68) r11, Law.rowI (Kd.int .u8) 5 w50.heap.size w50.heap.size w51.heap.size (fun _ => True) (.slice Ao53 r25.length co54) r25, Law.boxI gb46 #[.int .i64 r10, .slice Ao39 r11.length co40, .slice Ao42 r12.length co43] 47, Law.rowsI k67 67 w35.heap.size w35.heap.size w36.heap.size (fun k_ => some k_ ≠ (.slice Ao39 r11.length co40 : Value).ownBlock) (.slice Ao42 r12.length co43) r12, Law.rowI (Kd.int .u8) 5 w35.heap.size w35.heap.size w36.heap.size (fun _ => True) (.slice Ao39 r11.length co40) r11, Law.rowI (Kd.int .u8) 5 w28.heap.size w28.heap.size w29.heap.size (fun _ => True) (.slice Ao31 r25.length co32) r25, Law.rowsI k67 67 w14.heap.size w14.heap.size w15.heap.size (fun k_ => some k_ ≠ (.slice Ao18 r11.length co19 : Value).ownBlock) (.slice Ao21 r12.length co22) r12, Law.rowI (Kd.int .u8) 5 w14.heap.size w14.heap.size w15.heap.size (fun _ => True) (.slice Ao18 r11.length co19) r11, Law.boxI gb1 #[.int .i64 a0_0, .slice A0_1 l0_1.length c0_1, .slice A0_2 l0_2.length c0_2] 41] w82 := by rw [hw1]; (with_reducible repeat (first | apply Law.Inv.alloc | apply Law.Inv.drewN | apply Law.Inv.drew)); exact I
       have HB1 := Aside0.mk (show Below W.heap.size W w82 by rw [hw1]; repeat (first | (with_reducible first | exact HB.out | apply below_alloc | apply pw_below_drewN | apply below_drew1) | exact HB.out))
       clear I HB hw1
       have I := I1
       have HB := HB1
       clear I1 HB1
       refine (laws_markDevice.calls k (fun k_ => w35.heap.size ≤ k_ ∧ k_ < w36.heap.size) r10 (.slice Ao39 r11.length co40) r11 (.slice Ao42 r12.length co43) r12 1 r78 r79 r80 W w82 ?_ ?_ ?_ E81.out).mono ?_
       · exact HB.out
       · exact Kd.R_lower (Kd.R_mono (I.2.2.2.2.2.1.1) (fun k_ hk => hk.1)) (by have := SZ3.out; have := SZ8.out; have := SZ24.out; have := SZ34.out; have := SZ45.out; have := SZ48.out; have := SZ56.out; have := SZ60.out; have := SZ73.out; have := SZ77.out; first | omega | (simp only [Law.rowI, Law.rowsI, Law.boxI]; omega))
       · exact Kd.S_lower (Kd.S_mono (I.2.2.2.2.1.1) (fun k_ hk => ⟨hk.1, hk.2⟩)) (by have := SZ3.out; have := SZ8.out; have := SZ24.out; have := SZ34.out; have := SZ45.out; have := SZ48.out; have := SZ56.out; have := SZ60.out; have := SZ73.out; have := SZ77.out; first | omega | (simp only [Law.rowI, Law.rowsI, Law.boxI]; omega))
       rintro e w83 ⟨rfl, hq0, hq1, hq2, hq3⟩
       refine ⟨_, rfl, ?_⟩
       have SZ84 := Aside0.mk (show W.heap.size ≤ w82.heap.size ∧ w64.heap.size ≤ w82.heap.size ∧ w64.heap.size ≤ w82.heap.size ∧ w51.heap.size ≤ w82.heap.size ∧ gb46 + 1 ≤ w82.heap.size ∧ w36.heap.size ≤ w82.heap.size ∧ w36.heap.size ≤ w82.heap.size ∧ w29.heap.size ≤ w82.heap.size ∧ w15.heap.size ≤ w82.heap.size ∧ w15.heap.size ≤ w82.heap.size ∧ gb1 + 1 ≤ w82.heap.size ∧ w82.heap.size ≤ w83.heap.size from ⟨HB.out.size, I.1.2, I.2.1.2, I.2.2.1.2, I.2.2.2.1.2, I.2.2.2.2.1.2, I.2.2.2.2.2.1.2, I.2.2.2.2.2.2.1.2, I.2.2.2.2.2.2.2.1.2, I.2.2.2.2.2.2.2.2.1.2, I.2.2.2.2.2.2.2.2.2.1.2, hq3.1⟩)
       have I1 : Law.Inv [Law.rowsI k67 67 w63.heap.size w63.heap.size w64.heap.size (fun k_ => some k_ ≠ (.slice Ao67 r11.length co68 : Value).ownBlock) (.slice Ao70 r12.length co71) r12, Law.rowI (Kd.int .u8) 5 w63.heap.size w63.heap.size w64.heap.size (fun _ => True) (.slice Ao67 r11.length co68) r11, Law.rowI (Kd.int .u8) 5 w50.heap.size w50.heap.size w51.heap.size (fun _ => True) (.slice Ao53 r25.length co54) r25, Law.boxI gb46 #[.int .i64 r10, .slice Ao39 r11.length co40, .slice Ao42 r12.length co43] 47, Law.rowI (Kd.int .u8) 5 w28.heap.size w28.heap.size w29.heap.size (fun _ => True) (.slice Ao31 r25.length co32) r25, Law.rowsI k67 67 w14.heap.size w14.heap.size w15.heap.size (fun k_ => some k_ ≠ (.slice Ao18 r11.length co19 : Value).ownBlock) (.slice Ao21 r12.length co22) r12, Law.rowI (Kd.int .u8) 5 w14.heap.size w14.heap.size w15.heap.size (fun _ => True) (.slice Ao18 r11.length co19) r11, Law.boxI gb1 #[.int .i64 a0_0, .slice A0_1 l0_1.length c0_1, .slice A0_2 l0_2.length c0_2] 41] w83 := Law.Inv.kept (lo := w35.heap.size) (hi := w36.heap.size) hq3 (fun _ h => h) (show Law.Inv [Law.rowsI k67 67 w63.heap.size w63.heap.size w64.heap.size (fun k_ => some k_ ≠ (.slice Ao67 r11.length co68 : Value).ownBlock) (.slice Ao70 r12.length co71) r12, Law.rowI (Kd.int .u8) 5 w63.heap.size w63.heap.size w64.heap.size (fun _ => True) (.slice Ao67 r11.length co68) r11, Law.rowI (Kd.int .u8) 5 w50.heap.size w50.heap.size w51.heap.size (fun _ => True) (.slice Ao53 r25.length co54) r25, Law.boxI gb46 #[.int .i64 r10, .slice Ao39 r11.length co40, .slice Ao42 r12.length co43] 47, Law.rowI (Kd.int .u8) 5 w28.heap.size w28.heap.size w29.heap.size (fun _ => True) (.slice Ao31 r25.length co32) r25, Law.rowsI k67 67 w14.heap.size w14.heap.size w15.heap.size (fun k_ => some k_ ≠ (.slice Ao18 r11.length co19 : Value).ownBlock) (.slice Ao21 r12.length co22) r12, Law.rowI (Kd.int .u8) 5 w14.heap.size w14.heap.size w15.heap.size (fun _ => True) (.slice Ao18 r11.length co19) r11, Law.boxI gb1 #[.int .i64 a0_0, .slice A0_1 l0_1.length c0_1, .slice A0_2 l0_2.length c0_2] 41] w82 from ⟨I.1, I.2.1, I.2.2.1, I.2.2.2.1, I.2.2.2.2.2.2.1, I.2.2.2.2.2.2.2.1, I.2.2.2.2.2.2.2.2.1, I.2.2.2.2.2.2.2.2.2.1, trivial⟩) (by have := SZ3.out; have := SZ8.out; have := SZ24.out; have := SZ34.out; have := SZ45.out; have := SZ48.out; have := SZ56.out; have := SZ60.out; have := SZ73.out; have := SZ77.out; have := SZ84.out; refine ⟨?_, ?_, ?_, ?_, ?_, ?_, ?_, ?_, trivial⟩ <;> simp only [Law.rowI, Law.rowsI, Law.boxI] <;> omega)
       have HB1 := Aside0.mk hq2
       have I1 : Law.Inv (Law.rowI (Kd.int .u8) 5 W.heap.size w35.heap.size w36.heap.size (fun _ => True) (.slice Ao39 r11.length co40) r79 :: [Law.rowsI k67 67 w63.heap.size w63.heap.size w64.heap.size (fun k_ => some k_ ≠ (.slice Ao67 r11.length co68 : Value).ownBlock) (.slice Ao70 r12.length co71) r12, Law.rowI (Kd.int .u8) 5 w63.heap.size w63.heap.size w64.heap.size (fun _ => True) (.slice Ao67 r11.length co68) r11, Law.rowI (Kd.int .u8) 5 w50.heap.size w50.heap.size w51.heap.size (fun _ => True) (.slice Ao53 r25.length co54) r25, Law.boxI gb46 #[.int .i64 r10, .slice Ao39 r11.length co40, .slice Ao42 r12.length co43] 47, Law.rowI (Kd.int .u8) 5 w28.heap.size w28.heap.size w29.heap.size (fun _ => True) (.slice Ao31 r25.length co32) r25, Law.rowsI k67 67 w14.heap.size w14.heap.size w15.heap.size (fun k_ => some k_ ≠ (.slice Ao18 r11.length co19 : Value).ownBlock) (.slice Ao21 r12.length co22) r12, Law.rowI (Kd.int .u8) 5 w14.heap.size w14.heap.size w15.heap.size (fun _ => True) (.slice Ao18 r11.length co19) r11, Law.boxI gb1 #[.int .i64 a0_0, .slice A0_1 l0_1.length c0_1, .slice A0_2 l0_2.length c0_2] 41]) w83 := ⟨⟨Kd.R_reok rfl hq0 (fun k_ e_ => (I.2.2.2.2.2.1.1).1 k_ e_), (by have := SZ3.out; have := SZ8.out; have := SZ24.out; have := SZ34.out; have := SZ45.out; have := SZ48.out; have := SZ56.out; have := SZ60.out; have := SZ73.out; have := SZ77.out; have := SZ84.out; first | omega | (simp only [Law.rowI, Law.rowsI, Law.boxI]; omega))⟩, I1⟩
       have HL85 := Aside0.mk (show r79.length = r11.length from (Kd.R_reads' (I1.1.1)).1.symm)
       have I1 : Law.Inv (Law.rowsI k67 67 W.heap.size w35.heap.size w36.heap.size (fun k_ => some k_ ≠ (.slice Ao39 r11.length co40 : Value).ownBlock) (.slice Ao42 r12.length co43) r80 :: [Law.rowI (Kd.int .u8) 5 W.heap.size w35.heap.size w36.heap.size (fun _ => True) (.slice Ao39 r11.length co40) r79, Law.rowsI k67 67 w63.heap.size w63.heap.size w64.heap.size (fun k_ => some k_ ≠ (.slice Ao67 r11.length co68 : Value).ownBlock) (.slice Ao70 r12.length co71) r12, Law.rowI (Kd.int .u8) 5 w63.heap.size w63.heap.size w64.heap.size (fun _ => True) (.slice Ao67 r11.length co68) r11, Law.rowI (Kd.int .u8) 5 w50.heap.size w50.heap.size w51.heap.size (fun _ => True) (.slice Ao53 r25.length co54) r25, Law.boxI gb46 #[.int .i64 r10, .slice Ao39 r11.length co40, .slice Ao42 r12.length co43] 47, Law.rowI (Kd.int .u8) 5 w28.heap.size w28.heap.size w29.heap.size (fun _ => True) (.slice Ao31 r25.length co32) r25, Law.rowsI k67 67 w14.heap.size w14.heap.size w15.heap.size (fun k_ => some k_ ≠ (.slice Ao18 r11.length co19 : Value).ownBlock) (.slice Ao21 r12.length co22) r12, Law.rowI (Kd.int .u8) 5 w14.heap.size w14.heap.size w15.heap.size (fun _ => True) (.slice Ao18 r11.length co19) r11, Law.boxI gb1 #[.int .i64 a0_0, .slice A0_1 l0_1.length c0_1, .slice A0_2 l0_2.length c0_2] 41]) w83 := ⟨⟨Kd.S_mono hq1 (fun k_ h_ => ⟨h_.1, h_.2⟩), (by have := SZ3.out; have := SZ8.out; have := SZ24.out; have := SZ34.out; have := SZ45.out; have := SZ48.out; have := SZ56.out; have := SZ60.out; have := SZ73.out; have := SZ77.out; have := SZ84.out; first | omega | (simp only [Law.rowI, Law.rowsI, Law.boxI]; omega))⟩, I1⟩
       have HL86 := Aside0.mk (show r80.length = r12.length from (Kd.S_reads' (I1.1.1)).1.symm)
       clear I HB
       have I := I1
       have HB := HB1
       clear I1 HB1
       have hcz_gb1_w83_0 : w83.cell? ⟨gb1, 0, none⟩ = some (.int .i64 a0_0) := (blk_cell (Law.blk_of (I.2.2.2.2.2.2.2.2.2.1.1)) 0).trans rfl
       have hfz_gb1_w83_0 := blk_frozen (Law.blk_of (I.2.2.2.2.2.2.2.2.2.1.1)) 0
       have hcz_gb1_w83_1 : w83.cell? ⟨gb1, 1, none⟩ = some (.slice A0_1 l0_1.length c0_1) := (blk_cell (Law.blk_of (I.2.2.2.2.2.2.2.2.2.1.1)) 1).trans rfl
       have hfz_gb1_w83_1 := blk_frozen (Law.blk_of (I.2.2.2.2.2.2.2.2.2.1.1)) 1
       have hcz_gb1_w83_2 : w83.cell? ⟨gb1, 2, none⟩ = some (.slice A0_2 l0_2.length c0_2) := (blk_cell (Law.blk_of (I.2.2.2.2.2.2.2.2.2.1.1)) 2).trans rfl
       have hfz_gb1_w83_2 := blk_frozen (Law.blk_of (I.2.2.2.2.2.2.2.2.2.1.1)) 2
       have hcz_gb46_w83_0 : w83.cell? ⟨gb46, 0, none⟩ = some (.int .i64 r10) := (blk_cell (Law.blk_of (I.2.2.2.2.2.1.1)) 0).trans rfl
       have hfz_gb46_w83_0 := blk_frozen (Law.blk_of (I.2.2.2.2.2.1.1)) 0
       have hcz_gb46_w83_1 : w83.cell? ⟨gb46, 1, none⟩ = some (.slice Ao39 r11.length co40) := (blk_cell (Law.blk_of (I.2.2.2.2.2.1.1)) 1).trans rfl
       have hfz_gb46_w83_1 := blk_frozen (Law.blk_of (I.2.2.2.2.2.1.1)) 1
       have hcz_gb46_w83_2 : w83.cell? ⟨gb46, 2, none⟩ = some (.slice Ao42 r12.length co43) := (blk_cell (Law.blk_of (I.2.2.2.2.2.1.1)) 2).trans rfl
       have hfz_gb46_w83_2 := blk_frozen (Law.blk_of (I.2.2.2.2.2.1.1)) 2)
    | (go_at_call 30
       refine Law.at_world (fun w88 hw1 => ?_)
       have I1 : Law.Inv [Law.rowsI k67 67 W.heap.size w35.heap.size w36.heap.size (fun k_ => some k_ ≠ (.slice Ao39 r11.length co40 : Value).ownBlock) (.slice Ao42 r12.length co43) r80, Law.rowI (Kd.int .u8) 5 W.heap.size w35.heap.size w36.heap.size (fun _ => True) (.slice Ao39 r11.length co40) r79, Law.rowsI k67 67 w63.heap.size w63.heap.size w64.heap.size (fun k_ => some k_ ≠ (.slice Ao67 r11.length co68 : Value).ownBlock) (.slice Ao70 r12.length co71) r12, Law.rowI (Kd.int .u8) 5 w63.heap.size w63.heap.size w64.heap.size (fun _ => True) (.slice Ao67 r11.length co68) r11, Law.rowI (Kd.int .u8) 5 w50.heap.size w50.heap.size w51.heap.size (fun _ => True) (.slice Ao53 r25.length co54) r25, Law.boxI gb46 #[.int .i64 r10, .slice Ao39 r11.length co40, .slice Ao42 r12.length co43] 47, Law.rowI (Kd.int .u8) 5 w28.heap.size w28.heap.size w29.heap.size (fun _ => True) (.slice Ao31 r25.length co32) r25, Law.rowsI k67 67 w14.heap.size w14.heap.size w15.heap.size (fun k_ => some k_ ≠ (.slice Ao18 r11.length co19 : Value).ownBlock) (.slice Ao21 r12.length co22) r12, Law.rowI (Kd.int .u8) 5 w14.heap.size w14.heap.size w15.heap.size (fun _ => True) (.slice Ao18 r11.length co19) r11, Law.boxI gb1 #[.int .i64 a0_0, .slice A0_1 l0_1.length c0_1, .slice A0_2 l0_2.length c0_2] 41] w88 := by rw [hw1]; (with_reducible repeat (first | apply Law.Inv.alloc | apply Law.Inv.drewN | apply Law.Inv.drew)); exact I
       have HB1 := Aside0.mk (show Below W.heap.size W w88 by rw [hw1]; repeat (first | (with_reducible first | exact HB.out | apply below_alloc | apply pw_below_drewN | apply below_drew1) | exact HB.out))
       clear I HB hw1
       have I := I1
       have HB := HB1
       clear I1 HB1
       refine (laws_eqByteS.calls k Ao53 co54 r25 Ao31 co32 r25 true w88 ?_ ?_ ?_ ?_ E57.out).mono ?_
       · exact (Kd.R_reads' (I.2.2.2.2.1.1)).2.2
       · exact (Kd.R_reads' (I.2.2.2.2.1.1)).2.1
       · exact (Kd.R_reads' (I.2.2.2.2.2.2.1.1)).2.2
       · exact (Kd.R_reads' (I.2.2.2.2.2.2.1.1)).2.1
       rintro e w89 ⟨rfl, hq0⟩
       have hbb : Below w88.heap.size w88 w89 := by obtain ⟨nd, rfl⟩ := hq0; exact pw_below_drewN (Below.refl _ _) nd
       have I1 : Law.Inv [Law.rowsI k67 67 W.heap.size w35.heap.size w36.heap.size (fun k_ => some k_ ≠ (.slice Ao39 r11.length co40 : Value).ownBlock) (.slice Ao42 r12.length co43) r80, Law.rowI (Kd.int .u8) 5 W.heap.size w35.heap.size w36.heap.size (fun _ => True) (.slice Ao39 r11.length co40) r79, Law.rowsI k67 67 w63.heap.size w63.heap.size w64.heap.size (fun k_ => some k_ ≠ (.slice Ao67 r11.length co68 : Value).ownBlock) (.slice Ao70 r12.length co71) r12, Law.rowI (Kd.int .u8) 5 w63.heap.size w63.heap.size w64.heap.size (fun _ => True) (.slice Ao67 r11.length co68) r11, Law.rowI (Kd.int .u8) 5 w50.heap.size w50.heap.size w51.heap.size (fun _ => True) (.slice Ao53 r25.length co54) r25, Law.boxI gb46 #[.int .i64 r10, .slice Ao39 r11.length co40, .slice Ao42 r12.length co43] 47, Law.rowI (Kd.int .u8) 5 w28.heap.size w28.heap.size w29.heap.size (fun _ => True) (.slice Ao31 r25.length co32) r25, Law.rowsI k67 67 w14.heap.size w14.heap.size w15.heap.size (fun k_ => some k_ ≠ (.slice Ao18 r11.length co19 : Value).ownBlock) (.slice Ao21 r12.length co22) r12, Law.rowI (Kd.int .u8) 5 w14.heap.size w14.heap.size w15.heap.size (fun _ => True) (.slice Ao18 r11.length co19) r11, Law.boxI gb1 #[.int .i64 a0_0, .slice A0_1 l0_1.length c0_1, .slice A0_2 l0_2.length c0_2] 41] w89 := Law.Inv.below I hbb
       have HB1 := Aside0.mk (below_step HB.out hbb)
       have SZ90 := Aside0.mk (show W.heap.size ≤ w88.heap.size ∧ w36.heap.size ≤ w88.heap.size ∧ w36.heap.size ≤ w88.heap.size ∧ w64.heap.size ≤ w88.heap.size ∧ w64.heap.size ≤ w88.heap.size ∧ w51.heap.size ≤ w88.heap.size ∧ gb46 + 1 ≤ w88.heap.size ∧ w29.heap.size ≤ w88.heap.size ∧ w15.heap.size ≤ w88.heap.size ∧ w15.heap.size ≤ w88.heap.size ∧ gb1 + 1 ≤ w88.heap.size ∧ w88.heap.size ≤ w89.heap.size from ⟨HB.out.size, I.1.2, I.2.1.2, I.2.2.1.2, I.2.2.2.1.2, I.2.2.2.2.1.2, I.2.2.2.2.2.1.2, I.2.2.2.2.2.2.1.2, I.2.2.2.2.2.2.2.1.2, I.2.2.2.2.2.2.2.2.1.2, I.2.2.2.2.2.2.2.2.2.1.2, hbb.size⟩)
       clear I HB
       have I := I1
       have HB := HB1
       clear I1 HB1
       have hcz_gb1_w89_0 : w89.cell? ⟨gb1, 0, none⟩ = some (.int .i64 a0_0) := (blk_cell (Law.blk_of (I.2.2.2.2.2.2.2.2.2.1.1)) 0).trans rfl
       have hfz_gb1_w89_0 := blk_frozen (Law.blk_of (I.2.2.2.2.2.2.2.2.2.1.1)) 0
       have hcz_gb1_w89_1 : w89.cell? ⟨gb1, 1, none⟩ = some (.slice A0_1 l0_1.length c0_1) := (blk_cell (Law.blk_of (I.2.2.2.2.2.2.2.2.2.1.1)) 1).trans rfl
       have hfz_gb1_w89_1 := blk_frozen (Law.blk_of (I.2.2.2.2.2.2.2.2.2.1.1)) 1
       have hcz_gb1_w89_2 : w89.cell? ⟨gb1, 2, none⟩ = some (.slice A0_2 l0_2.length c0_2) := (blk_cell (Law.blk_of (I.2.2.2.2.2.2.2.2.2.1.1)) 2).trans rfl
       have hfz_gb1_w89_2 := blk_frozen (Law.blk_of (I.2.2.2.2.2.2.2.2.2.1.1)) 2
       have hcz_gb46_w89_0 : w89.cell? ⟨gb46, 0, none⟩ = some (.int .i64 r10) := (blk_cell (Law.blk_of (I.2.2.2.2.2.1.1)) 0).trans rfl
       have hfz_gb46_w89_0 := blk_frozen (Law.blk_of (I.2.2.2.2.2.1.1)) 0
       have hcz_gb46_w89_1 : w89.cell? ⟨gb46, 1, none⟩ = some (.slice Ao39 r11.length co40) := (blk_cell (Law.blk_of (I.2.2.2.2.2.1.1)) 1).trans rfl
       have hfz_gb46_w89_1 := blk_frozen (Law.blk_of (I.2.2.2.2.2.1.1)) 1
       have hcz_gb46_w89_2 : w89.cell? ⟨gb46, 2, none⟩ = some (.slice Ao42 r12.length co43) := (blk_cell (Law.blk_of (I.2.2.2.2.2.1.1)) 2).trans rfl
       have hfz_gb46_w89_2 := blk_frozen (Law.blk_of (I.2.2.2.2.2.1.1)) 2)
    | ((with_reducible refine gate_callee (f := 33) rfl ?_)
       refine goesL_ (some 68) rfl rfl Try.func33 (by kernel_rfl) rfl #[.slice Ao53 r25.length co54, .int .i64 1] rfl (by (try simp only [List.map_toArray, List.map_cons, List.map_nil]); first | done | rfl) ?_
       refine Law.at_world (fun w94 hw1 => ?_)
       have I1 : Law.Inv [Law.rowsI k67 67 W.heap.size w35.heap.size w36.heap.size (fun k_ => some k_ ≠ (.slice Ao39 r11.length co40 : Value).ownBlock) (.slice Ao42 r12.length co43) r80, Law.rowI (Kd.int .u8) 5 W.heap.size w35.heap.size w36.heap.size (fun _ => True) (.slice Ao39 r11.length co40) r79, Law.rowsI k67 67 w63.heap.size w63.heap.size w64.heap.size (fun k_ => some k_ ≠ (.slice Ao67 r11.length co68 : Value).ownBlock) (.slice Ao70 r12.length co71) r12, Law.rowI (Kd.int .u8) 5 w63.heap.size w63.heap.size w64.heap.size (fun _ => True) (.slice Ao67 r11.length co68) r11, Law.rowI (Kd.int .u8) 5 w50.heap.size w50.heap.size w51.heap.size (fun _ => True) (.slice Ao53 r25.length co54) r25, Law.boxI gb46 #[.int .i64 r10, .slice Ao39 r11.length co40, .slice Ao42 r12.length co43] 47, Law.rowI (Kd.int .u8) 5 w28.heap.size w28.heap.size w29.heap.size (fun _ => True) (.slice Ao31 r25.length co32) r25, Law.rowsI k67 67 w14.heap.size w14.heap.size w15.heap.size (fun k_ => some k_ ≠ (.slice Ao18 r11.length co19 : Value).ownBlock) (.slice Ao21 r12.length co22) r12, Law.rowI (Kd.int .u8) 5 w14.heap.size w14.heap.size w15.heap.size (fun _ => True) (.slice Ao18 r11.length co19) r11, Law.boxI gb1 #[.int .i64 a0_0, .slice A0_1 l0_1.length c0_1, .slice A0_2 l0_2.length c0_2] 41] w94 := by rw [hw1]; (with_reducible repeat (first | apply Law.Inv.alloc | apply Law.Inv.drewN | apply Law.Inv.drew)); exact I
       have HB1 := Aside0.mk (show Below W.heap.size W w94 by rw [hw1]; repeat (first | (with_reducible first | exact HB.out | apply below_alloc | apply pw_below_drewN | apply below_drew1) | exact HB.out))
       clear I HB hw1
       have I := I1
       have HB := HB1
       clear I1 HB1
       refine (laws_markByteS.calls k (fun k_ => w50.heap.size ≤ k_ ∧ k_ < w51.heap.size) (.slice Ao53 r25.length co54) r25 1 r91 r92 W w94 ?_ ?_ E93.out).mono ?_
       · exact HB.out
       · exact Kd.R_lower (Kd.R_mono (I.2.2.2.2.1.1) (fun k_ hk => hk.1)) (by have := SZ3.out; have := SZ8.out; have := SZ24.out; have := SZ34.out; have := SZ45.out; have := SZ48.out; have := SZ56.out; have := SZ60.out; have := SZ73.out; have := SZ77.out; have := SZ84.out; have := SZ90.out; first | omega | (simp only [Law.rowI, Law.rowsI, Law.boxI]; omega))
       rintro e w95 ⟨rfl, hq0, hq1, hq2⟩
       refine ⟨_, rfl, ?_⟩
       have SZ96 := Aside0.mk (show W.heap.size ≤ w94.heap.size ∧ w36.heap.size ≤ w94.heap.size ∧ w36.heap.size ≤ w94.heap.size ∧ w64.heap.size ≤ w94.heap.size ∧ w64.heap.size ≤ w94.heap.size ∧ w51.heap.size ≤ w94.heap.size ∧ gb46 + 1 ≤ w94.heap.size ∧ w29.heap.size ≤ w94.heap.size ∧ w15.heap.size ≤ w94.heap.size ∧ w15.heap.size ≤ w94.heap.size ∧ gb1 + 1 ≤ w94.heap.size ∧ w94.heap.size ≤ w95.heap.size from ⟨HB.out.size, I.1.2, I.2.1.2, I.2.2.1.2, I.2.2.2.1.2, I.2.2.2.2.1.2, I.2.2.2.2.2.1.2, I.2.2.2.2.2.2.1.2, I.2.2.2.2.2.2.2.1.2, I.2.2.2.2.2.2.2.2.1.2, I.2.2.2.2.2.2.2.2.2.1.2, hq2.1⟩)
       have I1 : Law.Inv [Law.rowsI k67 67 W.heap.size w35.heap.size w36.heap.size (fun k_ => some k_ ≠ (.slice Ao39 r11.length co40 : Value).ownBlock) (.slice Ao42 r12.length co43) r80, Law.rowI (Kd.int .u8) 5 W.heap.size w35.heap.size w36.heap.size (fun _ => True) (.slice Ao39 r11.length co40) r79, Law.rowsI k67 67 w63.heap.size w63.heap.size w64.heap.size (fun k_ => some k_ ≠ (.slice Ao67 r11.length co68 : Value).ownBlock) (.slice Ao70 r12.length co71) r12, Law.rowI (Kd.int .u8) 5 w63.heap.size w63.heap.size w64.heap.size (fun _ => True) (.slice Ao67 r11.length co68) r11, Law.boxI gb46 #[.int .i64 r10, .slice Ao39 r11.length co40, .slice Ao42 r12.length co43] 47, Law.rowI (Kd.int .u8) 5 w28.heap.size w28.heap.size w29.heap.size (fun _ => True) (.slice Ao31 r25.length co32) r25, Law.rowsI k67 67 w14.heap.size w14.heap.size w15.heap.size (fun k_ => some k_ ≠ (.slice Ao18 r11.length co19 : Value).ownBlock) (.slice Ao21 r12.length co22) r12, Law.rowI (Kd.int .u8) 5 w14.heap.size w14.heap.size w15.heap.size (fun _ => True) (.slice Ao18 r11.length co19) r11, Law.boxI gb1 #[.int .i64 a0_0, .slice A0_1 l0_1.length c0_1, .slice A0_2 l0_2.length c0_2] 41] w95 := Law.Inv.kept (lo := w50.heap.size) (hi := w51.heap.size) hq2 (fun _ h => h) (show Law.Inv [Law.rowsI k67 67 W.heap.size w35.heap.size w36.heap.size (fun k_ => some k_ ≠ (.slice Ao39 r11.length co40 : Value).ownBlock) (.slice Ao42 r12.length co43) r80, Law.rowI (Kd.int .u8) 5 W.heap.size w35.heap.size w36.heap.size (fun _ => True) (.slice Ao39 r11.length co40) r79, Law.rowsI k67 67 w63.heap.size w63.heap.size w64.heap.size (fun k_ => some k_ ≠ (.slice Ao67 r11.length co68 : Value).ownBlock) (.slice Ao70 r12.length co71) r12, Law.rowI (Kd.int .u8) 5 w63.heap.size w63.heap.size w64.heap.size (fun _ => True) (.slice Ao67 r11.length co68) r11, Law.boxI gb46 #[.int .i64 r10, .slice Ao39 r11.length co40, .slice Ao42 r12.length co43] 47, Law.rowI (Kd.int .u8) 5 w28.heap.size w28.heap.size w29.heap.size (fun _ => True) (.slice Ao31 r25.length co32) r25, Law.rowsI k67 67 w14.heap.size w14.heap.size w15.heap.size (fun k_ => some k_ ≠ (.slice Ao18 r11.length co19 : Value).ownBlock) (.slice Ao21 r12.length co22) r12, Law.rowI (Kd.int .u8) 5 w14.heap.size w14.heap.size w15.heap.size (fun _ => True) (.slice Ao18 r11.length co19) r11, Law.boxI gb1 #[.int .i64 a0_0, .slice A0_1 l0_1.length c0_1, .slice A0_2 l0_2.length c0_2] 41] w94 from ⟨I.1, I.2.1, I.2.2.1, I.2.2.2.1, I.2.2.2.2.2.1, I.2.2.2.2.2.2.1, I.2.2.2.2.2.2.2.1, I.2.2.2.2.2.2.2.2.1, I.2.2.2.2.2.2.2.2.2.1, trivial⟩) (by have := SZ3.out; have := SZ8.out; have := SZ24.out; have := SZ34.out; have := SZ45.out; have := SZ48.out; have := SZ56.out; have := SZ60.out; have := SZ73.out; have := SZ77.out; have := SZ84.out; have := SZ90.out; have := SZ96.out; refine ⟨?_, ?_, ?_, ?_, ?_, ?_, ?_, ?_, ?_, trivial⟩ <;> simp only [Law.rowI, Law.rowsI, Law.boxI] <;> omega)
       have HB1 := Aside0.mk hq1
       have I1 : Law.Inv (Law.rowI (Kd.int .u8) 5 W.heap.size w50.heap.size w51.heap.size (fun _ => True) (.slice Ao53 r25.length co54) r92 :: [Law.rowsI k67 67 W.heap.size w35.heap.size w36.heap.size (fun k_ => some k_ ≠ (.slice Ao39 r11.length co40 : Value).ownBlock) (.slice Ao42 r12.length co43) r80, Law.rowI (Kd.int .u8) 5 W.heap.size w35.heap.size w36.heap.size (fun _ => True) (.slice Ao39 r11.length co40) r79, Law.rowsI k67 67 w63.heap.size w63.heap.size w64.heap.size (fun k_ => some k_ ≠ (.slice Ao67 r11.length co68 : Value).ownBlock) (.slice Ao70 r12.length co71) r12, Law.rowI (Kd.int .u8) 5 w63.heap.size w63.heap.size w64.heap.size (fun _ => True) (.slice Ao67 r11.length co68) r11, Law.boxI gb46 #[.int .i64 r10, .slice Ao39 r11.length co40, .slice Ao42 r12.length co43] 47, Law.rowI (Kd.int .u8) 5 w28.heap.size w28.heap.size w29.heap.size (fun _ => True) (.slice Ao31 r25.length co32) r25, Law.rowsI k67 67 w14.heap.size w14.heap.size w15.heap.size (fun k_ => some k_ ≠ (.slice Ao18 r11.length co19 : Value).ownBlock) (.slice Ao21 r12.length co22) r12, Law.rowI (Kd.int .u8) 5 w14.heap.size w14.heap.size w15.heap.size (fun _ => True) (.slice Ao18 r11.length co19) r11, Law.boxI gb1 #[.int .i64 a0_0, .slice A0_1 l0_1.length c0_1, .slice A0_2 l0_2.length c0_2] 41]) w95 := ⟨⟨Kd.R_reok rfl hq0 (fun k_ e_ => (I.2.2.2.2.1.1).1 k_ e_), (by have := SZ3.out; have := SZ8.out; have := SZ24.out; have := SZ34.out; have := SZ45.out; have := SZ48.out; have := SZ56.out; have := SZ60.out; have := SZ73.out; have := SZ77.out; have := SZ84.out; have := SZ90.out; have := SZ96.out; first | omega | (simp only [Law.rowI, Law.rowsI, Law.boxI]; omega))⟩, I1⟩
       have HL97 := Aside0.mk (show r92.length = r25.length from (Kd.R_reads' (I1.1.1)).1.symm)
       clear I HB
       have I := I1
       have HB := HB1
       clear I1 HB1
       have hcz_gb1_w95_0 : w95.cell? ⟨gb1, 0, none⟩ = some (.int .i64 a0_0) := (blk_cell (Law.blk_of (I.2.2.2.2.2.2.2.2.2.1.1)) 0).trans rfl
       have hfz_gb1_w95_0 := blk_frozen (Law.blk_of (I.2.2.2.2.2.2.2.2.2.1.1)) 0
       have hcz_gb1_w95_1 : w95.cell? ⟨gb1, 1, none⟩ = some (.slice A0_1 l0_1.length c0_1) := (blk_cell (Law.blk_of (I.2.2.2.2.2.2.2.2.2.1.1)) 1).trans rfl
       have hfz_gb1_w95_1 := blk_frozen (Law.blk_of (I.2.2.2.2.2.2.2.2.2.1.1)) 1
       have hcz_gb1_w95_2 : w95.cell? ⟨gb1, 2, none⟩ = some (.slice A0_2 l0_2.length c0_2) := (blk_cell (Law.blk_of (I.2.2.2.2.2.2.2.2.2.1.1)) 2).trans rfl
       have hfz_gb1_w95_2 := blk_frozen (Law.blk_of (I.2.2.2.2.2.2.2.2.2.1.1)) 2
       have hcz_gb46_w95_0 : w95.cell? ⟨gb46, 0, none⟩ = some (.int .i64 r10) := (blk_cell (Law.blk_of (I.2.2.2.2.2.1.1)) 0).trans rfl
       have hfz_gb46_w95_0 := blk_frozen (Law.blk_of (I.2.2.2.2.2.1.1)) 0
       have hcz_gb46_w95_1 : w95.cell? ⟨gb46, 1, none⟩ = some (.slice Ao39 r11.length co40) := (blk_cell (Law.blk_of (I.2.2.2.2.2.1.1)) 1).trans rfl
       have hfz_gb46_w95_1 := blk_frozen (Law.blk_of (I.2.2.2.2.2.1.1)) 1
       have hcz_gb46_w95_2 : w95.cell? ⟨gb46, 2, none⟩ = some (.slice Ao42 r12.length co43) := (blk_cell (Law.blk_of (I.2.2.2.2.2.1.1)) 2).trans rfl
       have hfz_gb46_w95_2 := blk_frozen (Law.blk_of (I.2.2.2.2.2.1.1)) 2)
    | ((with_reducible refine gate_callee (f := 34) rfl ?_)
       refine goesL_ (some 71) rfl rfl Try.func34 (by kernel_rfl) rfl #[.slice Ao53 r92.length co54, .int .i64 1] rfl (by (try simp only [List.map_toArray, List.map_cons, List.map_nil]); first | done | rfl | (simp only [HL97.out]; first | done | rfl)) ?_
       refine Law.at_world (fun w99 hw1 => ?_)
       have I1 : Law.Inv [Law.rowI (Kd.int .u8) 5 W.heap.size w50.heap.size w51.heap.size (fun _ => True) (.slice Ao53 r25.length co54) r92, Law.rowsI k67 67 W.heap.size w35.heap.size w36.heap.size (fun k_ => some k_ ≠ (.slice Ao39 r11.length co40 : Value).ownBlock) (.slice Ao42 r12.length co43) r80, Law.rowI (Kd.int .u8) 5 W.heap.size w35.heap.size w36.heap.size (fun _ => True) (.slice Ao39 r11.length co40) r79, Law.rowsI k67 67 w63.heap.size w63.heap.size w64.heap.size (fun k_ => some k_ ≠ (.slice Ao67 r11.length co68 : Value).ownBlock) (.slice Ao70 r12.length co71) r12, Law.rowI (Kd.int .u8) 5 w63.heap.size w63.heap.size w64.heap.size (fun _ => True) (.slice Ao67 r11.length co68) r11, Law.boxI gb46 #[.int .i64 r10, .slice Ao39 r11.length co40, .slice Ao42 r12.length co43] 47, Law.rowI (Kd.int .u8) 5 w28.heap.size w28.heap.size w29.heap.size (fun _ => True) (.slice Ao31 r25.length co32) r25, Law.rowsI k67 67 w14.heap.size w14.heap.size w15.heap.size (fun k_ => some k_ ≠ (.slice Ao18 r11.length co19 : Value).ownBlock) (.slice Ao21 r12.length co22) r12, Law.rowI (Kd.int .u8) 5 w14.heap.size w14.heap.size w15.heap.size (fun _ => True) (.slice Ao18 r11.length co19) r11, Law.boxI gb1 #[.int .i64 a0_0, .slice A0_1 l0_1.length c0_1, .slice A0_2 l0_2.length c0_2] 41] w99 := by rw [hw1]; (with_reducible repeat (first | apply Law.Inv.alloc | apply Law.Inv.drewN | apply Law.Inv.drew)); exact I
       have HB1 := Aside0.mk (show Below W.heap.size W w99 by rw [hw1]; repeat (first | (with_reducible first | exact HB.out | apply below_alloc | apply pw_below_drewN | apply below_drew1) | exact HB.out))
       clear I HB hw1
       have I := I1
       have HB := HB1
       clear I1 HB1
       refine (laws_heldByteS.calls k Ao53 co54 r92 1 r91 w99 ?_ ?_ E98.out).mono ?_
       · have z_ := Kd.R_reads' (I.1.1); have e_ := z_.1; rw [e_] at z_; exact z_.2.2
       · have z_ := Kd.R_reads' (I.1.1); have e_ := z_.1; rw [e_] at z_; exact z_.2.1
       rintro e w100 ⟨rfl, hq0⟩
       refine ⟨_, rfl, ?_⟩
       have hbb : Below w99.heap.size w99 w100 := by obtain ⟨nd, rfl⟩ := hq0; exact pw_below_drewN (Below.refl _ _) nd
       have I1 : Law.Inv [Law.rowI (Kd.int .u8) 5 W.heap.size w50.heap.size w51.heap.size (fun _ => True) (.slice Ao53 r25.length co54) r92, Law.rowsI k67 67 W.heap.size w35.heap.size w36.heap.size (fun k_ => some k_ ≠ (.slice Ao39 r11.length co40 : Value).ownBlock) (.slice Ao42 r12.length co43) r80, Law.rowI (Kd.int .u8) 5 W.heap.size w35.heap.size w36.heap.size (fun _ => True) (.slice Ao39 r11.length co40) r79, Law.rowsI k67 67 w63.heap.size w63.heap.size w64.heap.size (fun k_ => some k_ ≠ (.slice Ao67 r11.length co68 : Value).ownBlock) (.slice Ao70 r12.length co71) r12, Law.rowI (Kd.int .u8) 5 w63.heap.size w63.heap.size w64.heap.size (fun _ => True) (.slice Ao67 r11.length co68) r11, Law.boxI gb46 #[.int .i64 r10, .slice Ao39 r11.length co40, .slice Ao42 r12.length co43] 47, Law.rowI (Kd.int .u8) 5 w28.heap.size w28.heap.size w29.heap.size (fun _ => True) (.slice Ao31 r25.length co32) r25, Law.rowsI k67 67 w14.heap.size w14.heap.size w15.heap.size (fun k_ => some k_ ≠ (.slice Ao18 r11.length co19 : Value).ownBlock) (.slice Ao21 r12.length co22) r12, Law.rowI (Kd.int .u8) 5 w14.heap.size w14.heap.size w15.heap.size (fun _ => True) (.slice Ao18 r11.length co19) r11, Law.boxI gb1 #[.int .i64 a0_0, .slice A0_1 l0_1.length c0_1, .slice A0_2 l0_2.length c0_2] 41] w100 := Law.Inv.below I hbb
       have HB1 := Aside0.mk (below_step HB.out hbb)
       have SZ101 := Aside0.mk (show W.heap.size ≤ w99.heap.size ∧ w51.heap.size ≤ w99.heap.size ∧ w36.heap.size ≤ w99.heap.size ∧ w36.heap.size ≤ w99.heap.size ∧ w64.heap.size ≤ w99.heap.size ∧ w64.heap.size ≤ w99.heap.size ∧ gb46 + 1 ≤ w99.heap.size ∧ w29.heap.size ≤ w99.heap.size ∧ w15.heap.size ≤ w99.heap.size ∧ w15.heap.size ≤ w99.heap.size ∧ gb1 + 1 ≤ w99.heap.size ∧ w99.heap.size ≤ w100.heap.size from ⟨HB.out.size, I.1.2, I.2.1.2, I.2.2.1.2, I.2.2.2.1.2, I.2.2.2.2.1.2, I.2.2.2.2.2.1.2, I.2.2.2.2.2.2.1.2, I.2.2.2.2.2.2.2.1.2, I.2.2.2.2.2.2.2.2.1.2, I.2.2.2.2.2.2.2.2.2.1.2, hbb.size⟩)
       clear I HB
       have I := I1
       have HB := HB1
       clear I1 HB1
       have hcz_gb1_w100_0 : w100.cell? ⟨gb1, 0, none⟩ = some (.int .i64 a0_0) := (blk_cell (Law.blk_of (I.2.2.2.2.2.2.2.2.2.1.1)) 0).trans rfl
       have hfz_gb1_w100_0 := blk_frozen (Law.blk_of (I.2.2.2.2.2.2.2.2.2.1.1)) 0
       have hcz_gb1_w100_1 : w100.cell? ⟨gb1, 1, none⟩ = some (.slice A0_1 l0_1.length c0_1) := (blk_cell (Law.blk_of (I.2.2.2.2.2.2.2.2.2.1.1)) 1).trans rfl
       have hfz_gb1_w100_1 := blk_frozen (Law.blk_of (I.2.2.2.2.2.2.2.2.2.1.1)) 1
       have hcz_gb1_w100_2 : w100.cell? ⟨gb1, 2, none⟩ = some (.slice A0_2 l0_2.length c0_2) := (blk_cell (Law.blk_of (I.2.2.2.2.2.2.2.2.2.1.1)) 2).trans rfl
       have hfz_gb1_w100_2 := blk_frozen (Law.blk_of (I.2.2.2.2.2.2.2.2.2.1.1)) 2
       have hcz_gb46_w100_0 : w100.cell? ⟨gb46, 0, none⟩ = some (.int .i64 r10) := (blk_cell (Law.blk_of (I.2.2.2.2.2.1.1)) 0).trans rfl
       have hfz_gb46_w100_0 := blk_frozen (Law.blk_of (I.2.2.2.2.2.1.1)) 0
       have hcz_gb46_w100_1 : w100.cell? ⟨gb46, 1, none⟩ = some (.slice Ao39 r11.length co40) := (blk_cell (Law.blk_of (I.2.2.2.2.2.1.1)) 1).trans rfl
       have hfz_gb46_w100_1 := blk_frozen (Law.blk_of (I.2.2.2.2.2.1.1)) 1
       have hcz_gb46_w100_2 : w100.cell? ⟨gb46, 2, none⟩ = some (.slice Ao42 r12.length co43) := (blk_cell (Law.blk_of (I.2.2.2.2.2.1.1)) 2).trans rfl
       have hfz_gb46_w100_2 := blk_frozen (Law.blk_of (I.2.2.2.2.2.1.1)) 2)
    | ((with_reducible refine gate_callee (f := 28) rfl ?_)
       refine goesL_ (some 79) rfl rfl Try.func28 (by kernel_rfl) rfl #[.agg #[.int .i64 a0_0, .slice A0_1 l0_1.length c0_1, .slice A0_2 l0_2.length c0_2]] rfl (by (try simp only [List.map_toArray, List.map_cons, List.map_nil]); first | done | rfl) ?_
       refine Law.at_world (fun w103 hw1 => ?_)
       have I1 : Law.Inv [Law.rowI (Kd.int .u8) 5 W.heap.size w50.heap.size w51.heap.size (fun _ => True) (.slice Ao53 r25.length co54) r92, Law.rowsI k67 67 W.heap.size w35.heap.size w36.heap.size (fun k_ => some k_ ≠ (.slice Ao39 r11.length co40 : Value).ownBlock) (.slice Ao42 r12.length co43) r80, Law.rowI (Kd.int .u8) 5 W.heap.size w35.heap.size w36.heap.size (fun _ => True) (.slice Ao39 r11.length co40) r79, Law.rowsI k67 67 w63.heap.size w63.heap.size w64.heap.size (fun k_ => some k_ ≠ (.slice Ao67 r11.length co68 : Value).ownBlock) (.slice Ao70 r12.length co71) r12, Law.rowI (Kd.int .u8) 5 w63.heap.size w63.heap.size w64.heap.size (fun _ => True) (.slice Ao67 r11.length co68) r11, Law.boxI gb46 #[.int .i64 r10, .slice Ao39 r11.length co40, .slice Ao42 r12.length co43] 47, Law.rowI (Kd.int .u8) 5 w28.heap.size w28.heap.size w29.heap.size (fun _ => True) (.slice Ao31 r25.length co32) r25, Law.rowsI k67 67 w14.heap.size w14.heap.size w15.heap.size (fun k_ => some k_ ≠ (.slice Ao18 r11.length co19 : Value).ownBlock) (.slice Ao21 r12.length co22) r12, Law.rowI (Kd.int .u8) 5 w14.heap.size w14.heap.size w15.heap.size (fun _ => True) (.slice Ao18 r11.length co19) r11, Law.boxI gb1 #[.int .i64 a0_0, .slice A0_1 l0_1.length c0_1, .slice A0_2 l0_2.length c0_2] 41] w103 := by rw [hw1]; (with_reducible repeat (first | apply Law.Inv.alloc | apply Law.Inv.drewN | apply Law.Inv.drew)); exact I
       have HB1 := Aside0.mk (show Below W.heap.size W w103 by rw [hw1]; repeat (first | (with_reducible first | exact HB.out | apply below_alloc | apply pw_below_drewN | apply below_drew1) | exact HB.out))
       clear I HB hw1
       have I := I1
       have HB := HB1
       clear I1 HB1
       refine (laws_toDevice.calls k a0_0 A0_1 c0_1 l0_1 A0_2 c0_2 l0_2 r10 r11 r12 w103 ?_ ?_ ?_ ?_ E13.out).mono ?_
       · exact Kd.C_below hr0_1 HB.out
       · exact hc0_1
       · exact Kd.C_below hr0_2 HB.out
       · exact hc0_2
       rintro e w104 ⟨v105, v106, rfl, hq0, hq1, hq2⟩
       refine ⟨_, rfl, ?_⟩
       obtain ⟨Ao107, co108, eo109⟩ := Kd.R_slice hq0
       subst eo109
       obtain ⟨Ao110, co111, eo112⟩ := Kd.S_slice hq1
       subst eo112
       have I1 : Law.Inv [Law.rowI (Kd.int .u8) 5 W.heap.size w50.heap.size w51.heap.size (fun _ => True) (.slice Ao53 r25.length co54) r92, Law.rowsI k67 67 W.heap.size w35.heap.size w36.heap.size (fun k_ => some k_ ≠ (.slice Ao39 r11.length co40 : Value).ownBlock) (.slice Ao42 r12.length co43) r80, Law.rowI (Kd.int .u8) 5 W.heap.size w35.heap.size w36.heap.size (fun _ => True) (.slice Ao39 r11.length co40) r79, Law.rowsI k67 67 w63.heap.size w63.heap.size w64.heap.size (fun k_ => some k_ ≠ (.slice Ao67 r11.length co68 : Value).ownBlock) (.slice Ao70 r12.length co71) r12, Law.rowI (Kd.int .u8) 5 w63.heap.size w63.heap.size w64.heap.size (fun _ => True) (.slice Ao67 r11.length co68) r11, Law.boxI gb46 #[.int .i64 r10, .slice Ao39 r11.length co40, .slice Ao42 r12.length co43] 47, Law.rowI (Kd.int .u8) 5 w28.heap.size w28.heap.size w29.heap.size (fun _ => True) (.slice Ao31 r25.length co32) r25, Law.rowsI k67 67 w14.heap.size w14.heap.size w15.heap.size (fun k_ => some k_ ≠ (.slice Ao18 r11.length co19 : Value).ownBlock) (.slice Ao21 r12.length co22) r12, Law.rowI (Kd.int .u8) 5 w14.heap.size w14.heap.size w15.heap.size (fun _ => True) (.slice Ao18 r11.length co19) r11, Law.boxI gb1 #[.int .i64 a0_0, .slice A0_1 l0_1.length c0_1, .slice A0_2 l0_2.length c0_2] 41] w104 := Law.Inv.below I hq2
       have HB1 := Aside0.mk (below_step HB.out hq2)
       have SZ113 := Aside0.mk (show W.heap.size ≤ w103.heap.size ∧ w51.heap.size ≤ w103.heap.size ∧ w36.heap.size ≤ w103.heap.size ∧ w36.heap.size ≤ w103.heap.size ∧ w64.heap.size ≤ w103.heap.size ∧ w64.heap.size ≤ w103.heap.size ∧ gb46 + 1 ≤ w103.heap.size ∧ w29.heap.size ≤ w103.heap.size ∧ w15.heap.size ≤ w103.heap.size ∧ w15.heap.size ≤ w103.heap.size ∧ gb1 + 1 ≤ w103.heap.size ∧ w103.heap.size ≤ w104.heap.size from ⟨HB.out.size, I.1.2, I.2.1.2, I.2.2.1.2, I.2.2.2.1.2, I.2.2.2.2.1.2, I.2.2.2.2.2.1.2, I.2.2.2.2.2.2.1.2, I.2.2.2.2.2.2.2.1.2, I.2.2.2.2.2.2.2.2.1.2, I.2.2.2.2.2.2.2.2.2.1.2, hq2.size⟩)
       have I1 : Law.Inv (Law.rowI (Kd.int .u8) 5 w103.heap.size w103.heap.size w104.heap.size (fun _ => True) (.slice Ao107 r11.length co108) r11 :: [Law.rowI (Kd.int .u8) 5 W.heap.size w50.heap.size w51.heap.size (fun _ => True) (.slice Ao53 r25.length co54) r92, Law.rowsI k67 67 W.heap.size w35.heap.size w36.heap.size (fun k_ => some k_ ≠ (.slice Ao39 r11.length co40 : Value).ownBlock) (.slice Ao42 r12.length co43) r80, Law.rowI (Kd.int .u8) 5 W.heap.size w35.heap.size w36.heap.size (fun _ => True) (.slice Ao39 r11.length co40) r79, Law.rowsI k67 67 w63.heap.size w63.heap.size w64.heap.size (fun k_ => some k_ ≠ (.slice Ao67 r11.length co68 : Value).ownBlock) (.slice Ao70 r12.length co71) r12, Law.rowI (Kd.int .u8) 5 w63.heap.size w63.heap.size w64.heap.size (fun _ => True) (.slice Ao67 r11.length co68) r11, Law.boxI gb46 #[.int .i64 r10, .slice Ao39 r11.length co40, .slice Ao42 r12.length co43] 47, Law.rowI (Kd.int .u8) 5 w28.heap.size w28.heap.size w29.heap.size (fun _ => True) (.slice Ao31 r25.length co32) r25, Law.rowsI k67 67 w14.heap.size w14.heap.size w15.heap.size (fun k_ => some k_ ≠ (.slice Ao18 r11.length co19 : Value).ownBlock) (.slice Ao21 r12.length co22) r12, Law.rowI (Kd.int .u8) 5 w14.heap.size w14.heap.size w15.heap.size (fun _ => True) (.slice Ao18 r11.length co19) r11, Law.boxI gb1 #[.int .i64 a0_0, .slice A0_1 l0_1.length c0_1, .slice A0_2 l0_2.length c0_2] 41]) w104 := ⟨Law.rowI_new hq0 (fun _ h => h), I1⟩
       have I1 : Law.Inv (Law.rowsI k67 67 w103.heap.size w103.heap.size w104.heap.size (fun k_ => some k_ ≠ (.slice Ao107 r11.length co108 : Value).ownBlock) (.slice Ao110 r12.length co111) r12 :: [Law.rowI (Kd.int .u8) 5 w103.heap.size w103.heap.size w104.heap.size (fun _ => True) (.slice Ao107 r11.length co108) r11, Law.rowI (Kd.int .u8) 5 W.heap.size w50.heap.size w51.heap.size (fun _ => True) (.slice Ao53 r25.length co54) r92, Law.rowsI k67 67 W.heap.size w35.heap.size w36.heap.size (fun k_ => some k_ ≠ (.slice Ao39 r11.length co40 : Value).ownBlock) (.slice Ao42 r12.length co43) r80, Law.rowI (Kd.int .u8) 5 W.heap.size w35.heap.size w36.heap.size (fun _ => True) (.slice Ao39 r11.length co40) r79, Law.rowsI k67 67 w63.heap.size w63.heap.size w64.heap.size (fun k_ => some k_ ≠ (.slice Ao67 r11.length co68 : Value).ownBlock) (.slice Ao70 r12.length co71) r12, Law.rowI (Kd.int .u8) 5 w63.heap.size w63.heap.size w64.heap.size (fun _ => True) (.slice Ao67 r11.length co68) r11, Law.boxI gb46 #[.int .i64 r10, .slice Ao39 r11.length co40, .slice Ao42 r12.length co43] 47, Law.rowI (Kd.int .u8) 5 w28.heap.size w28.heap.size w29.heap.size (fun _ => True) (.slice Ao31 r25.length co32) r25, Law.rowsI k67 67 w14.heap.size w14.heap.size w15.heap.size (fun k_ => some k_ ≠ (.slice Ao18 r11.length co19 : Value).ownBlock) (.slice Ao21 r12.length co22) r12, Law.rowI (Kd.int .u8) 5 w14.heap.size w14.heap.size w15.heap.size (fun _ => True) (.slice Ao18 r11.length co19) r11, Law.boxI gb1 #[.int .i64 a0_0, .slice A0_1 l0_1.length c0_1, .slice A0_2 l0_2.length c0_2] 41]) w104 := ⟨Law.rowsI_new hq1 (fun _ h => h), I1⟩
       clear I HB
       have I := I1
       have HB := HB1
       clear I1 HB1
       have hcz_gb1_w104_0 : w104.cell? ⟨gb1, 0, none⟩ = some (.int .i64 a0_0) := (blk_cell (Law.blk_of (I.2.2.2.2.2.2.2.2.2.2.2.1.1)) 0).trans rfl
       have hfz_gb1_w104_0 := blk_frozen (Law.blk_of (I.2.2.2.2.2.2.2.2.2.2.2.1.1)) 0
       have hcz_gb1_w104_1 : w104.cell? ⟨gb1, 1, none⟩ = some (.slice A0_1 l0_1.length c0_1) := (blk_cell (Law.blk_of (I.2.2.2.2.2.2.2.2.2.2.2.1.1)) 1).trans rfl
       have hfz_gb1_w104_1 := blk_frozen (Law.blk_of (I.2.2.2.2.2.2.2.2.2.2.2.1.1)) 1
       have hcz_gb1_w104_2 : w104.cell? ⟨gb1, 2, none⟩ = some (.slice A0_2 l0_2.length c0_2) := (blk_cell (Law.blk_of (I.2.2.2.2.2.2.2.2.2.2.2.1.1)) 2).trans rfl
       have hfz_gb1_w104_2 := blk_frozen (Law.blk_of (I.2.2.2.2.2.2.2.2.2.2.2.1.1)) 2
       have hcz_gb46_w104_0 : w104.cell? ⟨gb46, 0, none⟩ = some (.int .i64 r10) := (blk_cell (Law.blk_of (I.2.2.2.2.2.2.2.1.1)) 0).trans rfl
       have hfz_gb46_w104_0 := blk_frozen (Law.blk_of (I.2.2.2.2.2.2.2.1.1)) 0
       have hcz_gb46_w104_1 : w104.cell? ⟨gb46, 1, none⟩ = some (.slice Ao39 r11.length co40) := (blk_cell (Law.blk_of (I.2.2.2.2.2.2.2.1.1)) 1).trans rfl
       have hfz_gb46_w104_1 := blk_frozen (Law.blk_of (I.2.2.2.2.2.2.2.1.1)) 1
       have hcz_gb46_w104_2 : w104.cell? ⟨gb46, 2, none⟩ = some (.slice Ao42 r12.length co43) := (blk_cell (Law.blk_of (I.2.2.2.2.2.2.2.1.1)) 2).trans rfl
       have hfz_gb46_w104_2 := blk_frozen (Law.blk_of (I.2.2.2.2.2.2.2.1.1)) 2)
    | ((with_reducible refine gate_callee (f := 29) rfl ?_)
       refine goesL_ (some 81) rfl rfl Try.func29 (by kernel_rfl) rfl #[.agg #[.int .i64 r10, .slice Ao107 r11.length co108, .slice Ao110 r12.length co111], .int .i64 a1] rfl (by (try simp only [List.map_toArray, List.map_cons, List.map_nil]); first | done | rfl) ?_
       refine Law.at_world (fun w114 hw1 => ?_)
       have I1 : Law.Inv [Law.rowsI k67 67 w103.heap.size w103.heap.size w104.heap.size (fun k_ => some k_ ≠ (.slice Ao107 r11.length co108 : Value).ownBlock) (.slice Ao110 r12.length co111) r12, Law.rowI (Kd.int .u8) 5 w103.heap.size w103.heap.size w104.heap.size (fun _ => True) (.slice Ao107 r11.length co108) r11, Law.rowI (Kd.int .u8) 5 W.heap.size w50.heap.size w51.heap.size (fun _ => True) (.slice Ao53 r25.length co54) r92, Law.rowsI k67 67 W.heap.size w35.heap.size w36.heap.size (fun k_ => some k_ ≠ (.slice Ao39 r11.length co40 : Value).ownBlock) (.slice Ao42 r12.length co43) r80, Law.rowI (Kd.int .u8) 5 W.heap.size w35.heap.size w36.heap.size (fun _ => True) (.slice Ao39 r11.length co40) r79, Law.rowsI k67 67 w63.heap.size w63.heap.size w64.heap.size (fun k_ => some k_ ≠ (.slice Ao67 r11.length co68 : Value).ownBlock) (.slice Ao70 r12.length co71) r12, Law.rowI (Kd.int .u8) 5 w63.heap.size w63.heap.size w64.heap.size (fun _ => True) (.slice Ao67 r11.length co68) r11, Law.boxI gb46 #[.int .i64 r10, .slice Ao39 r11.length co40, .slice Ao42 r12.length co43] 47, Law.rowI (Kd.int .u8) 5 w28.heap.size w28.heap.size w29.heap.size (fun _ => True) (.slice Ao31 r25.length co32) r25, Law.rowsI k67 67 w14.heap.size w14.heap.size w15.heap.size (fun k_ => some k_ ≠ (.slice Ao18 r11.length co19 : Value).ownBlock) (.slice Ao21 r12.length co22) r12, Law.rowI (Kd.int .u8) 5 w14.heap.size w14.heap.size w15.heap.size (fun _ => True) (.slice Ao18 r11.length co19) r11, Law.boxI gb1 #[.int .i64 a0_0, .slice A0_1 l0_1.length c0_1, .slice A0_2 l0_2.length c0_2] 41] w114 := by rw [hw1]; (with_reducible repeat (first | apply Law.Inv.alloc | apply Law.Inv.drewN | apply Law.Inv.drew)); exact I
       have HB1 := Aside0.mk (show Below W.heap.size W w114 by rw [hw1]; repeat (first | (with_reducible first | exact HB.out | apply below_alloc | apply pw_below_drewN | apply below_drew1) | exact HB.out))
       clear I HB hw1
       have I := I1
       have HB := HB1
       clear I1 HB1
       refine (impl_DevRead.calls k r10 Ao107 co108 r11 Ao110 co111 r12 a1 r25 r26 w114 ?_ ?_ ?_ ?_ E49.out).mono ?_
       · exact (Kd.R_reads' (I.2.1.1)).2.2
       · exact (Kd.R_reads' (I.2.1.1)).2.1
       · exact (Kd.S_reads' (I.1.1)).2.2
       · exact (Kd.S_reads' (I.1.1)).2.1
       rintro e w115 ⟨v116, rfl, hq0, hq1⟩
       refine ⟨_, rfl, ?_⟩
       obtain ⟨Ao117, co118, eo119⟩ := Kd.R_slice hq0
       subst eo119
       have I1 : Law.Inv [Law.rowsI k67 67 w103.heap.size w103.heap.size w104.heap.size (fun k_ => some k_ ≠ (.slice Ao107 r11.length co108 : Value).ownBlock) (.slice Ao110 r12.length co111) r12, Law.rowI (Kd.int .u8) 5 w103.heap.size w103.heap.size w104.heap.size (fun _ => True) (.slice Ao107 r11.length co108) r11, Law.rowI (Kd.int .u8) 5 W.heap.size w50.heap.size w51.heap.size (fun _ => True) (.slice Ao53 r25.length co54) r92, Law.rowsI k67 67 W.heap.size w35.heap.size w36.heap.size (fun k_ => some k_ ≠ (.slice Ao39 r11.length co40 : Value).ownBlock) (.slice Ao42 r12.length co43) r80, Law.rowI (Kd.int .u8) 5 W.heap.size w35.heap.size w36.heap.size (fun _ => True) (.slice Ao39 r11.length co40) r79, Law.rowsI k67 67 w63.heap.size w63.heap.size w64.heap.size (fun k_ => some k_ ≠ (.slice Ao67 r11.length co68 : Value).ownBlock) (.slice Ao70 r12.length co71) r12, Law.rowI (Kd.int .u8) 5 w63.heap.size w63.heap.size w64.heap.size (fun _ => True) (.slice Ao67 r11.length co68) r11, Law.boxI gb46 #[.int .i64 r10, .slice Ao39 r11.length co40, .slice Ao42 r12.length co43] 47, Law.rowI (Kd.int .u8) 5 w28.heap.size w28.heap.size w29.heap.size (fun _ => True) (.slice Ao31 r25.length co32) r25, Law.rowsI k67 67 w14.heap.size w14.heap.size w15.heap.size (fun k_ => some k_ ≠ (.slice Ao18 r11.length co19 : Value).ownBlock) (.slice Ao21 r12.length co22) r12, Law.rowI (Kd.int .u8) 5 w14.heap.size w14.heap.size w15.heap.size (fun _ => True) (.slice Ao18 r11.length co19) r11, Law.boxI gb1 #[.int .i64 a0_0, .slice A0_1 l0_1.length c0_1, .slice A0_2 l0_2.length c0_2] 41] w115 := Law.Inv.below I hq1
       have HB1 := Aside0.mk (below_step HB.out hq1)
       have SZ120 := Aside0.mk (show W.heap.size ≤ w114.heap.size ∧ w104.heap.size ≤ w114.heap.size ∧ w104.heap.size ≤ w114.heap.size ∧ w51.heap.size ≤ w114.heap.size ∧ w36.heap.size ≤ w114.heap.size ∧ w36.heap.size ≤ w114.heap.size ∧ w64.heap.size ≤ w114.heap.size ∧ w64.heap.size ≤ w114.heap.size ∧ gb46 + 1 ≤ w114.heap.size ∧ w29.heap.size ≤ w114.heap.size ∧ w15.heap.size ≤ w114.heap.size ∧ w15.heap.size ≤ w114.heap.size ∧ gb1 + 1 ≤ w114.heap.size ∧ w114.heap.size ≤ w115.heap.size from ⟨HB.out.size, I.1.2, I.2.1.2, I.2.2.1.2, I.2.2.2.1.2, I.2.2.2.2.1.2, I.2.2.2.2.2.1.2, I.2.2.2.2.2.2.1.2, I.2.2.2.2.2.2.2.1.2, I.2.2.2.2.2.2.2.2.1.2, I.2.2.2.2.2.2.2.2.2.1.2, I.2.2.2.2.2.2.2.2.2.2.1.2, I.2.2.2.2.2.2.2.2.2.2.2.1.2, hq1.size⟩)
       have I1 : Law.Inv (Law.rowI (Kd.int .u8) 5 w114.heap.size w114.heap.size w115.heap.size (fun _ => True) (.slice Ao117 r25.length co118) r25 :: [Law.rowsI k67 67 w103.heap.size w103.heap.size w104.heap.size (fun k_ => some k_ ≠ (.slice Ao107 r11.length co108 : Value).ownBlock) (.slice Ao110 r12.length co111) r12, Law.rowI (Kd.int .u8) 5 w103.heap.size w103.heap.size w104.heap.size (fun _ => True) (.slice Ao107 r11.length co108) r11, Law.rowI (Kd.int .u8) 5 W.heap.size w50.heap.size w51.heap.size (fun _ => True) (.slice Ao53 r25.length co54) r92, Law.rowsI k67 67 W.heap.size w35.heap.size w36.heap.size (fun k_ => some k_ ≠ (.slice Ao39 r11.length co40 : Value).ownBlock) (.slice Ao42 r12.length co43) r80, Law.rowI (Kd.int .u8) 5 W.heap.size w35.heap.size w36.heap.size (fun _ => True) (.slice Ao39 r11.length co40) r79, Law.rowsI k67 67 w63.heap.size w63.heap.size w64.heap.size (fun k_ => some k_ ≠ (.slice Ao67 r11.length co68 : Value).ownBlock) (.slice Ao70 r12.length co71) r12, Law.rowI (Kd.int .u8) 5 w63.heap.size w63.heap.size w64.heap.size (fun _ => True) (.slice Ao67 r11.length co68) r11, Law.boxI gb46 #[.int .i64 r10, .slice Ao39 r11.length co40, .slice Ao42 r12.length co43] 47, Law.rowI (Kd.int .u8) 5 w28.heap.size w28.heap.size w29.heap.size (fun _ => True) (.slice Ao31 r25.length co32) r25, Law.rowsI k67 67 w14.heap.size w14.heap.size w15.heap.size (fun k_ => some k_ ≠ (.slice Ao18 r11.length co19 : Value).ownBlock) (.slice Ao21 r12.length co22) r12, Law.rowI (Kd.int .u8) 5 w14.heap.size w14.heap.size w15.heap.size (fun _ => True) (.slice Ao18 r11.length co19) r11, Law.boxI gb1 #[.int .i64 a0_0, .slice A0_1 l0_1.length c0_1, .slice A0_2 l0_2.length c0_2] 41]) w115 := ⟨Law.rowI_new hq0 (fun _ h => h), I1⟩
       clear I HB
       have I := I1
       have HB := HB1
       clear I1 HB1
       have hcz_gb1_w115_0 : w115.cell? ⟨gb1, 0, none⟩ = some (.int .i64 a0_0) := (blk_cell (Law.blk_of (I.2.2.2.2.2.2.2.2.2.2.2.2.1.1)) 0).trans rfl
       have hfz_gb1_w115_0 := blk_frozen (Law.blk_of (I.2.2.2.2.2.2.2.2.2.2.2.2.1.1)) 0
       have hcz_gb1_w115_1 : w115.cell? ⟨gb1, 1, none⟩ = some (.slice A0_1 l0_1.length c0_1) := (blk_cell (Law.blk_of (I.2.2.2.2.2.2.2.2.2.2.2.2.1.1)) 1).trans rfl
       have hfz_gb1_w115_1 := blk_frozen (Law.blk_of (I.2.2.2.2.2.2.2.2.2.2.2.2.1.1)) 1
       have hcz_gb1_w115_2 : w115.cell? ⟨gb1, 2, none⟩ = some (.slice A0_2 l0_2.length c0_2) := (blk_cell (Law.blk_of (I.2.2.2.2.2.2.2.2.2.2.2.2.1.1)) 2).trans rfl
       have hfz_gb1_w115_2 := blk_frozen (Law.blk_of (I.2.2.2.2.2.2.2.2.2.2.2.2.1.1)) 2
       have hcz_gb46_w115_0 : w115.cell? ⟨gb46, 0, none⟩ = some (.int .i64 r10) := (blk_cell (Law.blk_of (I.2.2.2.2.2.2.2.2.1.1)) 0).trans rfl
       have hfz_gb46_w115_0 := blk_frozen (Law.blk_of (I.2.2.2.2.2.2.2.2.1.1)) 0
       have hcz_gb46_w115_1 : w115.cell? ⟨gb46, 1, none⟩ = some (.slice Ao39 r11.length co40) := (blk_cell (Law.blk_of (I.2.2.2.2.2.2.2.2.1.1)) 1).trans rfl
       have hfz_gb46_w115_1 := blk_frozen (Law.blk_of (I.2.2.2.2.2.2.2.2.1.1)) 1
       have hcz_gb46_w115_2 : w115.cell? ⟨gb46, 2, none⟩ = some (.slice Ao42 r12.length co43) := (blk_cell (Law.blk_of (I.2.2.2.2.2.2.2.2.1.1)) 2).trans rfl
       have hfz_gb46_w115_2 := blk_frozen (Law.blk_of (I.2.2.2.2.2.2.2.2.1.1)) 2)
    | ((with_reducible refine gate_callee (f := 30) rfl ?_)
       refine goesL_ (some 86) rfl rfl Try.func30 (by kernel_rfl) rfl #[.slice Ao117 r25.length co118, .slice Ao31 r25.length co32] rfl (by (try simp only [List.map_toArray, List.map_cons, List.map_nil]); first | done | rfl) ?_
       refine Law.at_world (fun w121 hw1 => ?_)
       have I1 : Law.Inv [Law.rowI (Kd.int .u8) 5 w114.heap.size w114.heap.size w115.heap.size (fun _ => True) (.slice Ao117 r25.length co118) r25, Law.rowsI k67 67 w103.heap.size w103.heap.size w104.heap.size (fun k_ => some k_ ≠ (.slice Ao107 r11.length co108 : Value).ownBlock) (.slice Ao110 r12.length co111) r12, Law.rowI (Kd.int .u8) 5 w103.heap.size w103.heap.size w104.heap.size (fun _ => True) (.slice Ao107 r11.length co108) r11, Law.rowI (Kd.int .u8) 5 W.heap.size w50.heap.size w51.heap.size (fun _ => True) (.slice Ao53 r25.length co54) r92, Law.rowsI k67 67 W.heap.size w35.heap.size w36.heap.size (fun k_ => some k_ ≠ (.slice Ao39 r11.length co40 : Value).ownBlock) (.slice Ao42 r12.length co43) r80, Law.rowI (Kd.int .u8) 5 W.heap.size w35.heap.size w36.heap.size (fun _ => True) (.slice Ao39 r11.length co40) r79, Law.rowsI k67 67 w63.heap.size w63.heap.size w64.heap.size (fun k_ => some k_ ≠ (.slice Ao67 r11.length co68 : Value).ownBlock) (.slice Ao70 r12.length co71) r12, Law.rowI (Kd.int .u8) 5 w63.heap.size w63.heap.size w64.heap.size (fun _ => True) (.slice Ao67 r11.length co68) r11, Law.boxI gb46 #[.int .i64 r10, .slice Ao39 r11.length co40, .slice Ao42 r12.length co43] 47, Law.rowI (Kd.int .u8) 5 w28.heap.size w28.heap.size w29.heap.size (fun _ => True) (.slice Ao31 r25.length co32) r25, Law.rowsI k67 67 w14.heap.size w14.heap.size w15.heap.size (fun k_ => some k_ ≠ (.slice Ao18 r11.length co19 : Value).ownBlock) (.slice Ao21 r12.length co22) r12, Law.rowI (Kd.int .u8) 5 w14.heap.size w14.heap.size w15.heap.size (fun _ => True) (.slice Ao18 r11.length co19) r11, Law.boxI gb1 #[.int .i64 a0_0, .slice A0_1 l0_1.length c0_1, .slice A0_2 l0_2.length c0_2] 41] w121 := by rw [hw1]; (with_reducible repeat (first | apply Law.Inv.alloc | apply Law.Inv.drewN | apply Law.Inv.drew)); exact I
       have HB1 := Aside0.mk (show Below W.heap.size W w121 by rw [hw1]; repeat (first | (with_reducible first | exact HB.out | apply below_alloc | apply pw_below_drewN | apply below_drew1) | exact HB.out))
       clear I HB hw1
       have I := I1
       have HB := HB1
       clear I1 HB1
       refine (laws_eqByteS.calls k Ao117 co118 r25 Ao31 co32 r25 true w121 ?_ ?_ ?_ ?_ E57.out).mono ?_
       · exact (Kd.R_reads' (I.1.1)).2.2
       · exact (Kd.R_reads' (I.1.1)).2.1
       · exact (Kd.R_reads' (I.2.2.2.2.2.2.2.2.2.1.1)).2.2
       · exact (Kd.R_reads' (I.2.2.2.2.2.2.2.2.2.1.1)).2.1
       rintro e w122 ⟨rfl, hq0⟩
       refine ⟨_, rfl, ?_⟩
       have hbb : Below w121.heap.size w121 w122 := by obtain ⟨nd, rfl⟩ := hq0; exact pw_below_drewN (Below.refl _ _) nd
       have I1 : Law.Inv [Law.rowI (Kd.int .u8) 5 w114.heap.size w114.heap.size w115.heap.size (fun _ => True) (.slice Ao117 r25.length co118) r25, Law.rowsI k67 67 w103.heap.size w103.heap.size w104.heap.size (fun k_ => some k_ ≠ (.slice Ao107 r11.length co108 : Value).ownBlock) (.slice Ao110 r12.length co111) r12, Law.rowI (Kd.int .u8) 5 w103.heap.size w103.heap.size w104.heap.size (fun _ => True) (.slice Ao107 r11.length co108) r11, Law.rowI (Kd.int .u8) 5 W.heap.size w50.heap.size w51.heap.size (fun _ => True) (.slice Ao53 r25.length co54) r92, Law.rowsI k67 67 W.heap.size w35.heap.size w36.heap.size (fun k_ => some k_ ≠ (.slice Ao39 r11.length co40 : Value).ownBlock) (.slice Ao42 r12.length co43) r80, Law.rowI (Kd.int .u8) 5 W.heap.size w35.heap.size w36.heap.size (fun _ => True) (.slice Ao39 r11.length co40) r79, Law.rowsI k67 67 w63.heap.size w63.heap.size w64.heap.size (fun k_ => some k_ ≠ (.slice Ao67 r11.length co68 : Value).ownBlock) (.slice Ao70 r12.length co71) r12, Law.rowI (Kd.int .u8) 5 w63.heap.size w63.heap.size w64.heap.size (fun _ => True) (.slice Ao67 r11.length co68) r11, Law.boxI gb46 #[.int .i64 r10, .slice Ao39 r11.length co40, .slice Ao42 r12.length co43] 47, Law.rowI (Kd.int .u8) 5 w28.heap.size w28.heap.size w29.heap.size (fun _ => True) (.slice Ao31 r25.length co32) r25, Law.rowsI k67 67 w14.heap.size w14.heap.size w15.heap.size (fun k_ => some k_ ≠ (.slice Ao18 r11.length co19 : Value).ownBlock) (.slice Ao21 r12.length co22) r12, Law.rowI (Kd.int .u8) 5 w14.heap.size w14.heap.size w15.heap.size (fun _ => True) (.slice Ao18 r11.length co19) r11, Law.boxI gb1 #[.int .i64 a0_0, .slice A0_1 l0_1.length c0_1, .slice A0_2 l0_2.length c0_2] 41] w122 := Law.Inv.below I hbb
       have HB1 := Aside0.mk (below_step HB.out hbb)
       have SZ123 := Aside0.mk (show W.heap.size ≤ w121.heap.size ∧ w115.heap.size ≤ w121.heap.size ∧ w104.heap.size ≤ w121.heap.size ∧ w104.heap.size ≤ w121.heap.size ∧ w51.heap.size ≤ w121.heap.size ∧ w36.heap.size ≤ w121.heap.size ∧ w36.heap.size ≤ w121.heap.size ∧ w64.heap.size ≤ w121.heap.size ∧ w64.heap.size ≤ w121.heap.size ∧ gb46 + 1 ≤ w121.heap.size ∧ w29.heap.size ≤ w121.heap.size ∧ w15.heap.size ≤ w121.heap.size ∧ w15.heap.size ≤ w121.heap.size ∧ gb1 + 1 ≤ w121.heap.size ∧ w121.heap.size ≤ w122.heap.size from ⟨HB.out.size, I.1.2, I.2.1.2, I.2.2.1.2, I.2.2.2.1.2, I.2.2.2.2.1.2, I.2.2.2.2.2.1.2, I.2.2.2.2.2.2.1.2, I.2.2.2.2.2.2.2.1.2, I.2.2.2.2.2.2.2.2.1.2, I.2.2.2.2.2.2.2.2.2.1.2, I.2.2.2.2.2.2.2.2.2.2.1.2, I.2.2.2.2.2.2.2.2.2.2.2.1.2, I.2.2.2.2.2.2.2.2.2.2.2.2.1.2, hbb.size⟩)
       clear I HB
       have I := I1
       have HB := HB1
       clear I1 HB1
       have hcz_gb1_w122_0 : w122.cell? ⟨gb1, 0, none⟩ = some (.int .i64 a0_0) := (blk_cell (Law.blk_of (I.2.2.2.2.2.2.2.2.2.2.2.2.1.1)) 0).trans rfl
       have hfz_gb1_w122_0 := blk_frozen (Law.blk_of (I.2.2.2.2.2.2.2.2.2.2.2.2.1.1)) 0
       have hcz_gb1_w122_1 : w122.cell? ⟨gb1, 1, none⟩ = some (.slice A0_1 l0_1.length c0_1) := (blk_cell (Law.blk_of (I.2.2.2.2.2.2.2.2.2.2.2.2.1.1)) 1).trans rfl
       have hfz_gb1_w122_1 := blk_frozen (Law.blk_of (I.2.2.2.2.2.2.2.2.2.2.2.2.1.1)) 1
       have hcz_gb1_w122_2 : w122.cell? ⟨gb1, 2, none⟩ = some (.slice A0_2 l0_2.length c0_2) := (blk_cell (Law.blk_of (I.2.2.2.2.2.2.2.2.2.2.2.2.1.1)) 2).trans rfl
       have hfz_gb1_w122_2 := blk_frozen (Law.blk_of (I.2.2.2.2.2.2.2.2.2.2.2.2.1.1)) 2
       have hcz_gb46_w122_0 : w122.cell? ⟨gb46, 0, none⟩ = some (.int .i64 r10) := (blk_cell (Law.blk_of (I.2.2.2.2.2.2.2.2.1.1)) 0).trans rfl
       have hfz_gb46_w122_0 := blk_frozen (Law.blk_of (I.2.2.2.2.2.2.2.2.1.1)) 0
       have hcz_gb46_w122_1 : w122.cell? ⟨gb46, 1, none⟩ = some (.slice Ao39 r11.length co40) := (blk_cell (Law.blk_of (I.2.2.2.2.2.2.2.2.1.1)) 1).trans rfl
       have hfz_gb46_w122_1 := blk_frozen (Law.blk_of (I.2.2.2.2.2.2.2.2.1.1)) 1
       have hcz_gb46_w122_2 : w122.cell? ⟨gb46, 2, none⟩ = some (.slice Ao42 r12.length co43) := (blk_cell (Law.blk_of (I.2.2.2.2.2.2.2.2.1.1)) 2).trans rfl
       have hfz_gb46_w122_2 := blk_frozen (Law.blk_of (I.2.2.2.2.2.2.2.2.1.1)) 2))
  try go_wp2
  go_ret
  exact ⟨rfl, by repeat (first | (with_reducible first | exact HB.out | apply below_alloc | apply pw_below_drewN | apply below_drew1) | exact HB.out)⟩
set_option maxHeartbeats 16000000 in
set_option maxRecDepth 100000 in
theorem laws_FnExactDevRead.walk (a0_0 : Int) (A0_1 : Option Addr) (c0_1 : Nat) (l0_1 : List Int) (A0_2 : Option Addr) (c0_2 : Nat) (l0_2 : List S127) (a1 : Int) (W : World) (hr0_1 : Kd.C (Kd.int .u8) W A0_1 l0_1.length l0_1) (hc0_1 : l0_1.length ≤ c0_1) (hr0_2 : Kd.C k127 W A0_2 l0_2.length l0_2) (hc0_2 : l0_2.length ≤ c0_2) (h : laws_FnExactDevRead.Facts a0_0 l0_1 l0_2 a1) :
    Calls Try.prog 5 #[.agg #[.int .i64 a0_0, .slice A0_1 l0_1.length c0_1, .slice A0_2 l0_2.length c0_2], .int .i64 a1] W fun e w' => e = .returned (.bool true) ∧ Below W.heap.size W w' := by
  rcases h with ⟨x0, x1, y0, y1⟩ | ⟨x0, x1, x2, x3, x4, x5, x6, x7, x8, x9, x10, x11, y0, y1, y2, y3, y4, y5, y6, y7, y8, y9, y10, y11⟩
  · exact laws_FnExactDevRead.walk0 a0_0 A0_1 c0_1 l0_1 A0_2 c0_2 l0_2 a1 W hr0_1 hc0_1 hr0_2 hc0_2 x0 x1 y0 y1
  · exact laws_FnExactDevRead.walk1 a0_0 A0_1 c0_1 l0_1 A0_2 c0_2 l0_2 a1 W hr0_1 hc0_1 hr0_2 hc0_2 x0 x1 x2 x3 x4 x5 x6 x7 x8 x9 x10 x11 y0 y1 y2 y3 y4 y5 y6 y7 y8 y9 y10 y11

end Go.Proofs.Ytbimmmmjdimebaa.PFnExactDevRead
